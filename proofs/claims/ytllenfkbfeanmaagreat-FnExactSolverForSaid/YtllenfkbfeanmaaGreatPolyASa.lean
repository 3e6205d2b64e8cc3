/-
  CONTRACT: the search for polymorphisms, the reference's side: the lists of a relation are added.
-/
import Derived.Test.YtllenfkbfeanmaaGreatPolyNSa
namespace Go.Proofs.YtllenfkbfeanmaaGreat
open Go.RowKit Go.Shelf Go.IntWalk
open Rep (Rd Own sz)
set_option linter.unusedSimpArgs false
set_option linter.unusedVariables false

theorem E_conds : ElemT Tryz.prog 168 167 OpT (.agg #[.int .i64 0, .slice none 0 0]) 32 := ElemT.mk' Tryz.underlying168 (by kernel_rfl) rfl (by decide) (by decide)
theorem ip_icA {β : Type} [Rep β] {A : Nat → Prop} {w : World} {v : Value} {k : Int} {T : β} (hk : I64 k) (h : Ip A w [v] T) : Ip A w [.int .i64 k, v] (k, T) := by
  obtain ⟨ps, h1, h2, h3⟩ := h
  exact ⟨ps, mk_own (p := []) ⟨rfl, rfl, hk⟩ h1, by simpa using h2, fun z hz => h3 z (by simpa using hz)⟩
theorem RunM.up {α β : Type} [Rep α] [Rep β] {lo hi : Nat} {w : World} {cb n : Nat} {es ec : TypeId} {sv : Value} {S : List α} {L : Nat → List β} (h : RunM lo hi w cb n es ec sv S L) {hi' : Nat} (hh : hi ≤ hi') : RunM lo hi' w cb n es ec sv S L := by
  obtain ⟨f, cur, ty, h1, h2, h3, h4, h5⟩ := h
  exact ⟨f, cur, ty, h1, h2, h3, h4.wk (fun z hz => ⟨⟨hz.1.1, by omega⟩, hz.2⟩), fun p hp => by
    obtain ⟨v, hv, hA⟩ := h5 p hp
    exact ⟨v, hv, hA.wk (fun z hz => ⟨⟨hz.1.1, by omega⟩, hz.2⟩)⟩⟩
/-- The lists of relation j, up to number k. -/
def looksK (t : Tmpl) (m j k : Nat) : List OpT := looksTo t m j ++ (List.range k).map (lookN t.1 m j (t.2.getD j (0, [])))
theorem looksK_zero (t : Tmpl) (m j : Nat) : looksK t m j 0 = looksTo t m j := by simp [looksK]
theorem looksK_succ (t : Tmpl) (m j k : Nat) : looksK t m j (k + 1) = looksK t m j k ++ [lookN t.1 m j (t.2.getD j (0, [])) k] := by
  unfold looksK; rw [looksR_succ, List.append_assoc]
theorem looksK_end (t : Tmpl) (m j k : Nat) (h : (t.2.getD j (0, [])).2.length ^ m = k) : looksK t m j k = looksTo t m (j + 1) := by
  unfold looksK; rw [looksTo]; unfold looksR; rw [h]
theorem due_push (L : List OpT) (l : OpT) (p : Nat) (h : maxC l.2 = (p : Int)) : (fun q => if q = p then dueL L p ++ [l] else dueL L q) = dueL (L ++ [l]) := by
  funext q
  rw [dueL_snoc]
  by_cases hq : q = p
  · subst hq; rw [if_pos rfl, if_pos h]
  · rw [if_neg hq, if_neg (by omega)]
theorem maxC_snoc (l : List Int) (a : Int) : maxC (l ++ [a]) = max (maxC l) a := by simp [maxC]
theorem pow_pos_of {c m k : Nat} (hm : 1 ≤ m) (h : k < c ^ m) : 1 ≤ c := by
  rcases Nat.eq_zero_or_pos c with h0 | h0
  · subst h0
    rw [Nat.zero_pow (by omega)] at h
    omega
  · exact h0
theorem butp_set {A : Nat → Prop} {w w' : World} {b o : Nat} (h : ButP A w w') (u : Value) (hA : A b) : ButP A w (w'.setCell ⟨b, o, none⟩ u) :=
  ⟨h.os, h.tape, h.output, by simpa [World.setCell] using h.size, fun k hk hn => by rw [Below.heap_setCell _ _ _ _ (fun e => by (try simp only at e); subst e; exact hn hA)]; exact h.block k hk hn⟩
/-- Relation j of a template that can be read. -/
theorem tmpl_at {w : World} {size : Int} {rs : List RelT} {a : Option Addr} {n c : Nat} (h : Rd w [.int .i64 size, .slice a n c] ((size, rs) : Tmpl)) {j : Nat} (hj : j < rs.length) :
    ∃ b o aS cS, a = some ⟨b, o, none⟩ ∧ w.cell? ⟨b, o + j * 2, none⟩ = some (.int .i64 (rs.getD j (0, [])).1) ∧ w.cell? ⟨b, o + j * 2 + 1, none⟩ = some (.slice aS (rs.getD j (0, [])).2.length cS) ∧ Rd w [.slice aS (rs.getD j (0, [])).2.length cS] (rs.getD j (0, [])).2 := by
  have zt := rd_cons rfl h
  obtain ⟨aT', cT', eT, hrs⟩ := rd_list zt.2
  simp only [Value.slice.injEq] at eT
  obtain ⟨rfl, -, rfl⟩ := eT
  obtain ⟨bR, oR, u0, u1, rfl, q0, q1, hy⟩ := rdSl_two rfl hrs j hj
  have hy0 := rd_cons rfl hy
  obtain ⟨rfl, _⟩ := rd_i1 hy0.1
  obtain ⟨aS, cS, rfl, _⟩ := rd_list hy0.2
  rw [show rs[j] = rs.getD j (0, []) by simp [List.getD, hj]] at q0 q1 hy0
  exact ⟨bR, oR, aS, cS, rfl, q0, q1, hy0.2⟩
set_option maxRecDepth 100000 in
set_option maxHeartbeats 16000000 in
theorem add_c (t : Tmpl) (m j lo hi n rb cb tp at_ : Nat) (PW : Nat) (es : TypeId) (sv : Value) (S : List PSet) (w : World) (hok : tmplOk t = true) (hm : 1 ≤ m ∧ m ≤ 3) (hj : j < t.2.length)
    (hpw : (t.2.getD j (0, [])).2.length ^ m = PW) (hp4 : manyTo t m j + PW ≤ 4000) (hn : t.1 ^ m = (n : Int)) (hn4 : n ≤ 64) (hM : RunM lo hi w cb n es 167 sv S (dueL (looksTo t m j))) (hhi : hi ≤ w.heap.size) (hlo : lo ≤ hi)
    (aT : Option Addr) (cT : Nat) (hT : ∀ w', ButP (fun z => z = cb ∨ lo ≤ z) w w' → Rd w' [.int .i64 t.1, .slice aT t.2.length cT] t) (hrb : rb < lo ∧ rb ≠ cb) (htp : tp < lo ∧ tp ≠ cb)
    (c0 : w.cell? ⟨rb, 0, none⟩ = some (.pointer (some ⟨tp, 0, none⟩))) (c1 : w.cell? ⟨rb, 1, none⟩ = some (.int .i64 m)) (c3 : w.cell? ⟨rb, 3, none⟩ = some (.slice (some ⟨cb, 0, none⟩) n n))
    (e0 : w.cell? ⟨tp, 0, none⟩ = some (.int .i64 t.1)) (e1 : w.cell? ⟨tp, 1, none⟩ = some (.slice aT t.2.length cT)) :
    Calls Tryz.prog 77 #[.pointer (some ⟨rb, 0, none⟩), .int .i64 j] w fun e w' => e = .returned (.tuple #[]) ∧ RunM lo w'.heap.size w' cb n es 167 sv S (dueL (looksTo t m (j + 1))) ∧ ButP (fun z => z = cb ∨ lo ≤ z) w w' := by
  have hs := (tmplOk_get hok).1
  have hrm : t.2.getD j (0, []) ∈ t.2 := by simp [List.getD, hj]
  have hrok := (tmplOk_get hok).2.2 _ hrm
  have har := (relOk_get hrok).2.1
  have hcnt := (relOk_count hrok).2
  have hrl := (tmplOk_get hok).2.1
  obtain ⟨size, rs⟩ := t
  simp only at hj hT e0 e1 hs hrok hn hrm har hcnt hpw hrl
  have HMN := Lib.hid hp4
  have hp4 : PW ≤ 4000 := by omega
  obtain ⟨bR, oR, aS, cS, rfl, q0, q1, hTS⟩ := tmpl_at (hT w (ButP.refl _ _)) hj
  have hjI : (j : Int) < rs.length := by omega
  have HT := Lib.hid hT
  have HM := Lib.hid hM
  have HOK := Lib.hid hok
  have HROK := Lib.hid hrok
  have HN := Lib.hid hn
  have HPW := Lib.hid hpw
  clear hTS hT hM hok hrok hrm hn hpw
  generalize hRN : rs.getD j (0, []) = RN at *
  have HRN := Lib.hid hRN
  clear hRN
  obtain ⟨ar, ts⟩ := RN
  simp only at har hcnt q0 q1
  obtain ⟨AR, rfl⟩ : ∃ AR : Nat, ar = (AR : Int) := ⟨ar.toNat, by omega⟩
  go_enter Tryz.func77, Tryz.ntmps77
  go_wp2_with fail
  have HB0 := Lib.hid (ButP.refl (fun z => z = cb ∨ lo ≤ z) w)
  go_loopw [6] (fun i wl => ∃ k : Nat, k ≤ PW ∧ i = .int .i64 k ∧ Hid (hi ≤ wl.heap.size) ∧ Hid (ButP (fun z => z = cb ∨ lo ≤ z) w wl) ∧ Hid (RunM lo wl.heap.size wl cb n es 167 sv S (dueL (looksK (size, rs) m j k)))) (fun i _ => PW - (intOf i).toNat)
  case atStart =>
    refine ⟨0, Nat.zero_le _, rfl, hhi, HB0.out, ?_⟩
    rw [looksK_zero]
    exact HM.out.up hhi
  case round =>
    clear HB0 HM
    obtain ⟨wo, rfl⟩ : ∃ x, x = wr := ⟨_, rfl⟩
    obtain ⟨k, hk, rfl, hsz, hbt, hrm⟩ := hrel
    have hszr := hsz.out
    have HRM := hrm
    have HBW := hbt
    have d0 := cellB hbt.out c0 (by simp only [not_or]; omega)
    have d1 := cellB hbt.out c1 (by simp only [not_or]; omega)
    have d3 := cellB hbt.out c3 (by simp only [not_or]; omega)
    have g0 := cellB hbt.out e0 (by simp only [not_or]; omega)
    have HTW := Lib.hid (HT.out wo hbt.out)
    obtain ⟨b', o', aS2, cS2, e', x0, x1, hTS⟩ := tmpl_at HTW.out hj
    simp only [Option.some.injEq, Addr.mk.injEq, and_true] at e'
    obtain ⟨rfl, rfl⟩ := e'
    rw [HRN.out] at x0 x1 hTS
    simp only at x0 x1 hTS
    have HTS := Lib.hid hTS
    clear hTS hsz hbt hrm
    have d0_ := cellL (St.start wo).bel d0
    clear d0_
    have d0_ := cellL (St.start wo).bel d0
    have d1_ := cellL (St.start wo).bel d1
    clear d0_ d1_
    have d0_ := cellL (St.start wo).bel d0
    have d1_ := cellL (St.start wo).bel d1
    have d3_ := cellL (St.start wo).bel d3
    clear d0_ d1_ d3_
    have d0_ := cellL (St.start wo).bel d0
    have d1_ := cellL (St.start wo).bel d1
    have d3_ := cellL (St.start wo).bel d3
    have g0_ := cellL (St.start wo).bel g0
    clear d0_ d1_ d3_ g0_
    have d0_ := cellL (St.start wo).bel d0
    have d1_ := cellL (St.start wo).bel d1
    have d3_ := cellL (St.start wo).bel d3
    have g0_ := cellL (St.start wo).bel g0
    have x0_ := cellL (St.start wo).bel x0
    clear d0_ d1_ d3_ g0_ x0_
    have d0_ := cellL (St.start wo).bel d0
    have d1_ := cellL (St.start wo).bel d1
    have d3_ := cellL (St.start wo).bel d3
    have g0_ := cellL (St.start wo).bel g0
    have x0_ := cellL (St.start wo).bel x0
    have x1_ := cellL (St.start wo).bel x1
    clear d0_ d1_ d3_ g0_ x0_ x1_
    have d0_ := cellL (St.start wo).bel d0
    have d1_ := cellL (St.start wo).bel d1
    have d3_ := cellL (St.start wo).bel d3
    have g0_ := cellL (St.start wo).bel g0
    have x0_ := cellL (St.start wo).bel x0
    have x1_ := cellL (St.start wo).bel x1
    have HPW2 := Lib.hid (show (ts.length : Int) ^ m = (PW : Int) by rw [← HPW.out]; exact (Int.natCast_pow _ _).symm)
    go_wp2_with fail
    refine (l01Power_c ts.length m _ (by omega) (by omega) (by omega) (by rw [Int.toNat_natCast, HPW2.out]; omega)).mono ?_
    rintro e w1 ⟨rfl, rfl, rfl⟩
    rw [Int.toNat_natCast, HPW2.out]
    by_cases hlt : k < PW
    · have hltI : (k : Int) < PW := by omega
      have hcp := pow_pos_of (c := ts.length) hm.1 (k := k) (by have := HPW.out; omega)
      go_wp2_with fail
      refine (l01Digits_c ts.length m k _ (by omega) (by omega) (by omega) (by omega) (by omega) (by omega)).mono ?_
      rintro e w2 ⟨vd, rfl, fr, hbw2⟩
      have hz_w2 : wo.heap.size ≤ w2.heap.size := by have h9 := hbw2.size; (try simp at h9); omega
      have hs3 := (St.start wo).step hbw2
      clear d0_ d1_ d3_ g0_ x0_ x1_
      have d0_ := cellL hs3.bel d0
      have d1_ := cellL hs3.bel d1
      have d3_ := cellL hs3.bel d3
      have g0_ := cellL hs3.bel g0
      have x0_ := cellL hs3.bel x0
      have x1_ := cellL hs3.bel x1
      rw [Int.toNat_natCast] at fr
      have HDM := Lib.hid (digs_mem ts.length (by omega) m (k : Int))
      obtain ⟨DG, hDG⟩ : ∃ DG, DG = digs (ts.length : Int) m (k : Int) := ⟨_, rfl⟩
      rw [← hDG] at fr HDM
      have HDL := Lib.hid (show DG.length = m by rw [hDG]; simp)
      have HDG := Lib.hid hDG
      clear hDG
      obtain ⟨aD, cD, rfl, _⟩ := rd_list fr.rd
      have HDR := Lib.hid fr.rd
      clear fr
      go_upto_region 7 with fail
      have HDR2 := Lib.hid HDR.out
      have hs4 := hs3.alloc #[.int .i64 j, .slice none 0 0] 167 (n := w2.heap.size) (by simp)
      have HDR_5 := Lib.hid (Rd.mono HDR.out (belowA _ (.cells #[.int .i64 j, .slice none 0 0] 167)))
      clear HDR
      clear d0_ d1_ d3_ g0_ x0_ x1_
      have k0_0 := hs4.cellAt 0 rfl 0 rfl
      have k0_1 := hs4.cellAt 0 rfl 1 rfl
      have d0_ := cellL hs4.bel d0
      have d1_ := cellL hs4.bel d1
      have d3_ := cellL hs4.bel d3
      have g0_ := cellL hs4.bel g0
      have x0_ := cellL hs4.bel x0
      have x1_ := cellL hs4.bel x1
      have HBL9 := Lib.hid (belowA w2 (.cells #[.int .i64 j, .slice none 0 0] 167))
      have hz_wC : w2.heap.size + 1 ≤ ((w2.alloc (.cells #[.int .i64 j, .slice none 0 0] 167))).heap.size := by simp
      generalize hgen_wC : (w2.alloc (.cells #[.int .i64 j, .slice none 0 0] 167)) = wC at *
      clear hgen_wC
      obtain ⟨CA, hCA⟩ : ∃ z, z = w2.heap.size := ⟨_, rfl⟩
      have HST := Lib.hid hs4
      have hWB : w2.heap.size = CA := hCA.symm
      have hzC : wo.heap.size ≤ CA := by omega
      have hzC2 : CA + 1 ≤ wC.heap.size := by omega
      rw [← hCA] at HST HBL9 ⊢
      clear hCA
      have HWB := Lib.hid hWB
      clear hWB
      go_wp2_with fail
      generalize hCL : cellsL size m ((AR : Int), ts) k = CL at *
      have HCL := Lib.hid hCL
      have HCLL := Lib.hid (show CL.length = AR by rw [← hCL]; simp [cellsL])
      clear hCL
      go_loopw [9, 10] (fun la ix wl => ∃ (p : Nat) (s : Option Addr) (cs : Nat), p ≤ AR ∧ ix = .int .i64 p ∧ la = .int .i64 (maxC (CL.take p)) ∧ Hid (St wo (CA + 1) wl [(CA, #[.int .i64 j, .slice s p cs], 167)]) ∧ Hid (AccP (fun z => CA + 1 ≤ z ∧ z < wl.heap.size) 2 wl (.slice s p cs) (CL.take p)) ∧ Hid (Below CA w2 wl)) (fun _ ix _ => AR - (intOf ix).toNat)
      case atStart => exact ⟨0, none, 0, Nat.zero_le _, rfl, by simp [maxC], HST.out, by simpa [Hid] using AccP.nil _ _ _, HBL9.out⟩
      case round =>
        clear HST HBL9
        obtain ⟨wp, rfl⟩ : ∃ x, x = wr := ⟨_, rfl⟩
        obtain ⟨p, s, cs, hp, rfl, rfl, hst, hac, hbl⟩ := hrel
        have hs0 := hst.out
        have hszr := hst.out.hi
        have HAC := hac
        have HBC := Lib.hid (hbl.out)
        have HTS := Lib.hid (Rd.mono HTS.out hst.out.bel)
        have HDR := Lib.hid (Rd.mono HDR2.out (by rw [HWB.out]; exact hbl.out))
        clear hac hbl
        have k0_0 := hs0.cellAt 0 rfl 0 rfl
        have k0_1 := hs0.cellAt 0 rfl 1 rfl
        have d0_ := cellL hs0.bel d0
        have d1_ := cellL hs0.bel d1
        have d3_ := cellL hs0.bel d3
        have g0_ := cellL hs0.bel g0
        have x0_ := cellL hs0.bel x0
        have x1_ := cellL hs0.bel x1
        by_cases hlp : p < AR
        · have hlpI : (p : Int) < AR := by omega
          go_upto_region 12 with fail
          have HMD := Lib.hid (accP_made (α := Int) wp 2)
          have HDRW := Lib.hid HDR.out
          have HTSW := Lib.hid HTS.out
          have HCP := Lib.hid (fun (q : Nat) (hq : q < DG.length) => show ∃ (a r : Nat), DG[q] = (a : Int) ∧ a < ts.length from by
            have := HDM.out _ (List.getElem_mem hq)
            exact ⟨DG[q].toNat, 0, by omega, by omega⟩)
          have HVT := Lib.hid (fun (a : Nat) (ha : a < ts.length) => show ts[a].length = AR ∧ Val size ts[a] from by
            have := relOk_val HROK.out ts[a] (List.getElem_mem ha)
            simpa using this)
          go_wp2_with fail
          go_loopw [11, 12] (fun ag ix wl => ∃ (i : Nat) (a9 : Option Addr) (c9 : Nat), i ≤ m ∧ ix = .int .i64 i ∧ ag = .slice a9 i c9 ∧ Hid (Below wp.heap.size wp wl) ∧ Hid (wp.heap.size + 1 ≤ wl.heap.size) ∧ Hid (AccP (fun z => wp.heap.size ≤ z ∧ z < wl.heap.size) 2 wl (.slice a9 i c9) ((DG.take i).map (fun a => (ts.getD a.toNat []).getD p 0)))) (fun _ ix _ => m - (intOf ix).toNat)
          case atStart => exact ⟨0, _, _, Nat.zero_le _, rfl, rfl, belowA _ _, by show _ ≤ _; simp, HMD.out.wk (fun z hz => by subst hz; simp)⟩
          case round =>
            clear HMD
            obtain ⟨i, a9, c9, him, rfl, rfl, hbl, hsz9, hin⟩ := hrel
            have hsz8 := hsz9.out
            have hsr := hs0.step hbl.out
            have HAC := Lib.hid (AccP.mono HAC.out hbl.out)
            have HTS := Lib.hid (Rd.mono HTS.out hbl.out)
            have HDR := Lib.hid (Rd.mono HDR.out hbl.out)
            have HIN := hin
            have HBP := hbl
            clear hin
            have k0_0 := hsr.cellAt 0 rfl 0 rfl
            have k0_1 := hsr.cellAt 0 rfl 1 rfl
            have d0_ := cellL hsr.bel d0
            have d1_ := cellL hsr.bel d1
            have d3_ := cellL hsr.bel d3
            have g0_ := cellL hsr.bel g0
            have x0_ := cellL hsr.bel x0
            have x1_ := cellL hsr.bel x1
            have hdl := HDL.out
            by_cases hlm : i < m
            · have hlmI : (i : Int) < m := by omega
              have hiD : i < DG.length := by omega
              have hiDI : (i : Int) < DG.length := by omega
              obtain ⟨b1, o1, rfl, y0p, _⟩ := rd_int_at HDRW.out i hiD
              obtain ⟨A, _, hA, hAl⟩ := HCP.out i hiD
              have hAlI : (A : Int) < ts.length := by omega
              obtain ⟨aS3, cS3, e3, hsl3⟩ := rd_list HTSW.out
              simp only [Value.slice.injEq] at e3
              obtain ⟨rfl, -, rfl⟩ := e3
              obtain ⟨b2, o2, v2, rfl, y1p, hv2⟩ := rdSl_one rfl hsl3 A hAl
              obtain ⟨a4, c4, rfl, _⟩ := rd_list hv2
              obtain ⟨hvl, hvv⟩ := HVT.out A hAl
              have hpl : p < ts[A].length := by omega
              have hplI : (p : Int) < ts[A].length := by omega
              obtain ⟨b3, o3, rfl, y2p, hI⟩ := rd_int_at hv2 p hpl
              rw [hA] at y0p
              have hy0b := World.block_lt_of_cell? wp _ y0p
              have hy1b := World.block_lt_of_cell? wp _ y1p
              have hy2b := World.block_lt_of_cell? wp _ y2p
              have y0 := cellL HBP.out y0p
              have y1 := cellL HBP.out y1p
              have y2 := cellL HBP.out y2p
              clear y0p y1p y2p
              simp only at hy0b hy1b hy2b
              have HTK := Lib.hid (show (DG.take (i + 1)).map (fun a => (ts.getD a.toNat []).getD p 0) = (DG.take i).map (fun a => (ts.getD a.toNat []).getD p 0) ++ [ts[A][p]] by
                rw [List.take_succ_eq_append_getElem hiD, List.map_append, List.map_singleton, hA, Int.toNat_natCast]
                congr 2
                simp [List.getD, hAl, hpl])
              have HLK := Lib.hid (show ((DG.take i).map (fun a => (ts.getD a.toNat []).getD p 0)).length = i by simp; omega)
              have HIX := Lib.hid hI
              have hm9 := hm.2
              clear hA hsl3 hv2 hvv hI hvl hdl
              generalize ts[A][p] = X9 at *
              generalize hTL : ts[A].length = TL at *
              clear hTL
              go_upto_region 15 with fail
              refine wp_region_noPanic (wp_region_tree4 (fun w' => w'.cell? ⟨CA, 0, none⟩ = some (.int .i64 j) ∧ w'.cell? ⟨CA, 1, none⟩ = some (.slice s p cs) ∧ w'.cell? ⟨rb, 0, none⟩ = some (.pointer (some ⟨tp, 0, none⟩)) ∧ w'.cell? ⟨rb, 1, none⟩ = some (.int .i64 m) ∧ w'.cell? ⟨rb, 3, none⟩ = some (.slice (some ⟨cb, 0, none⟩) n n) ∧ w'.cell? ⟨tp, 0, none⟩ = some (.int .i64 size) ∧ w'.cell? ⟨bR, oR + j * 2, none⟩ = some (.int .i64 AR) ∧ w'.cell? ⟨bR, oR + j * 2 + 1, none⟩ = some (.slice (some ⟨b2, o2, none⟩) ts.length cS2) ∧ w'.cell? ⟨b1, o1 + i, none⟩ = some (.int .i64 A) ∧ w'.cell? ⟨b2, o2 + A, none⟩ = some (.slice (some ⟨b3, o3, none⟩) TL c4) ∧ w'.cell? ⟨b3, o3 + p, none⟩ = some (.int .i64 X9)) (.float 0 (.float 1 (.float 2 (.float 3 (.float 4 (.float 5 (.float 6 (.float 7 (.float 8 (.float 9 (.float 10 (.float 11 (.float 12 (.float 13 (.hard 14 (.hard 15 (.float 16 .nil))))))))))))))))) (by kernel_rfl) (by kernel_rfl) (by kernel_rfl) rfl ?_ (fun _ _ _ _ _ h => h) ?_)
              · exact ⟨(hsr.drew).cellAt 0 rfl 0 rfl, (hsr.drew).cellAt 0 rfl 1 rfl, cellL (hsr.drew).bel d0, cellL (hsr.drew).bel d1, cellL (hsr.drew).bel d3, cellL (hsr.drew).bel g0, cellL (hsr.drew).bel x0, cellL (hsr.drew).bel x1, cellL (belowD _) y0, cellL (belowD _) y1, cellL (belowD _) y2⟩
              have hs6 := hsr.drew
              have y0_7 := cellL (belowD _) y0
              clear y0
              have y1_8 := cellL (belowD _) y1
              clear y1
              have y2_9 := cellL (belowD _) y2
              clear y2
              have HAC_10 := Lib.hid (AccP.mono HAC.out (belowD _))
              clear HAC
              have HTS_11 := Lib.hid (Rd.mono HTS.out (belowD _))
              clear HTS
              have HDR_12 := Lib.hid (Rd.mono HDR.out (belowD _))
              clear HDR
              have HIN_13 := Lib.hid (AccP.mono HIN.out (belowD _))
              clear HIN
              have HBP_14 := Lib.hid (HBP.out.trans (((belowD _)).mono HBP.out.size))
              clear HBP
              clear k0_0 k0_1 d0_ d1_ d3_ g0_ x0_ x1_
              have hz_wd15 : wr.heap.size ≤ (wr.drew).heap.size := by simp
              generalize hgen_wd15 : wr.drew = wd15 at *
              have HG_wd15 := Lib.hid hgen_wd15
              clear hgen_wd15
              (repeat (first | (apply t4_skip rfl (by rfl); try simp only [Act.put, List.setIfInBounds_toArray, List.set_cons_zero, List.set_cons_succ]) | (apply t4_float rfl (by rfl); (· (intro w' hS; go_simp <;> with_reducible rfl)); (try simp only [Act.put, List.setIfInBounds_toArray, List.set_cons_zero, List.set_cons_succ]))))
              refine t4_hard rfl (by rfl) (fun K hK => ?_)
              go_wp2_with fail
              have hs16 := hs6.alloc #[.int .i64 X9] 2 (n := wd15.heap.size) (by simp)
              have y0_17 := cellL (belowA _ (.cells #[.int .i64 X9] 2)) y0_7
              clear y0_7
              have y1_18 := cellL (belowA _ (.cells #[.int .i64 X9] 2)) y1_8
              clear y1_8
              have y2_19 := cellL (belowA _ (.cells #[.int .i64 X9] 2)) y2_9
              clear y2_9
              have HAC_20 := Lib.hid (AccP.mono HAC_10.out (belowA _ (.cells #[.int .i64 X9] 2)))
              clear HAC_10
              have HTS_21 := Lib.hid (Rd.mono HTS_11.out (belowA _ (.cells #[.int .i64 X9] 2)))
              clear HTS_11
              have HDR_22 := Lib.hid (Rd.mono HDR_12.out (belowA _ (.cells #[.int .i64 X9] 2)))
              clear HDR_12
              have HIN_23 := Lib.hid (AccP.mono HIN_13.out (belowA _ (.cells #[.int .i64 X9] 2)))
              clear HIN_13
              have HBP_24 := Lib.hid (HBP_14.out.trans (((belowA _ (.cells #[.int .i64 X9] 2))).mono HBP_14.out.size))
              clear HBP_14
              refine ⟨⟨hs16.cellAt 0 rfl 0 rfl, hs16.cellAt 0 rfl 1 rfl, cellL hs16.bel d0, cellL hs16.bel d1, cellL hs16.bel d3, cellL hs16.bel g0, cellL hs16.bel x0, cellL hs16.bel x1, y0_17, y1_18, y2_19⟩, ?_⟩
              (repeat (first | (apply t4_skip rfl (by rfl); try simp only [Act.put, List.setIfInBounds_toArray, List.set_cons_zero, List.set_cons_succ]) | (apply t4_float rfl (by rfl); (· (intro w' hS; go_simp <;> with_reducible rfl)); (try simp only [Act.put, List.setIfInBounds_toArray, List.set_cons_zero, List.set_cons_succ]))))
              refine t4_hard rfl (by rfl) (fun K hK => ?_)
              have hlk := HLK.out
              refine wp_append_accP _ _ _ _ rfl E_ints rfl HIN_23.out (ip_int1 (C := fun _ => False) HIX.out) (fun z h1 h2 => h2) ⟨wd15.heap.size, 0, none⟩ 1 rfl (news1 (hs16.cellAt 1 rfl 0 rfl)) (by omega) ?_
              simp only [HLK.out]
              intro a8 c8 w8 hA8 hB8
              have hz8 := hB8.size
              have hbW := hs16.bel.size
              have hs8 := hs16.butP hB8 (fun z hz => by have := hz.1; omega) (fun x hx hA => by have h1 := hA.1; have h2 := hA.2; simp at hx; rcases hx with rfl | rfl <;> (try simp only at h1 h2) <;> omega)
              have HIN8 := Lib.hid (AccP.wk hA8.tight (C := fun z => wp.heap.size ≤ z ∧ z < w8.heap.size) (fun z hz => ⟨by
                rcases hz.1 with h | h | h
                · exact h.1
                · exact h.elim
                · rw [h]; (try simp); omega, hz.2⟩))
              rw [← HTK.out] at HIN8
              have HBP8 := Lib.hid (HBP_24.out.trans (hB8.below (fun z hz => hz.1) (by (try simp); omega)))
              clear hA8
              clear HBP_24
              clear HIN_23
              clear HTS_21
              clear HDR_22
              clear HAC_20
              have y0_25 := cellB hB8 y0_17 (by intro hA9; (try simp only at hA9); omega)
              clear y0_17
              have y1_26 := cellB hB8 y1_18 (by intro hA9; (try simp only at hA9); omega)
              clear y1_18
              have y2_27 := cellB hB8 y2_19 (by intro hA9; (try simp only at hA9); omega)
              clear y2_19
              refine hK _ _ ⟨⟨hs8.cellAt 0 rfl 0 rfl, hs8.cellAt 0 rfl 1 rfl, cellL hs8.bel d0, cellL hs8.bel d1, cellL hs8.bel d3, cellL hs8.bel g0, cellL hs8.bel x0, cellL hs8.bel x1, y0_25, y1_26, y2_27⟩, ?_⟩
              (repeat (first | (apply t4_skip rfl (by rfl); try simp only [Act.put, List.setIfInBounds_toArray, List.set_cons_zero, List.set_cons_succ]) | (apply t4_float rfl (by rfl); (· (intro w' hS; go_simp <;> with_reducible rfl)); (try simp only [Act.put, List.setIfInBounds_toArray, List.set_cons_zero, List.set_cons_succ]))))
              have k0_0 := hs8.cellAt 0 rfl 0 rfl
              have k0_1 := hs8.cellAt 0 rfl 1 rfl
              have k1_0 := hs8.cellAt 1 rfl 0 rfl
              have d0_ := cellL hs8.bel d0
              have d1_ := cellL hs8.bel d1
              have d3_ := cellL hs8.bel d3
              have g0_ := cellL hs8.bel g0
              have x0_ := cellL hs8.bel x0
              have x1_ := cellL hs8.bel x1
              refine t4_nil (NoPanic.normal ?_)
              have hz9 : wp.heap.size + 1 ≤ w8.heap.size := by (try simp at hz8); omega
              go_wp2_with fail
              go_roundw
              case rel => exact ⟨i + 1, a8, c8, by omega, by go_num, rfl, HBP8.out, hz9, HIN8.out⟩
              case measure => simp [intOf]; omega
            · obtain rfl : i = m := by omega
              have hnm : ¬ ((i : Int) < i) := by omega
              obtain ⟨AL, hAL⟩ : ∃ AL, AL = (DG.take i).map (fun a => (ts.getD a.toNat []).getD p 0) := ⟨_, rfl⟩
              have HALL := Lib.hid (show AL.length = i by rw [hAL]; simp; omega)
              have HAE := Lib.hid (show AL = (digs (ts.length : Int) i (k : Int)).map (fun a => (ts.getD a.toNat []).getD p 0) by rw [hAL, ← HDG.out, List.take_of_length_le (by omega)])
              have HCB := Lib.hid (cellP_bd HROK.out (m := i) (i := k) (by have := HPW.out; simp only at this ⊢; omega) (p := p) (by simpa using hlp))
              have HCE := Lib.hid (show codeL size AL = cellP size ((AR : Int), ts) (digs (ts.length : Int) i (k : Int)) p by rw [HAE.out]; rfl)
              have HVA := Lib.hid (show Val size AL by rw [HAE.out]; exact HCB.out.2.2)
              rw [← hAL] at HIN
              clear hAL hdl
              have hal : AL.length = i := HALL.out
              have hpwv : size ^ AL.length ≤ 1000000000000 := by rw [hal, HN.out]; omega
              have hin9 := HIN.out.rd
              rw [← hal] at hin9
              have HIN9 := Lib.hid hin9
              clear hin9
              go_upto_region 16 with fail
              rw [show (Value.slice a9 i c9) = Value.slice a9 AL.length c9 by rw [hal]]
              clear hal
              go_wp2_with fail
              refine (l01Code_c size AL _ _ HIN9.out hs.1 HVA.out hpwv).mono ?_
              rintro e w5 ⟨rfl, rfl⟩
              have hci0 : 0 ≤ codeL size AL := by rw [HCE.out]; exact HCB.out.1
              have hci1 : codeL size AL < (n : Int) := by rw [HCE.out, ← HN.out]; exact HCB.out.2.1
              have hpc : p < CL.length := by rw [HCLL.out]; exact hlp
              have HCT := Lib.hid (show CL.take (p + 1) = CL.take p ++ [codeL size AL] by
                rw [List.take_succ_eq_append_getElem hpc, HCE.out]
                congr 2
                have h9 : (cellsL size i ((AR : Int), ts) k)[p]? = CL[p]? := by rw [HCL.out]
                rw [List.getElem?_eq_getElem hpc] at h9
                have h8 : (cellsL size i ((AR : Int), ts) k)[p]? = some (cellP size ((AR : Int), ts) (digs (ts.length : Int) i (k : Int)) p) := by simp [cellsL, hlp]
                rw [h8] at h9
                simpa using h9.symm)
              have HLK := Lib.hid (show (CL.take p).length = p by rw [List.length_take]; omega)
              clear hpwv HCB HVA HIN9
              generalize codeL size AL = CI at *
              have HMX := Lib.hid (show max (maxC (CL.take p)) CI = maxC (CL.take (p + 1)) by rw [HCT.out, maxC_snoc])
              have HIX := Lib.hid (show I64 CI from ⟨by omega, by omega⟩)
              have hb9 := belowA wr (.cells #[.int .i64 CI] 2)
              have HS9 := Lib.hid (hsr.step hb9)
              have HB9 := Lib.hid (HBC.out.trans (((HBP.out).trans (hb9.mono HBP.out.size)).mono (by omega)))
              have hz6 := HBP.out.size
              have hzz9 : (wr.alloc (.cells #[.int .i64 CI] 2)).heap.size = wr.heap.size + 1 := by simp
              have HZ9 := Lib.hid hzz9
              clear hzz9
              go_wp2_with (at_builtin; refine wpList_append_accP _ rfl _ _ _ rfl E_ints rfl (AccP.mono HAC.out (belowA _ _)) (ip_int1 (C := fun _ => False) HIX.out) (fun z h1 h2 => h2) ⟨wr.heap.size, 0, none⟩ 1 rfl (news1 (cell_at_block (heap_alloc_new _ _))) (by rw [HLK.out]; omega) ?_; simp only [HLK.out]; intro a8 c8 w8 hA8 hB8; have hs8 := HS9.out.butP hB8 (fun z hz => by have := hz.1; omega) (fun x hx hA => by have h1 := hA.1; have h2 := hA.2; simp at hx; rcases hx with rfl <;> (try simp only at h1 h2) <;> omega); have q2 := hs8.cellAt 0 rfl 1 rfl; have f2 := hs8.freeAt 0 rfl 1)
              have hz8 := hB8.size
              have hzz8 : wr.heap.size < w8.heap.size := by have := HZ9.out; omega
              have HQ8 := Lib.hid (hs8.set (p := []) (by simp <;> omega) 1 (.slice a8 (p + 1) c8))
              have HA9 := Lib.hid ((AccP.setCell (b := CA) (o := 1) hA8.tight (.slice a8 (p + 1) c8) (by intro hA9; have h1 := hA9.1; (try simp at h1); omega)).wk (C := fun z => CA + 1 ≤ z ∧ z < w8.heap.size) (fun z hz => by
                have h2 := hz.2
                have h3 := HZ9.out
                rcases hz.1 with h | h | h
                · exact ⟨h.1, h2⟩
                · exact h.elim
                · rw [h] at h2 ⊢; omega))
              rw [← HCT.out] at HA9
              have HBC8 := Lib.hid ((HB9.out.trans (hB8.below (fun z hz => by have := hz.1; omega) (by have := HZ9.out; omega))).setCell (p := ⟨CA, 1, none⟩) (by (try simp)) (.slice a8 (p + 1) c8))
              have HSZ := Lib.hid (show (w8.setCell ⟨CA, 1, none⟩ (.slice a8 (p + 1) c8)).heap.size = w8.heap.size by simp [World.setCell])
              clear hA8 hB8 hs8
              go_wp2_with fail
              refine (l00Max_c _ _ _).mono ?_
              rintro e w9 ⟨rfl, rfl⟩
              rw [HMX.out]
              go_wp2_with fail
              go_roundw
              case rel => exact ⟨p + 1, a8, c8, by omega, by go_num, rfl, HQ8.out, HA9.out.wk (fun z hz => by rw [HSZ.out]; exact hz), HBC8.out⟩
              case measure => simp [intOf]; omega
        · obtain rfl : p = AR := by omega
          have hnp : ¬ ((p : Int) < p) := by omega
          have hcll := HCLL.out
          have hctk : CL.take p = CL := List.take_of_length_le (by omega)
          rw [hctk]
          have HACL := Lib.hid HAC.out
          rw [hctk] at HACL
          clear hcll hctk
          have hkr : k < (rs.getD j (0, [])).2.length ^ m := by rw [HRN.out]; have := HPW.out; simp only at this ⊢; omega
          have HLO := Lib.hid (lookN_ok HOK.out (m := m) (show j < ((size, rs) : Tmpl).2.length from by simp only; omega) (i := k) hkr)
          have HLE := Lib.hid (show lookN size m j (rs.getD j (0, [])) k = ((j : Int), CL) by unfold lookN; rw [HRN.out, HCL.out])
          have hmx := look_max (t := (size, rs)) hs.1 HLO.out
          simp only at hmx
          rw [HLE.out, HN.out] at hmx
          simp only at hmx
          obtain ⟨P, hP⟩ : ∃ P : Nat, maxC CL = (P : Int) := ⟨(maxC CL).toNat, by omega⟩
          have HP := Lib.hid hP
          have hPn : P < n := by omega
          have hPI : (P : Int) < n := by omega
          obtain ⟨f9, cur9, ty9, hc9, -⟩ := HRM.out
          have HC9 := Lib.hid hc9
          obtain ⟨A, aP, cP, qP, hAP, hAl, hfin⟩ := HRM.out.pushC hPn (by omega)
          have HAP := Lib.hid hAP
          have HAL := Lib.hid hAl
          have HFIN := Lib.hid hfin
          have HDLN := Lib.hid (show (dueL (looksK (size, rs) m j k) P).length ≤ 4000 from Nat.le_trans (dueL_len _ _) (by
            have h1 := looksTo_len (size, rs) m j
            have h2 := HMN.out
            unfold looksK
            rw [List.length_append, h1, List.length_map, List.length_range]
            omega))
          clear hc9 hAP hAl hfin hmx hkr
          rw [hP]
          clear hP
          generalize hDK : dueL (looksK (size, rs) m j k) P = DK at *
          have HDK := Lib.hid hDK
          clear hDK
          go_upto_region 19 with fail
          obtain ⟨hcblo⟩ : ∃ _ : cb < lo, True := by
            obtain ⟨f7, cur7, ty7, g1, g2, g3, g4⟩ := HRM.out
            exact ⟨g3, trivial⟩
          have HBLP := Lib.hid hs0.bel
          have hwop := hs0.bel.size
          have y0 := cellL hs0.bel d3
          have y2 := cellL hs0.bel qP
          have y3 := (hs0.cellAt 0 rfl 0 rfl)
          have y4 := (hs0.cellAt 0 rfl 1 rfl)
          simp only [List.getElem_toArray, List.getElem_cons_zero, List.getElem_cons_succ] at y3 y4
          have HAC9 := Lib.hid HAC.out
          clear d0_ d1_ d3_ g0_ x0_ x1_
          have hsN := St.start wp
          have HBN := Lib.hid (Below.refl wp.heap.size wp)
          have HAC := HACL
          clear HACL
          refine wp_region_noPanic (wp_region_tree4 (fun w' => w'.cell? ⟨rb, 3, none⟩ = some (.slice (some ⟨cb, 0, none⟩) n n) ∧ w'.cell? ⟨cb, P, none⟩ = some (.slice aP DK.length cP) ∧ w'.cell? ⟨CA, 0, none⟩ = some (.int .i64 j) ∧ w'.cell? ⟨CA, 1, none⟩ = some (.slice s p cs)) (.float 0 (.float 1 (.float 2 (.float 3 (.float 4 (.float 5 (.float 6 (.float 7 (.float 8 (.float 9 (.float 10 (.float 11 (.float 12 (.hard 13 (.hard 14 (.float 15 (.last 16 .nil))))))))))))))))) (by kernel_rfl) (by kernel_rfl) (by kernel_rfl) rfl ?_ (fun _ _ _ _ _ h => h) ?_)
          · exact ⟨cellL (belowD _) y0, cellL (belowD _) y2, cellL (belowD _) y3, cellL (belowD _) y4⟩
          have hs28 := hsN.drew
          have y0_29 := cellL (belowD _) y0
          clear y0
          have y2_30 := cellL (belowD _) y2
          clear y2
          have y3_31 := cellL (belowD _) y3
          clear y3
          have y4_32 := cellL (belowD _) y4
          clear y4
          have HAC_33 := Lib.hid (AccP.mono HAC.out (belowD _))
          clear HAC
          have HBN_34 := Lib.hid (HBN.out.trans (((belowD _)).mono HBN.out.size))
          clear HBN
          have hz_wd35 : wp.heap.size ≤ (wp.drew).heap.size := by simp
          generalize hgen_wd35 : wp.drew = wd35 at *
          have HG_wd35 := Lib.hid hgen_wd35
          clear hgen_wd35
          (repeat (first | (apply t4_skip rfl (by rfl); try simp only [Act.put, List.setIfInBounds_toArray, List.set_cons_zero, List.set_cons_succ]) | (apply t4_float rfl (by rfl); (· (intro w' hS; go_simp <;> with_reducible rfl)); (try simp only [Act.put, List.setIfInBounds_toArray, List.set_cons_zero, List.set_cons_succ]))))
          refine t4_hard rfl (by rfl) (fun K hK => ?_)
          go_wp2_with fail
          have hs36 := hs28.alloc #[.int .i64 j, .slice s p cs] 167 (n := wd35.heap.size) (by simp)
          have y0_37 := cellL (belowA _ (.cells #[.int .i64 j, .slice s p cs] 167)) y0_29
          clear y0_29
          have y2_38 := cellL (belowA _ (.cells #[.int .i64 j, .slice s p cs] 167)) y2_30
          clear y2_30
          have y3_39 := cellL (belowA _ (.cells #[.int .i64 j, .slice s p cs] 167)) y3_31
          clear y3_31
          have y4_40 := cellL (belowA _ (.cells #[.int .i64 j, .slice s p cs] 167)) y4_32
          clear y4_32
          have HAC_41 := Lib.hid (AccP.mono HAC_33.out (belowA _ (.cells #[.int .i64 j, .slice s p cs] 167)))
          clear HAC_33
          have HBN_42 := Lib.hid (HBN_34.out.trans (((belowA _ (.cells #[.int .i64 j, .slice s p cs] 167))).mono HBN_34.out.size))
          clear HBN_34
          refine ⟨⟨y0_37, y2_38, y3_39, y4_40⟩, ?_⟩
          (repeat (first | (apply t4_skip rfl (by rfl); try simp only [Act.put, List.setIfInBounds_toArray, List.set_cons_zero, List.set_cons_succ]) | (apply t4_float rfl (by rfl); (· (intro w' hS; go_simp <;> with_reducible rfl)); (try simp only [Act.put, List.setIfInBounds_toArray, List.set_cons_zero, List.set_cons_succ]))))
          refine t4_hard rfl (by rfl) (fun K hK => ?_)
          have hdl := HDLN.out
          have HIR := Lib.hid (ip_icA (k := (j : Int)) ⟨by omega, by omega⟩ HAC_41.out.ip)
          have hsz9 := HBN_42.out.size
          have HBWO := Lib.hid (HBLP.out.trans (HBN_42.out.mono (by omega)))
          refine wp_append_accP _ _ _ _ rfl E_conds rfl (AccP.mono HAP.out HBWO.out) HIR.out (fun z h1 h2 => by have h3 := HAL.out z h1; (try simp only at h2); omega) ⟨wd35.heap.size, 0, none⟩ 1 rfl (news2 (hs36.cellAt 0 rfl 0 rfl) (hs36.cellAt 0 rfl 1 rfl)) (by omega) ?_
          intro a8 c8 w8 hA8 hB8
          have hz8 := hB8.size
          have hbi := hB8.wk (C := fun z => lo ≤ z ∧ z < wo.heap.size) (fun z hz => HAL.out z hz)
          have HF8 := Lib.hid (HFIN.out _ w8 _ (.slice a8 (DK.length + 1) c8) _ HBWO.out (Nat.le_refl _) (fun z hz => by (try simp only at hz); omega) hA8 hB8)
          have HB8 := Lib.hid hbi
          have HWO := Lib.hid hsz9
          have HBX := Lib.hid (show ButP (fun z => z = cb ∨ lo ≤ z) w w8 from (HBW.out.trans ((ButP.of HBWO.out) : ButP (fun z => z = cb ∨ lo ≤ z) _ _) (fun z hz => .inl hz)).trans (hbi.wk (C := fun z => z = cb ∨ lo ≤ z) (fun z hz => .inr hz.1)) (fun z hz => .inl hz))
          have hfr : w8.frozen? ⟨cb, P, none⟩ = false := free_at_block (show w8.heap[cb]? = some (.cells cur9 ty9 (0, 0)) by
            rw [hB8.block cb (by have := World.block_lt_of_cell? _ _ y2_38; simpa using this) (fun hA9 => by have := HAL.out _ hA9; omega), HBWO.out.block cb (by have := (Array.getElem?_eq_some_iff.1 HC9.out).1; omega)]
            exact HC9.out)
          have hs8 := St.start w8
          clear hA8
          clear HAC_41
          clear HBN_42
          have y0_43 := cellB hbi y0_37 (by intro hA9; (try simp only at hA9); omega)
          clear y0_37
          have y2_44 := cellB hbi y2_38 (by intro hA9; (try simp only at hA9); omega)
          clear y2_38
          have y3_45 := cellB hbi y3_39 (by intro hA9; (try simp only at hA9); omega)
          clear y3_39
          have y4_46 := cellB hbi y4_40 (by intro hA9; (try simp only at hA9); omega)
          clear y4_40
          refine hK _ _ ⟨⟨y0_43, y2_44, y3_45, y4_46⟩, ?_⟩
          (repeat (first | (apply t4_skip rfl (by rfl); try simp only [Act.put, List.setIfInBounds_toArray, List.set_cons_zero, List.set_cons_succ]) | (apply t4_float rfl (by rfl); (· (intro w' hS; go_simp <;> with_reducible rfl)); (try simp only [Act.put, List.setIfInBounds_toArray, List.set_cons_zero, List.set_cons_succ]))))
          refine t4_last rfl (by rfl) (fun K hK => ?_)
          go_wp2_with fail
          refine t4_nil (NoPanic.normal ?_)
          have HRN9 := Lib.hid (show RunM lo w8.heap.size (w8.setCell ⟨cb, P, none⟩ (.slice a8 (DK.length + 1) c8)) cb n es 167 sv S (dueL (looksK (size, rs) m j (k + 1))) by
            rw [looksK_succ, ← due_push _ _ P (by simp only; rw [HLE.out]; exact HP.out)]
            have h9 := HF8.out
            rw [← HDK.out] at h9 ⊢
            simp only
            rw [HLE.out]
            exact h9)
          have HSZ := Lib.hid (show (w8.setCell ⟨cb, P, none⟩ (.slice a8 (DK.length + 1) c8)).heap.size = w8.heap.size by simp [World.setCell])
          have HBX9 := Lib.hid (butp_set (b := cb) (o := P) HBX.out (.slice a8 (DK.length + 1) c8) (.inl rfl))
          have hw8 : hi ≤ w8.heap.size := by (try simp at hz8); omega
          go_wp2_with fail
          go_roundw
          case rel => exact ⟨k + 1, hlt, by go_num, by show hi ≤ _; rw [HSZ.out]; exact hw8, HBX9.out, by simp only [Hid]; rw [HSZ.out]; exact HRN9.out⟩
          case measure => simp [intOf]; omega
    · obtain rfl : k = PW := by omega
      have hnl : ¬ ((k : Int) < k) := by omega
      have HRE := Lib.hid (show RunM lo wo.heap.size wo cb n es 167 sv S (dueL (looksTo (size, rs) m (j + 1))) by rw [← looksK_end (size, rs) m j k (by simp only; rw [HRN.out]; exact HPW.out)]; exact HRM.out)
      go_wp2_with fail
      exact bodyPost_end (v := .tuple #[]) (by simp [results, Tryz.results77, go_sem]) rfl ⟨rfl, HRE.out, HBW.out⟩

end Go.Proofs.YtllenfkbfeanmaaGreat

