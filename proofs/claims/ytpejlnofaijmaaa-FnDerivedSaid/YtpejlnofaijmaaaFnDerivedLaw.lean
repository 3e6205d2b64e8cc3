/-
  THE LAW FnDerived, WALKED.
-/
import Derived.Test.YtpejlnofaijmaaaSrc
import Derived.Test.YtpejlnofaijmaaaDerL
import Derived.Test.YtpejlnofaijmaaaAnswersT
namespace Go.Proofs.Ytpejlnofaijmaaa
open Go.RowKit Go.Shelf Go.IntWalk
open Rep (Rd Own sz)
set_option linter.unusedSimpArgs false
set_option linter.unusedVariables false

theorem A2Same_c (l1 l2 : List Int) (v1 v2 : Value) (w : World) (r1 : Rd w [v1] l1) (r2 : Rd w [v2] l2) :
    Calls Try.prog 12 #[v1, v2] w fun e w' => e = .returned (.bool (decide (l1 = l2))) ∧ ∃ n, w' = w.drewN n := by
  have R1 := Lib.hid r1
  have R2 := Lib.hid r2
  clear r1 r2
  go_enter Try.func12, Try.ntmps12
  go_wp2_with fail
  refine (l00Same_c l1 l2 v1 v2 _ R1.out R2.out).mono ?_
  rintro e w1 ⟨rfl, n, rfl⟩
  go_wp2_with fail
  go_ret
  exact ⟨rfl, n, rfl⟩

theorem mixN {p A k M : Int} (hp : p = 2 ∨ p = 3) (hA : 0 ≤ A ∧ A < p) (hk : 0 ≤ k ∧ k < p) (hM : 0 ≤ M ∧ M < p) :
    IntKind.i64.wrap (k * M) = k * M ∧ IntKind.i64.wrap (A + k * M) = A + k * M ∧ (A + k * M).tmod p = (A + k * M) % p ∧ IntKind.i64.wrap ((A + k * M) % p) = (A + k * M) % p ∧ 0 ≤ (A + k * M) % p ∧ (A + k * M) % p < p := by
  have hm := small_mul hM hM (show p ≤ 3 by omega) hk.1 (show k ≤ 100 by omega)
  have hp1 : p ≠ 0 := by omega
  have hE0 := Int.emod_nonneg (A + k * M) hp1
  have hE1 := Int.emod_lt_of_pos (A + k * M) (show 0 < p by omega)
  exact ⟨i64_in _ (by omega), i64_in _ (by omega), Int.tmod_eq_emod_of_nonneg (by omega), i64_in _ (by omega), hE0, hE1⟩
theorem rd_eqn1 {w : World} {b : Nat} {v0 v1 : Value} {e : Eqn} (h : Rd w [v0, v1] e) (c0 : w.cell? ⟨b, 0, none⟩ = some v0) (c1 : w.cell? ⟨b, 1, none⟩ = some v1) : Rd w [.slice (some ⟨b, 0, none⟩) 1 1] [e] :=
  ⟨some ⟨b, 0, none⟩, 1, rfl, Nat.le_refl _, by unfold maxLen; omega, fun i hi => by
    obtain rfl : i = 0 := by simp at hi; omega
    refine ⟨b, 0, [v0, v1], rfl, h, fun k hk => ?_⟩
    match k, hk with
    | 0, _ => simpa using c0
    | 1, _ => simpa using c1⟩
theorem holds_one {p : Int} {U : Nat} {e : Eqn} {v : List Int} (hp : p = 2 ∨ p = 3) (h0 : 1 ≤ U) (h1 : U ≤ 12) (he : eqnOk p U e = true) (hl : v.length = U) (hr : Res p v) : holdsF (p, (U : Int), [e]) v = (holdsE p v e, 0) := by
  have hv : validS (p, (U : Int), [e]) = true := validS_of hp h0 h1 (by simp) (fun x hx => by simp only [List.mem_singleton] at hx; subst hx; exact he)
  have ho : valsOk p v (U : Int) = true := by
    simp only [valsOk, Bool.and_eq_true, decide_eq_true_eq, List.all_eq_true]
    exact ⟨by omega, fun a ha => inB_mk (by have := hr a ha; omega)⟩
  unfold holdsF
  rw [if_pos hv, if_pos ho]
  simp
theorem all_take {α : Type} (q : α → Bool) (l : List α) (j : Nat) (h : j < l.length) : (l.take (j + 1)).all q = ((l.take j).all q && q l[j]) := by
  rw [List.take_succ_eq_append_getElem h, List.all_append]; simp
theorem res_set {p : Int} {l : List Int} {i : Nat} {x : Int} (h : Res p l) (hx : 0 ≤ x ∧ x < p) : Res p (l.set i x) := fun a ha => by
  rcases List.mem_or_eq_of_mem_set ha with h1 | h1
  · exact h a h1
  · rw [h1]; exact hx
set_option maxRecDepth 100000 in
set_option maxHeartbeats 8000000 in
theorem FnDerived_c (co mo : List Byte) (ac am : Option Addr) (nc nm cc cm : Nat) (w : World) (h0 : Rd w [.slice ac nc cc] co) (h1 : Rd w [.slice am nm cm] mo) :
    Calls Try.prog 3 #[.slice ac nc cc, .slice am nm cm] w fun e w' => e = .returned (.bool true) ∧ Below w.heap.size w w' := by
  have hl0 := (byt_of h0).2.2
  have hl1 := (byt_of h1).2.2
  have HCo := Lib.hid h0
  have HMo := Lib.hid h1
  clear h0 h1
  go_enter Try.func3, Try.ntmps3
  go_wp2_with fail
  refine (a2Long_c ac am nc cc nm cm _ hl0 hl1).mono ?_
  rintro e w1 ⟨rfl, rfl⟩
  cases hlg : (decide (3000 < nc) || decide (3000 < nm)) with
  | true =>
    clear hlg
    go_wp2_with fail
    go_ret
    exact ⟨rfl, (St.start w).bel⟩
  | false =>
    have hnm : nm ≤ 3000 := by simp at hlg; omega
    clear hlg
    go_wp2_with fail
    refine (A2System_c ac nc cc co _ (Rd.mono HCo.out (St.start w).bel)).mono ?_
    rintro e w2 ⟨p, U, vs, l, rfl, hfr, ⟨hv, hU5, hl6⟩, hbw2⟩
    have hz_w2 : w.heap.size ≤ w2.heap.size := by have h9 := hbw2.size; (try simp at h9); omega
    have hs3 := (St.start w).step hbw2
    obtain ⟨aS, cS, rfl, hrS⟩ := rd_list (rd_cons rfl (rd_cons rfl hfr.rd).2).2
    have HSY := Lib.hid hfr.rd
    have HV := Lib.hid hv
    have hp := (validS_get hv).1
    have hU1 := (validS_get hv).2.1
    have he := (validS_get hv).2.2.2
    have HEO := Lib.hid he
    have HBS := Lib.hid (Below.refl w2.heap.size w2)
    clear hfr hv he hrS
    have hs4 := hs3.alloc #[.int .i64 p, .int .i64 U, .slice aS l.length cS] 26 (n := w2.heap.size) (by simp)
    have HBS_5 := Lib.hid (HBS.out.trans (((belowA _ (.cells #[.int .i64 p, .int .i64 U, .slice aS l.length cS] 26))).mono HBS.out.size))
    clear HBS
    have k0_0 := hs4.cellAt 0 rfl 0 rfl
    have k0_1 := hs4.cellAt 0 rfl 1 rfl
    have k0_2 := hs4.cellAt 0 rfl 2 rfl
    go_wp2_with fail
    refine (A2Equation_c am nm cm mo p U aS l.length cS _ (Rd.mono HMo.out hs4.bel) hp (by omega)).mono ?_
    rintro e w6 ⟨v0, ⟨El, Er⟩, rfl, hfr, hok, hbw6⟩
    have hz_w6 : w2.heap.size + 1 ≤ w6.heap.size := by have h9 := hbw6.size; (try simp at h9); omega
    have hs7 := hs4.step hbw6
    have HBS_8 := Lib.hid (HBS_5.out.trans ((hbw6).mono HBS_5.out.size))
    clear HBS_5
    clear k0_0 k0_1 k0_2
    have k0_0 := hs7.cellAt 0 rfl 0 rfl
    have k0_1 := hs7.cellAt 0 rfl 1 rfl
    have k0_2 := hs7.cellAt 0 rfl 2 rfl
    obtain ⟨a0, c0, rfl, hr0⟩ := rd_list (rd_cons rfl hfr.rd).1
    have HE := Lib.hid hfr.rd
    have HOK := Lib.hid hok
    clear hfr hok hr0
    have hs9 := hs7.alloc #[.slice a0 El.length c0, .int .i64 Er] 30 (n := w6.heap.size) (by simp)
    have HBS_10 := Lib.hid (HBS_8.out.trans (((belowA _ (.cells #[.slice a0 El.length c0, .int .i64 Er] 30))).mono HBS_8.out.size))
    clear HBS_8
    have HE_11 := Lib.hid (Rd.mono HE.out (belowA _ (.cells #[.slice a0 El.length c0, .int .i64 Er] 30)))
    clear HE
    clear k0_0 k0_1 k0_2
    have k0_0 := hs9.cellAt 0 rfl 0 rfl
    have k0_1 := hs9.cellAt 0 rfl 1 rfl
    have k0_2 := hs9.cellAt 0 rfl 2 rfl
    have k1_0 := hs9.cellAt 1 rfl 0 rfl
    have k1_1 := hs9.cellAt 1 rfl 1 rfl
    go_upto_region 5 with fail
    have hz_wQ : w6.heap.size + 1 ≤ ((w6.alloc (.cells #[.slice a0 El.length c0, .int .i64 Er] 30))).heap.size := by simp
    generalize hgen_wQ : (w6.alloc (.cells #[.slice a0 El.length c0, .int .i64 Er] 30)) = wQ at *
    clear hgen_wQ
    go_cut [44] from 36 to 43 (fun x44 wx => ∃ bb : Bool, x44 = .bool bb ∧ wQ = wx)
    case first =>
      go_wp2_with fail
      refine (a2At_c am nm cm mo 0 3 _ (Rd.mono HMo.out hs9.bel) (by omega) (by omega) (by omega) (by omega)).mono ?_
      rintro e w9 ⟨k0, rfl, hk0, hk1, rfl⟩
      by_cases hc : 0 < k0
      · by_cases hd : 0 < l.length
        · have hdI : (0 : Int) < l.length := by omega
          go_wp2_with fail
          go_meet
          case rel => exact ⟨_, rfl, rfl⟩
        · have hdI : ¬ (0 : Int) < l.length := by omega
          go_wp2_with fail
          go_meet
          case rel => exact ⟨_, rfl, rfl⟩
      · go_wp2_with fail
        go_meet
        case rel => exact ⟨_, rfl, rfl⟩
    case rest =>
      obtain ⟨bb, rfl, rfl⟩ := hcut
      go_upto_if 44 with fail
      have HST := Lib.hid hs9
      have HBSQ := Lib.hid HBS_10.out
      have HEQ := Lib.hid HE_11.out
      have hzW := Nat.le_refl w2.heap.size
      go_cut [] from 45 to 107 (fun wx => ∃ (ae : Option Addr) (ce : Nat) (Fl : List Int) (Fr : Int), Hid (eqnOk p U (Fl, Fr) = true) ∧ Hid (St w (w6.heap.size + 1) wx [(w2.heap.size, #[.int .i64 p, .int .i64 U, .slice aS l.length cS], 26), (w6.heap.size, #[.slice ae Fl.length ce, .int .i64 Fr], 30)]) ∧ Hid (Rd wx [.slice ae Fl.length ce, .int .i64 Fr] ((Fl, Fr) : Eqn)) ∧ Hid (Below w2.heap.size w2 wx))
      case first =>
        cases bb with
        | false =>
          go_wp2_with fail
          go_meet
          case rel => exact ⟨a0, c0, El, Er, HOK.out, HST.out, HEQ.out, HBSQ.out⟩
        | true =>
          clear HEQ HOK
          clear HE_11
          have hcw := HST.out.hi
          have f1_0 := hs9.freeAt 1 rfl 0
          have f1_1 := hs9.freeAt 1 rfl 1
          go_wp2_with (at_make; refine wpList_make_rep _ rfl _ _ 28 rfl E_ints (0 : Int) own0_int U (by omega) rfl rfl ?_; intro wM hownM hbM hzM; have hsM := HST.out.step hbM; have q0 := hsM.cellAt 1 rfl 0 rfl; have q1 := hsM.cellAt 1 rfl 1 rfl; have f0 := hsM.freeAt 1 rfl 0; have f1 := hsM.freeAt 1 rfl 1)
          have hsN := (hsM.set (p := [_]) (by simp <;> omega) 0 (.slice (some ⟨wQ.heap.size, 0, none⟩) U U)).set (p := [_]) (by simp <;> omega) 1 (.int .i64 0)
          have hoM := ((OnlyAt.refl [w6.heap.size] wM).setCell (p := ⟨w6.heap.size, 0, none⟩) (by simp) (.slice (some ⟨wQ.heap.size, 0, none⟩) U U)).setCell (p := ⟨w6.heap.size, 1, none⟩) (by simp) (.int .i64 0)
          have HOW := Lib.hid (ownSl_only hownM hoM (by simp; omega))
          have HBN := Lib.hid (HBSQ.out.trans ((hbM.mono HBSQ.out.size).trans (hoM.below (by simp; omega))))
          have HSN := Lib.hid hsN
          have hzN : wQ.heap.size + 1 ≤ ((wM.setCell ⟨w6.heap.size, 0, none⟩ (.slice (some ⟨wQ.heap.size, 0, none⟩) U U)).setCell ⟨w6.heap.size, 1, none⟩ (.int .i64 0)).heap.size := by simp [World.setCell]; omega
          clear HST HBSQ hownM hbM hzM hsM q0 q1 f0 f1 hsN hoM f1_0 f1_1
          clear k0_0 k0_1 k0_2 k1_0 k1_1
          clear HBS_10
          go_loopw [7] (fun iv wl => ∃ (j : Nat) (Lc : List Int) (r : Int), j ≤ l.length ∧ iv = .int .i64 j ∧ Hid (Lc.length = U ∧ Res p Lc ∧ 0 ≤ r ∧ r < p) ∧ Hid (St w (w6.heap.size + 1) wl [(w2.heap.size, #[.int .i64 p, .int .i64 U, .slice aS l.length cS], 26), (w6.heap.size, #[.slice (some ⟨wQ.heap.size, 0, none⟩) U U, .int .i64 r], 30)]) ∧ Hid (OwnSl [wQ.heap.size] wl (.slice (some ⟨wQ.heap.size, 0, none⟩) U U) Lc) ∧ Hid (Below w2.heap.size w2 wl) ∧ wQ.heap.size + 1 ≤ wl.heap.size) (fun iv _ => l.length - (intOf iv).toNat)
          case atStart => exact ⟨0, List.replicate U 0, 0, Nat.zero_le _, rfl, ⟨by simp, fun a ha => by have := (List.mem_replicate.1 ha).2; omega, by omega, by omega⟩, HSN.out, HOW.out, HBN.out, hzN⟩
          case round =>
            clear HSN HOW HBN hzN
            obtain ⟨j, Lc, r, hj, rfl, hL, hst, how, hbl, hzr⟩ := hrel
            have hs0 := hst.out
            have HOW := how
            have HBL := hbl
            clear how hbl
            have k0_0 := hs0.cellAt 0 rfl 0 rfl
            have k0_1 := hs0.cellAt 0 rfl 1 rfl
            have k0_2 := hs0.cellAt 0 rfl 2 rfl
            have k1_0 := hs0.cellAt 1 rfl 0 rfl
            have k1_1 := hs0.cellAt 1 rfl 1 rfl
            by_cases hlt : j < l.length
            · have hltI : (j : Int) < l.length := by omega
              have hj1 : IntKind.i64.wrap ((j : Int) + 1) = (j : Int) + 1 := i64_in _ (by omega)
              obtain ⟨_, _, eS, hSl⟩ := rd_list (rd_cons rfl (rd_cons rfl HSY.out).2).2
              simp only [Value.slice.injEq] at eS
              obtain ⟨rfl, -, rfl⟩ := eS
              obtain ⟨b, o, y0, y1, rfl, p0, p1, hy⟩ := rdSl_two rfl hSl j hlt
              have hg0 := eqn_good (HEO.out _ (List.getElem_mem hlt))
              have hbW := World.block_lt_of_cell? w2 _ p0
              generalize l[j] = X at *
              obtain ⟨L, R⟩ := X
              obtain ⟨a1, c1, rfl, _⟩ := rd_list (rd_cons rfl hy).1
              obtain ⟨rfl, _⟩ := rd_i1 (rd_cons rfl hy).2
              have HL := Lib.hid (rd_cons rfl hy).1
              have hR : 0 ≤ R ∧ R < p := ⟨hg0.2.2.1, hg0.2.2.2⟩
              have HLL := Lib.hid hg0.1
              have HLR := Lib.hid hg0.2.1
              have P0 := Lib.hid p0
              have P1 := Lib.hid p1
              clear hy hSl hg0 p0 p1
              go_wp2_with fail
              refine (a2At_c am nm cm mo ((j : Int) + 1) p _ (Rd.mono HMo.out hs0.bel) (by omega) (by omega) (by omega) (by omega)).mono ?_
              rintro e w9 ⟨kk, rfl, hk0, hk1, rfl⟩
              go_wp2_with fail
              go_loopw [9] (fun iv wl => ∃ (q : Nat) (Lq : List Int), q ≤ U ∧ iv = .int .i64 q ∧ Hid (Lq.length = U ∧ Res p Lq) ∧ Hid (St w (w6.heap.size + 1) wl [(w2.heap.size, #[.int .i64 p, .int .i64 U, .slice (some ⟨b, o, none⟩) l.length cS], 26), (w6.heap.size, #[.slice (some ⟨wQ.heap.size, 0, none⟩) U U, .int .i64 r], 30)]) ∧ Hid (OwnSl [wQ.heap.size] wl (.slice (some ⟨wQ.heap.size, 0, none⟩) U U) Lq) ∧ Hid (Below w2.heap.size w2 wl) ∧ wQ.heap.size + 1 ≤ wl.heap.size) (fun iv _ => U - (intOf iv).toNat)
              case atStart => exact ⟨0, Lc, Nat.zero_le _, rfl, ⟨hL.out.1, hL.out.2.1⟩, hst.out, HOW.out, HBL.out, hzr⟩
              case round =>
                have hrr := hL.out.2.2
                clear HOW HBL hst hs0 hzr k0_0 k0_1 k0_2 k1_0 k1_1
                obtain ⟨q, Lq, hq, rfl, hLq, hst, how, hbl, hzr⟩ := hrel
                have hs0 := hst.out
                have k0_0 := hs0.cellAt 0 rfl 0 rfl
                have k0_1 := hs0.cellAt 0 rfl 1 rfl
                have k0_2 := hs0.cellAt 0 rfl 2 rfl
                have k1_0 := hs0.cellAt 1 rfl 0 rfl
                have k1_1 := hs0.cellAt 1 rfl 1 rfl
                by_cases hqU : q < U
                · have hqI : (q : Int) < U := by omega
                  obtain ⟨g', o', c', hv', hps, hc, hf, hI, hset⟩ := own_int_set how.out q (by rw [hLq.out.1]; exact hqU)
                  simp only [Value.slice.injEq, Option.some.injEq, Addr.mk.injEq, and_true] at hv'
                  obtain ⟨⟨rfl, rfl⟩, -, rfl⟩ := hv'
                  have hA := hLq.out.2.get q (by rw [hLq.out.1]; exact hqU)
                  obtain ⟨b1, o1, rfl, hcm, _⟩ := rd_int_at HL.out q (by rw [HLL.out]; exact hqU)
                  have hM := HLR.out.get q (by rw [HLL.out]; exact hqU)
                  simp only [Nat.zero_add] at hc hf hset
                  have HSET := Lib.hid hset
                  have e0 := cellL hbl.out P0.out
                  have e2 := cellL hbl.out hcm
                  generalize Lq[q]'(by rw [hLq.out.1]; exact hqU) = A at *
                  generalize L[q]'(by rw [HLL.out]; exact hqU) = M at *
                  obtain ⟨m1, m2, m3, m4, m5, m6⟩ := mixN hp hA ⟨hk0, hk1⟩ hM
                  have hp1 : p ≠ 0 := by omega
                  have hp2 : (p == 0) = false := by simpa using hp1
                  have HN := Lib.hid (HSET.out ((A + kk * M) % p) ⟨by omega, by omega⟩)
                  have HPL := Lib.hid HLL.out
                  have hLI : (q : Int) < L.length := by rw [HLL.out]; omega
                  clear hset hps hI
                  go_wp2_with fail
                  refine wp_region_noPanic (wp_region_el (fun w' => w'.cell? ⟨w2.heap.size, 0, none⟩ = some (.int .i64 p) ∧ w'.cell? ⟨w2.heap.size, 2, none⟩ = some (.slice (some ⟨b, o, none⟩) l.length cS) ∧ w'.cell? ⟨w6.heap.size, 0, none⟩ = some (.slice (some ⟨wQ.heap.size, 0, none⟩) U U) ∧ w'.cell? ⟨wQ.heap.size, q, none⟩ = some (.int .i64 A) ∧ w'.cell? ⟨b, o + j * 2, none⟩ = some (.slice (some ⟨b1, o1, none⟩) L.length c1) ∧ w'.cell? ⟨b1, o1 + q, none⟩ = some (.int .i64 M)) [(0, 0), (1, 0), (2, 0), (3, 0), (4, 0), (5, 0), (6, 0), (7, 0), (8, 0), (9, 0), (10, 0), (11, 0), (12, 0), (13, 0), (14, 0), (15, 0), (16, 0), (17, 0), (18, 0), (19, 0), (20, 0), (21, 0), (22, 0), (23, 0), (24, 2)] (by kernel_rfl) (by kernel_rfl) (by kernel_rfl) rfl ?_ (fun _ _ _ _ _ h => h) ?_)
                  · exact ⟨k0_0, k0_2, k1_0, hc, e0, e2⟩
                  (repeat (first | (apply el_skip rfl (by rfl); try simp only [Act.put, List.setIfInBounds_toArray, List.set_cons_zero, List.set_cons_succ]) | (apply el_float rfl (by rfl); (· (intro w' hS; go_simp <;> with_reducible rfl)); (try simp only [Act.put, List.setIfInBounds_toArray, List.set_cons_zero, List.set_cons_succ]))))
                  refine el_last rfl (by rfl) (fun K hK => ?_)
                  go_wp2_with fail
                  refine el_nil (NoPanic.normal ?_)
                  go_wp2_with fail
                  go_roundw
                  case rel => exact ⟨q + 1, Lq.set q ((A + kk * M) % p), by omega, by go_num, ⟨by simp [hLq.out.1], res_set hLq.out.2 ⟨m5, m6⟩⟩, hs0.drew.stepB ((Below.refl _ _).setCell (p := ⟨wQ.heap.size, q, none⟩) (by simp only; omega) _), ownSl_heap HN.out rfl, (hbl.out.drew).setCell (by simp only; omega) _, by simp [World.setCell]; omega⟩
                  case measure => simp [intOf]; omega
                · obtain rfl : U = q := by omega
                  have hnl : ¬ ((U : Int) < U) := by omega
                  have e1 := cellL hbl.out P1.out
                  have f1 := (hs0.freeAt 1 rfl 1)
                  obtain ⟨m1, m2, m3, m4, m5, m6⟩ := mixN hp hrr ⟨hk0, hk1⟩ hR
                  have hp1 : p ≠ 0 := by omega
                  have hp2 : (p == 0) = false := by simpa using hp1
                  go_wp2_with fail
                  refine wp_region_noPanic (wp_region_el (fun w' => w'.cell? ⟨w2.heap.size, 0, none⟩ = some (.int .i64 p) ∧ w'.cell? ⟨w2.heap.size, 2, none⟩ = some (.slice (some ⟨b, o, none⟩) l.length cS) ∧ w'.cell? ⟨w6.heap.size, 1, none⟩ = some (.int .i64 r) ∧ w'.cell? ⟨b, o + j * 2 + 1, none⟩ = some (.int .i64 R)) [(0, 0), (1, 0), (2, 0), (3, 0), (4, 0), (5, 0), (6, 0), (7, 0), (8, 0), (9, 0), (10, 0), (11, 0), (12, 0), (13, 0), (14, 0), (15, 2)] (by kernel_rfl) (by kernel_rfl) (by kernel_rfl) rfl ?_ (fun _ _ _ _ _ h => h) ?_)
                  · exact ⟨k0_0, k0_2, k1_1, e1⟩
                  (repeat (first | (apply el_skip rfl (by rfl); try simp only [Act.put, List.setIfInBounds_toArray, List.set_cons_zero, List.set_cons_succ]) | (apply el_float rfl (by rfl); (· (intro w' hS; go_simp <;> with_reducible rfl)); (try simp only [Act.put, List.setIfInBounds_toArray, List.set_cons_zero, List.set_cons_succ]))))
                  refine el_last rfl (by rfl) (fun K hK => ?_)
                  go_wp2_with fail
                  refine el_nil (NoPanic.normal ?_)
                  have hoX := (OnlyAt.refl [w6.heap.size] wr.drew).setCell (p := ⟨w6.heap.size, 1, none⟩) (by simp) (.int .i64 ((r + kk * R) % p))
                  have HSQ := Lib.hid (hs0.drew.set (p := [_]) (by simp <;> omega) 1 (.int .i64 ((r + kk * R) % p)))
                  have HOQ := Lib.hid (ownSl_only (ownSl_heap (w' := wr.drew) how.out rfl) hoX (by simp; omega))
                  have HBQ := Lib.hid ((hbl.out.drew).trans (hoX.below (B := w2.heap.size) (by simp; omega)))
                  have hzQ : wQ.heap.size + 1 ≤ (wr.drew.setCell ⟨w6.heap.size, 1, none⟩ (.int .i64 ((r + kk * R) % p))).heap.size := by simp [World.setCell]; omega
                  clear hoX k0_0 k0_1 k0_2 k1_0 k1_1 e1 f1 hs0 hst how hbl
                  go_wp2_with fail
                  go_roundw
                  case rel => exact ⟨j + 1, Lq, (r + kk * R) % p, by omega, by go_num, ⟨hLq.out.1, hLq.out.2, m5, m6⟩, HSQ.out, HOQ.out, HBQ.out, hzQ⟩
                  case measure => simp [intOf]; omega
            · obtain rfl : j = l.length := by omega
              have hnl : ¬ ((l.length : Int) < l.length) := by omega
              have HRE := Lib.hid (show Rd wr [.slice (some ⟨wQ.heap.size, 0, none⟩) U U, .int .i64 r] ((Lc, r) : Eqn) from ⟨[_], [_], rfl, ownSl_rd HOW.out, ⟨rfl, by have := hL.out; exact ⟨by omega, by omega⟩⟩⟩)
              go_wp2_with fail
              go_meet
              case rel =>
                refine ⟨some ⟨wQ.heap.size, 0, none⟩, U, Lc, r, eqnOk_of hL.out.1 hL.out.2.1 hL.out.2.2.1 hL.out.2.2.2, ?_, ?_, HBL.out⟩
                · rw [hL.out.1]; exact hst.out
                · rw [hL.out.1]; exact HRE.out
      case rest =>
        obtain ⟨ae, ce, Fl, Fr, hok, hst, hrd, hbl⟩ := hcut
        have hs0 := hst.out
        have HSZ := Lib.hid (Rd.mono HSY.out hbl.out)
        have HEZ := hrd
        have hg9 := eqn_good hok.out
        have HG9 := Lib.hid hg9.1
        have hFr := hg9.2.2
        simp only at hFr
        clear HST HBSQ HEQ HOK hrd hst hg9 hbl
        clear HE_11
        clear HBS_10
        have k0_0 := hs0.cellAt 0 rfl 0 rfl
        have k0_1 := hs0.cellAt 0 rfl 1 rfl
        have k0_2 := hs0.cellAt 0 rfl 2 rfl
        have k1_0 := hs0.cellAt 1 rfl 0 rfl
        have k1_1 := hs0.cellAt 1 rfl 1 rfl
        by_cases hf : 0 ≤ falseS (p, (U : Int), l)
        · obtain ⟨hF1, hF2, hF3⟩ := fd_none HV.out hok.out hf
          have HF1 := Lib.hid hF1
          have HF2 := Lib.hid hF2
          have HF3 := Lib.hid hF3
          clear hf hF1 hF2 hF3
          go_wp2_with fail
          refine (Follows_c (p, (U : Int), l) _ _ _ (Fl, Fr) _ _ _ HSZ.out HEZ.out).mono ?_
          rintro e w12 ⟨rfl, hbw12⟩
          have hz_w12 : wc.heap.size ≤ w12.heap.size := by have h9 := hbw12.size; (try simp at h9); omega
          have hs13 := hs0.step hbw12
          have HSZ_14 := Lib.hid (Rd.mono HSZ.out hbw12)
          clear HSZ
          have HEZ_15 := Lib.hid (Rd.mono HEZ.out hbw12)
          clear HEZ
          clear k0_0 k0_1 k0_2 k1_0 k1_1
          have k0_0 := hs13.cellAt 0 rfl 0 rfl
          have k0_1 := hs13.cellAt 0 rfl 1 rfl
          have k0_2 := hs13.cellAt 0 rfl 2 rfl
          have k1_0 := hs13.cellAt 1 rfl 0 rfl
          have k1_1 := hs13.cellAt 1 rfl 1 rfl
          rw [HF1.out]
          go_wp2_with fail
          refine (DerivationOf_c (p, (U : Int), l) _ _ _ (Fl, Fr) _ _ _ HSZ_14.out HEZ_15.out).mono ?_
          rintro e w16 ⟨v1, rfl, fr1, hbw16⟩
          have hz_w16 : w12.heap.size ≤ w16.heap.size := by have h9 := hbw16.size; (try simp at h9); omega
          have hs17 := hs13.step hbw16
          have HSZ_18 := Lib.hid (Rd.mono HSZ_14.out hbw16)
          clear HSZ_14
          have HEZ_19 := Lib.hid (Rd.mono HEZ_15.out hbw16)
          clear HEZ_15
          clear k0_0 k0_1 k0_2 k1_0 k1_1
          have k0_0 := hs17.cellAt 0 rfl 0 rfl
          have k0_1 := hs17.cellAt 0 rfl 1 rfl
          have k0_2 := hs17.cellAt 0 rfl 2 rfl
          have k1_0 := hs17.cellAt 1 rfl 0 rfl
          have k1_1 := hs17.cellAt 1 rfl 1 rfl
          rw [HF2.out] at fr1 ⊢
          obtain ⟨b1, d1, rfl, hx1⟩ := rd_list fr1.rd
          have HD1 := Lib.hid fr1.rd
          clear fr1 hx1
          go_wp2_with fail
          refine (sDerivationOf_c (p, (U : Int), l) _ _ _ (Fl, Fr) _ _ _ HSZ_18.out HEZ_19.out).mono ?_
          rintro e w20 ⟨v2, rfl, fr2, hbw20⟩
          have hz_w20 : w16.heap.size ≤ w20.heap.size := by have h9 := hbw20.size; (try simp at h9); omega
          have hs21 := hs17.step hbw20
          have HSZ_22 := Lib.hid (Rd.mono HSZ_18.out hbw20)
          clear HSZ_18
          have HEZ_23 := Lib.hid (Rd.mono HEZ_19.out hbw20)
          clear HEZ_19
          have HD1_24 := Lib.hid (Rd.mono HD1.out hbw20)
          clear HD1
          clear k0_0 k0_1 k0_2 k1_0 k1_1
          have k0_0 := hs21.cellAt 0 rfl 0 rfl
          have k0_1 := hs21.cellAt 0 rfl 1 rfl
          have k0_2 := hs21.cellAt 0 rfl 2 rfl
          have k1_0 := hs21.cellAt 1 rfl 0 rfl
          have k1_1 := hs21.cellAt 1 rfl 1 rfl
          rw [HF2.out] at fr2 ⊢
          obtain ⟨b2, d2, rfl, hx2⟩ := rd_list fr2.rd
          have HD2 := Lib.hid fr2.rd
          clear fr2 hx2
          go_wp2_with fail
          refine (CountAnswers_c (p, (U : Int), l) _ _ _ _ HSZ_22.out).mono ?_
          rintro e w25 ⟨rfl, hbw25⟩
          have hz_w25 : w20.heap.size ≤ w25.heap.size := by have h9 := hbw25.size; (try simp at h9); omega
          have hs26 := hs21.step hbw25
          have HSZ_27 := Lib.hid (Rd.mono HSZ_22.out hbw25)
          clear HSZ_22
          have HEZ_28 := Lib.hid (Rd.mono HEZ_23.out hbw25)
          clear HEZ_23
          have HD1_29 := Lib.hid (Rd.mono HD1_24.out hbw25)
          clear HD1_24
          have HD2_30 := Lib.hid (Rd.mono HD2.out hbw25)
          clear HD2
          clear k0_0 k0_1 k0_2 k1_0 k1_1
          have k0_0 := hs26.cellAt 0 rfl 0 rfl
          have k0_1 := hs26.cellAt 0 rfl 1 rfl
          have k0_2 := hs26.cellAt 0 rfl 2 rfl
          have k1_0 := hs26.cellAt 1 rfl 0 rfl
          have k1_1 := hs26.cellAt 1 rfl 1 rfl
          rw [HF3.out]
          go_wp2_with fail
          refine (A2Same_c _ _ _ _ _ HD1_29.out HD2_30.out).mono ?_
          rintro e w31 ⟨rfl, nw31, rfl⟩
          have hs32 := hs26.drewN nw31
          have HSZ_33 := Lib.hid (Rd.mono HSZ_27.out (drewN_below _ nw31))
          clear HSZ_27
          have HEZ_34 := Lib.hid (Rd.mono HEZ_28.out (drewN_below _ nw31))
          clear HEZ_28
          have HD1_35 := Lib.hid (Rd.mono HD1_29.out (drewN_below _ nw31))
          clear HD1_29
          have HD2_36 := Lib.hid (Rd.mono HD2_30.out (drewN_below _ nw31))
          clear HD2_30
          clear k0_0 k0_1 k0_2 k1_0 k1_1
          have k0_0 := hs32.cellAt 0 rfl 0 rfl
          have k0_1 := hs32.cellAt 0 rfl 1 rfl
          have k0_2 := hs32.cellAt 0 rfl 2 rfl
          have k1_0 := hs32.cellAt 1 rfl 0 rfl
          have k1_1 := hs32.cellAt 1 rfl 1 rfl
          go_wp2_with fail
          go_ret
          exact ⟨rfl, hs32.bel⟩
        · obtain ⟨Z, dl, dc, cnt, hF1, hF2, hF3, hcn, hdz, hall, hmix⟩ := fd_some HV.out hok.out hf
          have HF1 := Lib.hid hF1
          have HF2 := Lib.hid hF2
          have HF3 := Lib.hid hF3
          have HALL := Lib.hid hall
          have HMIX := Lib.hid hmix
          have hcb : (cnt == 0) = false := by simpa using hcn
          have hdz2 : decide (dc = 0) = Z := by rw [← hdz]; simp [BEq.beq]
          clear hf hF1 hF2 hF3 hall hmix
          go_wp2_with fail
          refine (Follows_c (p, (U : Int), l) _ _ _ (Fl, Fr) _ _ _ HSZ.out HEZ.out).mono ?_
          rintro e w37 ⟨rfl, hbw37⟩
          have hz_w37 : wc.heap.size ≤ w37.heap.size := by have h9 := hbw37.size; (try simp at h9); omega
          have hs38 := hs0.step hbw37
          have HSZ_39 := Lib.hid (Rd.mono HSZ.out hbw37)
          clear HSZ
          have HEZ_40 := Lib.hid (Rd.mono HEZ.out hbw37)
          clear HEZ
          clear k0_0 k0_1 k0_2 k1_0 k1_1
          have k0_0 := hs38.cellAt 0 rfl 0 rfl
          have k0_1 := hs38.cellAt 0 rfl 1 rfl
          have k0_2 := hs38.cellAt 0 rfl 2 rfl
          have k1_0 := hs38.cellAt 1 rfl 0 rfl
          have k1_1 := hs38.cellAt 1 rfl 1 rfl
          rw [HF1.out]
          go_wp2_with fail
          refine (DerivationOf_c (p, (U : Int), l) _ _ _ (Fl, Fr) _ _ _ HSZ_39.out HEZ_40.out).mono ?_
          rintro e w41 ⟨v1, rfl, fr1, hbw41⟩
          have hz_w41 : w37.heap.size ≤ w41.heap.size := by have h9 := hbw41.size; (try simp at h9); omega
          have hs42 := hs38.step hbw41
          have HSZ_43 := Lib.hid (Rd.mono HSZ_39.out hbw41)
          clear HSZ_39
          have HEZ_44 := Lib.hid (Rd.mono HEZ_40.out hbw41)
          clear HEZ_40
          clear k0_0 k0_1 k0_2 k1_0 k1_1
          have k0_0 := hs42.cellAt 0 rfl 0 rfl
          have k0_1 := hs42.cellAt 0 rfl 1 rfl
          have k0_2 := hs42.cellAt 0 rfl 2 rfl
          have k1_0 := hs42.cellAt 1 rfl 0 rfl
          have k1_1 := hs42.cellAt 1 rfl 1 rfl
          rw [HF2.out] at fr1 ⊢
          obtain ⟨b1, d1, rfl, hx1⟩ := rd_list fr1.rd
          have HD1 := Lib.hid fr1.rd
          clear fr1 hx1
          go_wp2_with fail
          refine (sDerivationOf_c (p, (U : Int), l) _ _ _ (Fl, Fr) _ _ _ HSZ_43.out HEZ_44.out).mono ?_
          rintro e w45 ⟨v2, rfl, fr2, hbw45⟩
          have hz_w45 : w41.heap.size ≤ w45.heap.size := by have h9 := hbw45.size; (try simp at h9); omega
          have hs46 := hs42.step hbw45
          have HSZ_47 := Lib.hid (Rd.mono HSZ_43.out hbw45)
          clear HSZ_43
          have HEZ_48 := Lib.hid (Rd.mono HEZ_44.out hbw45)
          clear HEZ_44
          have HD1_49 := Lib.hid (Rd.mono HD1.out hbw45)
          clear HD1
          clear k0_0 k0_1 k0_2 k1_0 k1_1
          have k0_0 := hs46.cellAt 0 rfl 0 rfl
          have k0_1 := hs46.cellAt 0 rfl 1 rfl
          have k0_2 := hs46.cellAt 0 rfl 2 rfl
          have k1_0 := hs46.cellAt 1 rfl 0 rfl
          have k1_1 := hs46.cellAt 1 rfl 1 rfl
          rw [HF2.out] at fr2 ⊢
          obtain ⟨b2, d2, rfl, hx2⟩ := rd_list fr2.rd
          have HD2 := Lib.hid fr2.rd
          clear fr2 hx2
          go_wp2_with fail
          refine (CountAnswers_c (p, (U : Int), l) _ _ _ _ HSZ_47.out).mono ?_
          rintro e w50 ⟨rfl, hbw50⟩
          have hz_w50 : w45.heap.size ≤ w50.heap.size := by have h9 := hbw50.size; (try simp at h9); omega
          have hs51 := hs46.step hbw50
          have HSZ_52 := Lib.hid (Rd.mono HSZ_47.out hbw50)
          clear HSZ_47
          have HEZ_53 := Lib.hid (Rd.mono HEZ_48.out hbw50)
          clear HEZ_48
          have HD1_54 := Lib.hid (Rd.mono HD1_49.out hbw50)
          clear HD1_49
          have HD2_55 := Lib.hid (Rd.mono HD2.out hbw50)
          clear HD2
          clear k0_0 k0_1 k0_2 k1_0 k1_1
          have k0_0 := hs51.cellAt 0 rfl 0 rfl
          have k0_1 := hs51.cellAt 0 rfl 1 rfl
          have k0_2 := hs51.cellAt 0 rfl 2 rfl
          have k1_0 := hs51.cellAt 1 rfl 0 rfl
          have k1_1 := hs51.cellAt 1 rfl 1 rfl
          rw [HF3.out]
          go_wp2_with fail
          refine (A2Same_c _ _ _ _ _ HD1_54.out HD2_55.out).mono ?_
          rintro e w56 ⟨rfl, nw56, rfl⟩
          have hs57 := hs51.drewN nw56
          have HSZ_58 := Lib.hid (Rd.mono HSZ_52.out (drewN_below _ nw56))
          clear HSZ_52
          have HEZ_59 := Lib.hid (Rd.mono HEZ_53.out (drewN_below _ nw56))
          clear HEZ_53
          have HD1_60 := Lib.hid (Rd.mono HD1_54.out (drewN_below _ nw56))
          clear HD1_54
          have HD2_61 := Lib.hid (Rd.mono HD2_55.out (drewN_below _ nw56))
          clear HD2_55
          clear k0_0 k0_1 k0_2 k1_0 k1_1
          have k0_0 := hs57.cellAt 0 rfl 0 rfl
          have k0_1 := hs57.cellAt 0 rfl 1 rfl
          have k0_2 := hs57.cellAt 0 rfl 2 rfl
          have k1_0 := hs57.cellAt 1 rfl 0 rfl
          have k1_1 := hs57.cellAt 1 rfl 1 rfl
          go_upto_if 158 with fail
          have hz_wZ : w50.heap.size ≤ ((w50.drewN nw56)).heap.size := by simp
          generalize hgen_wZ : (w50.drewN nw56) = wZ at *
          clear hgen_wZ
          have HSTZ := Lib.hid hs57
          have HSZZ := Lib.hid HSZ_58.out
          have HEZZ := Lib.hid HEZ_59.out
          have HDZZ := Lib.hid HD2_61.out
          have hloZ := hs57.hi
          have hlow := hs57.lo
          clear HSZ_58
          clear HEZ_59
          clear HD1_60
          clear HD2_61
          clear k0_0 k0_1 k0_2 k1_0 k1_1
          go_cut [] from 159 to 225 (fun wx => Hid (St w (w6.heap.size + 1) wx [(w2.heap.size, #[.int .i64 p, .int .i64 U, .slice aS l.length cS], 26), (w6.heap.size, #[.slice ae Fl.length ce, .int .i64 Fr], 30)]) ∧ Hid (Rd wx [.int .i64 p, .int .i64 U, .slice aS l.length cS] ((p, (U : Int), l) : Sys)) ∧ Hid (Rd wx [.slice ae Fl.length ce, .int .i64 Fr] ((Fl, Fr) : Eqn)))
          case first =>
            cases Z with
            | false =>
              go_wp2_with fail
              go_meet
              case rel => exact ⟨HSTZ.out, HSZZ.out, HEZZ.out⟩
            | true =>
              obtain ⟨hdl, hdr, hmx⟩ := HMIX.out rfl
              rw [Int.toNat_natCast] at hmx
              have HDL := Lib.hid hdl
              have HDR := Lib.hid hdr
              have HMX := Lib.hid hmx
              clear hdl hdr hmx HMIX HALL
              have k0_0 := hs57.cellAt 0 rfl 0 rfl
              have k0_1 := hs57.cellAt 0 rfl 1 rfl
              have k0_2 := hs57.cellAt 0 rfl 2 rfl
              have k1_0 := hs57.cellAt 1 rfl 0 rfl
              have k1_1 := hs57.cellAt 1 rfl 1 rfl
              go_wp2_with (at_make; refine wpList_make_rep _ rfl _ _ 28 rfl E_ints (0 : Int) own0_int U (by omega) rfl rfl ?_; intro wM hownM hbM hzM)
              have HSM := Lib.hid (HSTZ.out.step hbM)
              have HOM := Lib.hid hownM
              have HBM := Lib.hid hbM
              have hzN : wZ.heap.size + 1 ≤ wM.heap.size := by omega
              have hle9 : ∀ e, e ∈ l → e.1.length = U := fun e he => (eqn_good (HEO.out e he)).1
              have HLE9 := Lib.hid hle9
              clear hownM hbM hzM hle9
              clear k0_0 k0_1 k0_2 k1_0 k1_1
              go_loopw [19, 20] (fun xr xi wl => ∃ j : Nat, j ≤ l.length ∧ xr = .int .i64 (mixTo p U dl l j).2 ∧ xi = .int .i64 j ∧ Hid (St w (w6.heap.size + 1) wl [(w2.heap.size, #[.int .i64 p, .int .i64 U, .slice aS l.length cS], 26), (w6.heap.size, #[.slice ae Fl.length ce, .int .i64 Fr], 30)]) ∧ Hid (OwnSl [wZ.heap.size] wl (.slice (some ⟨wZ.heap.size, 0, none⟩) U U) (mixTo p U dl l j).1) ∧ Hid (Below wZ.heap.size wZ wl) ∧ wZ.heap.size + 1 ≤ wl.heap.size) (fun _ xi _ => l.length - (intOf xi).toNat)
              case atStart => exact ⟨0, Nat.zero_le _, rfl, rfl, HSM.out, HOM.out, HBM.out, hzN⟩
              case round =>
                clear HSM HOM HBM hzN
                obtain ⟨j, hj, rfl, rfl, hst, how, hbl, hzr⟩ := hrel
                have hs0 := hst.out
                have hdlI : (dl.length : Int) = l.length := by rw [HDL.out]
                have k0_0 := hs0.cellAt 0 rfl 0 rfl
                have k0_1 := hs0.cellAt 0 rfl 1 rfl
                have k0_2 := hs0.cellAt 0 rfl 2 rfl
                have k1_0 := hs0.cellAt 1 rfl 0 rfl
                have k1_1 := hs0.cellAt 1 rfl 1 rfl
                by_cases hlt : j < l.length
                · have hltI : (j : Int) < l.length := by omega
                  have hltD : (j : Int) < dl.length := by omega
                  obtain ⟨_, _, eS, hSl⟩ := rd_list (rd_cons rfl (rd_cons rfl HSZZ.out).2).2
                  simp only [Value.slice.injEq] at eS
                  obtain ⟨rfl, -, rfl⟩ := eS
                  obtain ⟨b, o, y0, y1, rfl, p0, p1, hy⟩ := rdSl_two rfl hSl j hlt
                  have hg0 := eqn_good (HEO.out _ (List.getElem_mem hlt))
                  have hgl : l.getD j ([], 0) = l[j] := by simp [List.getD, hlt]
                  have hm1 := mix_res (p := p) (by omega) (U := U) (d := dl) (l := l) j
                  have hmL := mix_len (p := p) (d := dl) HLE9.out j hj
                  have hmS : mixTo p U dl l (j + 1) = (List.zipWith (fun a b => (a + dl.getD j 0 * b) % p) (mixTo p U dl l j).1 (l.getD j ([], 0)).1, ((mixTo p U dl l j).2 + dl.getD j 0 * (l.getD j ([], 0)).2) % p) := rfl
                  rw [hgl] at hmS
                  obtain ⟨bd, od, rfl, hcd, _⟩ := rd_int_at HDZZ.out j (by rw [HDL.out]; exact hlt)
                  have hDr := HDR.out.get j (by rw [HDL.out]; exact hlt)
                  have hgd : dl.getD j 0 = dl[j]'(by rw [HDL.out]; exact hlt) := by simp [List.getD, HDL.out, hlt]
                  rw [hgd] at hmS
                  generalize dl[j]'(by rw [HDL.out]; exact hlt) = D at *
                  generalize l[j] = X at *
                  obtain ⟨L, R⟩ := X
                  obtain ⟨a1, c1, rfl, _⟩ := rd_list (rd_cons rfl hy).1
                  obtain ⟨rfl, _⟩ := rd_i1 (rd_cons rfl hy).2
                  have HL := Lib.hid (rd_cons rfl hy).1
                  have hR : 0 ≤ R ∧ R < p := ⟨hg0.2.2.1, hg0.2.2.2⟩
                  have HLL := Lib.hid hg0.1
                  have HLR := Lib.hid hg0.2.1
                  have P0 := Lib.hid p0
                  have P1 := Lib.hid p1
                  have PD := Lib.hid hcd
                  have HMS := Lib.hid hmS
                  have HML := Lib.hid hmL
                  have HM1 := Lib.hid hm1.1
                  have hrr := hm1.2
                  clear hy hSl hg0 p0 p1 hcd hmS hmL hm1 hgl hgd
                  generalize mixTo p U dl l j = MX at *
                  obtain ⟨ML, r⟩ := MX
                  simp only at HMS HML HM1 hrr
                  have HOW := how
                  have HBL := hbl
                  clear how hbl
                  go_wp2_with fail
                  go_loopw [21] (fun iv wl => ∃ q : Nat, q ≤ U ∧ iv = .int .i64 q ∧ Hid (St w (w6.heap.size + 1) wl [(w2.heap.size, #[.int .i64 p, .int .i64 U, .slice (some ⟨b, o, none⟩) l.length cS], 26), (w6.heap.size, #[.slice ae Fl.length ce, .int .i64 Fr], 30)]) ∧ Hid (OwnSl [wZ.heap.size] wl (.slice (some ⟨wZ.heap.size, 0, none⟩) U U) (zipTo (fun a b => (a + D * b) % p) ML L q)) ∧ Hid (Below wZ.heap.size wZ wl) ∧ wZ.heap.size + 1 ≤ wl.heap.size) (fun iv _ => U - (intOf iv).toNat)
                  case atStart => exact ⟨0, Nat.zero_le _, rfl, hst.out, by simpa [Hid, zipTo_zero] using HOW.out, HBL.out, hzr⟩
                  case round =>
                    clear HOW HBL hst hs0 hzr k0_0 k0_1 k0_2 k1_0 k1_1
                    obtain ⟨q, hq, rfl, hst, how, hbl, hzr⟩ := hrel
                    have hs0 := hst.out
                    have k0_0 := hs0.cellAt 0 rfl 0 rfl
                    have k0_1 := hs0.cellAt 0 rfl 1 rfl
                    have k0_2 := hs0.cellAt 0 rfl 2 rfl
                    have k1_0 := hs0.cellAt 1 rfl 0 rfl
                    have k1_1 := hs0.cellAt 1 rfl 1 rfl
                    have ed := cellL hbl.out PD.out
                    by_cases hqU : q < U
                    · have hqI : (q : Int) < U := by omega
                      have hqM : q < ML.length := by rw [HML.out]; exact hqU
                      have hqL : q < L.length := by rw [HLL.out]; exact hqU
                      have HZL := Lib.hid (zipTo_length (fun a b => (a + D * b) % p) ML L q (by omega) (by omega))
                      obtain ⟨g', o', c', hv', hps, hc, hf, hI, hset⟩ := own_int_set how.out q (by rw [HZL.out]; exact hqM)
                      rw [HZL.out] at hv'
                      simp only [Value.slice.injEq, Option.some.injEq, Addr.mk.injEq, and_true] at hv'
                      obtain ⟨⟨rfl, rfl⟩, -, rfl⟩ := hv'
                      rw [zipTo_get _ _ _ _ hqM (by omega)] at hc
                      have hA := HM1.out.get q hqM
                      obtain ⟨b1, o1, rfl, hcm, _⟩ := rd_int_at HL.out q hqL
                      have hM := HLR.out.get q hqL
                      have HZS := Lib.hid (zipTo_succ (fun a b => (a + D * b) % p) ML L q hqM hqL)
                      simp only [Nat.zero_add] at hc hf hset
                      have HSET := Lib.hid hset
                      have e0 := cellL hbl.out P0.out
                      have e2 := cellL hbl.out hcm
                      have hLI : (q : Int) < L.length := by omega
                      clear hset hps hI
                      generalize ML[q] = A at *
                      generalize L[q] = M at *
                      obtain ⟨m1, m2, m3, m4, m5, m6⟩ := mixN hp hA hDr hM
                      have hp1 : p ≠ 0 := by omega
                      have hp2 : (p == 0) = false := by simpa using hp1
                      have HN := Lib.hid (HSET.out ((A + D * M) % p) ⟨by omega, by omega⟩)
                      simp only [HZS.out] at HN
                      go_wp2_with fail
                      refine wp_region_noPanic (wp_region_el (fun w' => w'.cell? ⟨w2.heap.size, 0, none⟩ = some (.int .i64 p) ∧ w'.cell? ⟨w2.heap.size, 2, none⟩ = some (.slice (some ⟨b, o, none⟩) l.length cS) ∧ w'.cell? ⟨wZ.heap.size, q, none⟩ = some (.int .i64 A) ∧ w'.cell? ⟨b, o + j * 2, none⟩ = some (.slice (some ⟨b1, o1, none⟩) L.length c1) ∧ w'.cell? ⟨b1, o1 + q, none⟩ = some (.int .i64 M) ∧ w'.cell? ⟨bd, od + j, none⟩ = some (.int .i64 D)) [(0, 0), (1, 0), (2, 0), (3, 0), (4, 0), (5, 0), (6, 0), (7, 0), (8, 0), (9, 0), (10, 0), (11, 0), (12, 0), (13, 0), (14, 0), (15, 0), (16, 0), (17, 0), (18, 0), (19, 0), (20, 0), (21, 0), (22, 0), (23, 0), (24, 0), (25, 2)] (by kernel_rfl) (by kernel_rfl) (by kernel_rfl) rfl ?_ (fun _ _ _ _ _ h => h) ?_)
                      · exact ⟨k0_0, k0_2, hc, e0, e2, ed⟩
                      (repeat (first | (apply el_skip rfl (by rfl); try simp only [Act.put, List.setIfInBounds_toArray, List.set_cons_zero, List.set_cons_succ]) | (apply el_float rfl (by rfl); (· (intro w' hS; go_simp <;> with_reducible rfl)); (try simp only [Act.put, List.setIfInBounds_toArray, List.set_cons_zero, List.set_cons_succ]))))
                      refine el_last rfl (by rfl) (fun K hK => ?_)
                      go_wp2_with fail
                      refine el_nil (NoPanic.normal ?_)
                      go_wp2_with fail
                      go_roundw
                      case rel => exact ⟨q + 1, by omega, by go_num, hs0.drew.stepB ((Below.refl _ _).setCell (p := ⟨wZ.heap.size, q, none⟩) (by simp only; omega) _), ownSl_heap HN.out rfl, (hbl.out.drew).setCell (by simp only; omega) _, by simp [World.setCell]; omega⟩
                      case measure => simp [intOf]; omega
                    · obtain rfl : U = q := by omega
                      have hnl : ¬ ((U : Int) < U) := by omega
                      have e1 := cellL hbl.out P1.out
                      obtain ⟨m1, m2, m3, m4, m5, m6⟩ := mixN hp hrr hDr hR
                      have hp1 : p ≠ 0 := by omega
                      have hp2 : (p == 0) = false := by simpa using hp1
                      have HOE := Lib.hid (show OwnSl [wZ.heap.size] wr (.slice (some ⟨wZ.heap.size, 0, none⟩) U U) (List.zipWith (fun a b => (a + D * b) % p) ML L) from by
                        have h9 := how.out
                        have e9 := zipTo_all (fun a b => (a + D * b) % p) ML L (by rw [HML.out, HLL.out]; exact Nat.le_refl _)
                        rw [HML.out] at e9
                        rw [e9] at h9; exact h9)
                      go_wp2_with fail
                      refine wp_region_noPanic (wp_region_el (fun w' => w'.cell? ⟨w2.heap.size, 0, none⟩ = some (.int .i64 p) ∧ w'.cell? ⟨w2.heap.size, 2, none⟩ = some (.slice (some ⟨b, o, none⟩) l.length cS) ∧ w'.cell? ⟨b, o + j * 2 + 1, none⟩ = some (.int .i64 R) ∧ w'.cell? ⟨bd, od + j, none⟩ = some (.int .i64 D)) [(0, 0), (1, 0), (2, 0), (3, 0), (4, 0), (5, 0), (6, 0), (7, 0), (8, 0), (9, 0), (10, 0), (11, 0), (12, 0), (13, 0), (14, 0), (15, 0), (16, 0)] (by kernel_rfl) (by kernel_rfl) (by kernel_rfl) rfl ?_ (fun _ _ _ _ _ h => h) ?_)
                      · exact ⟨k0_0, k0_2, e1, ed⟩
                      (repeat (first | (apply el_skip rfl (by rfl); try simp only [Act.put, List.setIfInBounds_toArray, List.set_cons_zero, List.set_cons_succ]) | (apply el_float rfl (by rfl); (· (intro w' hS; go_simp <;> with_reducible rfl)); (try simp only [Act.put, List.setIfInBounds_toArray, List.set_cons_zero, List.set_cons_succ]))))
                      refine el_nil (NoPanic.normal ?_)
                      go_wp2_with fail
                      go_roundw
                      case rel => exact ⟨j + 1, by omega, by rw [HMS.out], by go_num, hs0.drew, (by rw [HMS.out]; exact ownSl_heap HOE.out rfl), hbl.out.drew, by simpa using hzr⟩
                      case measure => simp [intOf]; omega
                · obtain rfl : j = l.length := by omega
                  have hnl : ¬ ((l.length : Int) < dl.length) := by omega
                  have HSZ := Lib.hid (Rd.mono HSZZ.out hbl.out)
                  have HEZ := Lib.hid (Rd.mono HEZZ.out hbl.out)
                  have HO9 := Lib.hid (show OwnSl [wZ.heap.size] wr (.slice (some ⟨wZ.heap.size, 0, none⟩) U U) Fl from by have h9 := how.out; rw [HMX.out] at h9; exact h9)
                  rw [HMX.out]
                  have HRL := Lib.hid (show Rd wr [.slice (some ⟨wZ.heap.size, 0, none⟩) U U] Fl from ownSl_rd HO9.out)
                  go_wp2_with fail
                  refine (A2Same_c Fl Fl _ _ _ HRL.out (rd_cons rfl HEZ.out).1).mono ?_
                  rintro e w62 ⟨rfl, nw62, rfl⟩
                  have hs63 := hs0.drewN nw62
                  have HSZ_64 := Lib.hid (Rd.mono HSZ.out (drewN_below _ nw62))
                  clear HSZ
                  have HEZ_65 := Lib.hid (Rd.mono HEZ.out (drewN_below _ nw62))
                  clear HEZ
                  have HRL_66 := Lib.hid (Rd.mono HRL.out (drewN_below _ nw62))
                  clear HRL
                  clear k0_0 k0_1 k0_2 k1_0 k1_1
                  have k0_0 := hs63.cellAt 0 rfl 0 rfl
                  have k0_1 := hs63.cellAt 0 rfl 1 rfl
                  have k0_2 := hs63.cellAt 0 rfl 2 rfl
                  have k1_0 := hs63.cellAt 1 rfl 0 rfl
                  have k1_1 := hs63.cellAt 1 rfl 1 rfl
                  go_wp2_with fail
                  go_meet
                  case rel => exact ⟨hs63, HSZ_64.out, HEZ_65.out⟩
          case rest =>
            obtain ⟨hst, hsz, hez⟩ := hcut
            have hs0 := hst.out
            have HSZ := hsz
            have HEZ := hez
            clear HSTZ HSZZ HEZZ HDZZ hst hsz hez HMIX
            have k0_0 := hs0.cellAt 0 rfl 0 rfl
            have k0_1 := hs0.cellAt 0 rfl 1 rfl
            have k0_2 := hs0.cellAt 0 rfl 2 rfl
            have k1_0 := hs0.cellAt 1 rfl 0 rfl
            have k1_1 := hs0.cellAt 1 rfl 1 rfl
            have hAF : answersF (p, (U : Int), l) = if 500 < cnt then ([], 3) else (answersS (p, (U : Int), l), 0) := by
              unfold answersF; rw [if_pos HV.out, HF3.out]
            by_cases h5 : 500 < cnt
            · rw [if_pos h5] at hAF
              have HAF := Lib.hid hAF
              clear hAF
              go_wp2_with fail
              refine (AnswersOf_c (p, (U : Int), l) _ _ _ _ HSZ.out).mono ?_
              rintro e w67 ⟨v3, rfl, fr3, hbw67⟩
              have hz_w67 : wc.heap.size ≤ w67.heap.size := by have h9 := hbw67.size; (try simp at h9); omega
              have hs68 := hs0.step hbw67
              have HSZ_69 := Lib.hid (Rd.mono HSZ.out hbw67)
              clear HSZ
              have HEZ_70 := Lib.hid (Rd.mono HEZ.out hbw67)
              clear HEZ
              clear k0_0 k0_1 k0_2 k1_0 k1_1
              have k0_0 := hs68.cellAt 0 rfl 0 rfl
              have k0_1 := hs68.cellAt 0 rfl 1 rfl
              have k0_2 := hs68.cellAt 0 rfl 2 rfl
              have k1_0 := hs68.cellAt 1 rfl 0 rfl
              have k1_1 := hs68.cellAt 1 rfl 1 rfl
              rw [HAF.out]
              go_wp2_with fail
              go_ret
              exact ⟨rfl, hs68.bel⟩
            · rw [if_neg h5] at hAF
              have HAF := Lib.hid hAF
              clear hAF
              go_wp2_with fail
              refine (AnswersOf_c (p, (U : Int), l) _ _ _ _ HSZ.out).mono ?_
              rintro e w71 ⟨v3, rfl, fr3, hbw71⟩
              have hz_w71 : wc.heap.size ≤ w71.heap.size := by have h9 := hbw71.size; (try simp at h9); omega
              have hs72 := hs0.step hbw71
              have HSZ_73 := Lib.hid (Rd.mono HSZ.out hbw71)
              clear HSZ
              have HEZ_74 := Lib.hid (Rd.mono HEZ.out hbw71)
              clear HEZ
              clear k0_0 k0_1 k0_2 k1_0 k1_1
              have k0_0 := hs72.cellAt 0 rfl 0 rfl
              have k0_1 := hs72.cellAt 0 rfl 1 rfl
              have k0_2 := hs72.cellAt 0 rfl 2 rfl
              have k1_0 := hs72.cellAt 1 rfl 0 rfl
              have k1_1 := hs72.cellAt 1 rfl 1 rfl
              rw [HAF.out] at fr3 ⊢
              have hmem := fun v (h : v ∈ answersS (p, (U : Int), l)) => (answers_mem HV.out).1 h
              simp only [Int.toNat_natCast] at hmem
              have HMEM := Lib.hid hmem
              clear hmem
              generalize answersS (p, (U : Int), l) = AL at *
              obtain ⟨b3, d3, rfl, hx3⟩ := rd_list fr3.rd
              have HD3 := Lib.hid fr3.rd
              have hln3 := (rdSl_len hx3).2
              unfold maxLen at hln3
              clear fr3 hx3
              go_wp2_with fail
              have HST4 := Lib.hid hs72
              have HSZ4 := Lib.hid HSZ_73.out
              have HEZ4 := Lib.hid HEZ_74.out
              have HD34 := Lib.hid HD3.out
              have hz_wY : w71.heap.size ≤ (w71).heap.size := by simp
              generalize hgen_wY : w71 = wY at *
              clear hgen_wY
              clear HSZ_73
              clear HEZ_74
              clear HD3
              clear k0_0 k0_1 k0_2 k1_0 k1_1
              go_loopw [24, 25] (fun xa xi wl => ∃ j : Nat, j ≤ AL.length ∧ xa = .bool ((AL.take j).all (fun v => holdsE p v (Fl, Fr))) ∧ xi = .int .i64 j ∧ Hid (St w (w6.heap.size + 1) wl [(w2.heap.size, #[.int .i64 p, .int .i64 U, .slice aS l.length cS], 26), (w6.heap.size, #[.slice ae Fl.length ce, .int .i64 Fr], 30)]) ∧ Hid (Below wY.heap.size wY wl)) (fun _ xi _ => AL.length - (intOf xi).toNat)
              case atStart => exact ⟨0, Nat.zero_le _, rfl, rfl, HST4.out, Below.refl _ _⟩
              case round =>
                clear HST4
                obtain ⟨j, hj, rfl, rfl, hst, hbl⟩ := hrel
                have hs0 := hst.out
                have hszr := hst.out.hi
                have HSZ := Lib.hid (Rd.mono HSZ4.out hbl.out)
                have HEZ := Lib.hid (Rd.mono HEZ4.out hbl.out)
                have HBY := hbl
                clear hbl
                have k0_0 := hs0.cellAt 0 rfl 0 rfl
                have k0_1 := hs0.cellAt 0 rfl 1 rfl
                have k0_2 := hs0.cellAt 0 rfl 2 rfl
                have k1_0 := hs0.cellAt 1 rfl 0 rfl
                have k1_1 := hs0.cellAt 1 rfl 1 rfl
                by_cases hlt : j < AL.length
                · have hltI : (j : Int) < AL.length := by omega
                  have HAT := Lib.hid (all_take (fun v => holdsE p v (Fl, Fr)) AL j hlt)
                  obtain ⟨_, _, e3, hx3⟩ := rd_list HD34.out
                  simp only [Value.slice.injEq] at e3
                  obtain ⟨rfl, -, rfl⟩ := e3
                  obtain ⟨b9, o9, vv, rfl, qd, hvd⟩ := rdSl_one rfl hx3 j hlt
                  have hvm := HMEM.out _ (List.getElem_mem hlt)
                  generalize AL[j] = vs at *
                  obtain ⟨a5, c5, rfl, hx5⟩ := rd_list hvd
                  have HVD := Lib.hid (Rd.mono hvd HBY.out)
                  have qd2 := cellL HBY.out qd
                  have HHO := Lib.hid (holds_one hp (by omega) (by omega) hok.out hvm.1 hvm.2.1)
                  clear hx3 hvd qd hvm hx5
                  go_upto_region 46 with fail
                  refine wp_region_noPanic (wp_region_tree4 (fun w' => w'.cell? ⟨w2.heap.size, 0, none⟩ = some (.int .i64 p) ∧ w'.cell? ⟨w2.heap.size, 1, none⟩ = some (.int .i64 U) ∧ w'.cell? ⟨w2.heap.size, 2, none⟩ = some (.slice aS l.length cS) ∧ w'.cell? ⟨w6.heap.size, 0, none⟩ = some (.slice ae Fl.length ce) ∧ w'.cell? ⟨w6.heap.size, 1, none⟩ = some (.int .i64 Fr) ∧ w'.cell? ⟨b9, o9 + j, none⟩ = some (.slice a5 vs.length c5)) (.float 0 (.float 1 (.float 2 (.float 3 (.float 4 (.float 7 (.float 8 (.float 9 (.float 10 (.hard 5 (.float 6 (.hard 11 (.float 12 (.float 13 (.float 14 (.float 15 (.float 16 .nil))))))))))))))))) (by kernel_rfl) (by kernel_rfl) (by kernel_rfl) rfl ?_ (fun _ _ _ _ _ h => h) ?_)
                  · exact ⟨(hs0.drew).cellAt 0 rfl 0 rfl, (hs0.drew).cellAt 0 rfl 1 rfl, (hs0.drew).cellAt 0 rfl 2 rfl, (hs0.drew).cellAt 1 rfl 0 rfl, (hs0.drew).cellAt 1 rfl 1 rfl, cellL (belowD _) qd2⟩
                  have hs75 := hs0.drew
                  have qd2_76 := cellL (belowD _) qd2
                  clear qd2
                  have HSZ_77 := Lib.hid (Rd.mono HSZ.out (belowD _))
                  clear HSZ
                  have HEZ_78 := Lib.hid (Rd.mono HEZ.out (belowD _))
                  clear HEZ
                  have HVD_79 := Lib.hid (Rd.mono HVD.out (belowD _))
                  clear HVD
                  have HBY_80 := Lib.hid (HBY.out.trans (((belowD _)).mono HBY.out.size))
                  clear HBY
                  clear k0_0 k0_1 k0_2 k1_0 k1_1
                  have hz_wd81 : wr.heap.size ≤ (wr.drew).heap.size := by simp
                  generalize hgen_wd81 : wr.drew = wd81 at *
                  have HG_wd81 := Lib.hid hgen_wd81
                  clear hgen_wd81
                  (repeat (first | (apply t4_skip rfl (by rfl); try simp only [Act.put, List.setIfInBounds_toArray, List.set_cons_zero, List.set_cons_succ]) | (apply t4_float rfl (by rfl); (· (intro w' hS; go_simp <;> with_reducible rfl)); (try simp only [Act.put, List.setIfInBounds_toArray, List.set_cons_zero, List.set_cons_succ]))))
                  refine t4_hard rfl (by rfl) (fun K hK => ?_)
                  go_wp2_with fail
                  have hs82 := hs75.alloc #[.slice ae Fl.length ce, .int .i64 Fr] 30 (n := wd81.heap.size) (by simp)
                  have qd2_83 := cellL (belowA _ (.cells #[.slice ae Fl.length ce, .int .i64 Fr] 30)) qd2_76
                  clear qd2_76
                  have HSZ_84 := Lib.hid (Rd.mono HSZ_77.out (belowA _ (.cells #[.slice ae Fl.length ce, .int .i64 Fr] 30)))
                  clear HSZ_77
                  have HEZ_85 := Lib.hid (Rd.mono HEZ_78.out (belowA _ (.cells #[.slice ae Fl.length ce, .int .i64 Fr] 30)))
                  clear HEZ_78
                  have HVD_86 := Lib.hid (Rd.mono HVD_79.out (belowA _ (.cells #[.slice ae Fl.length ce, .int .i64 Fr] 30)))
                  clear HVD_79
                  have HBY_87 := Lib.hid (HBY_80.out.trans (((belowA _ (.cells #[.slice ae Fl.length ce, .int .i64 Fr] 30))).mono HBY_80.out.size))
                  clear HBY_80
                  refine ⟨⟨hs82.cellAt 0 rfl 0 rfl, hs82.cellAt 0 rfl 1 rfl, hs82.cellAt 0 rfl 2 rfl, hs82.cellAt 1 rfl 0 rfl, hs82.cellAt 1 rfl 1 rfl, qd2_83⟩, ?_⟩
                  (repeat (first | (apply t4_skip rfl (by rfl); try simp only [Act.put, List.setIfInBounds_toArray, List.set_cons_zero, List.set_cons_succ]) | (apply t4_float rfl (by rfl); (· (intro w' hS; go_simp <;> with_reducible rfl)); (try simp only [Act.put, List.setIfInBounds_toArray, List.set_cons_zero, List.set_cons_succ]))))
                  refine t4_hard rfl (by rfl) (fun K hK => ?_)
                  go_wp2_with (go_at_call 14; refine (HoldsIn_c (p, (U : Int), [(Fl, Fr)]) _ _ _ vs _ _ (mk_cons (rd_cons rfl HSZ_84.out).1 (mk_cons (rd_cons rfl (rd_cons rfl HSZ_84.out).2).1 (rd_eqn1 HEZ_85.out (hs82.cellAt 2 rfl 0 rfl) (hs82.cellAt 2 rfl 1 rfl)))) HVD_86.out).mono ?_; rintro e w88 ⟨rfl, hbw88⟩)
                  have hz_w88 : wd81.heap.size + 1 ≤ w88.heap.size := by have h9 := hbw88.size; (try simp at h9); omega
                  have hs89 := hs82.step hbw88
                  have qd2_90 := cellL hbw88 qd2_83
                  clear qd2_83
                  have HSZ_91 := Lib.hid (Rd.mono HSZ_84.out hbw88)
                  clear HSZ_84
                  have HEZ_92 := Lib.hid (Rd.mono HEZ_85.out hbw88)
                  clear HEZ_85
                  have HVD_93 := Lib.hid (Rd.mono HVD_86.out hbw88)
                  clear HVD_86
                  have HBY_94 := Lib.hid (HBY_87.out.trans ((hbw88).mono HBY_87.out.size))
                  clear HBY_87
                  rw [HHO.out]
                  refine ⟨⟨hs89.cellAt 0 rfl 0 rfl, hs89.cellAt 0 rfl 1 rfl, hs89.cellAt 0 rfl 2 rfl, hs89.cellAt 1 rfl 0 rfl, hs89.cellAt 1 rfl 1 rfl, qd2_90⟩, ?_⟩
                  (repeat (first | (apply t4_skip rfl (by rfl); try simp only [Act.put, List.setIfInBounds_toArray, List.set_cons_zero, List.set_cons_succ]) | (apply t4_float rfl (by rfl); (· (intro w' hS; go_simp <;> with_reducible rfl)); (try simp only [Act.put, List.setIfInBounds_toArray, List.set_cons_zero, List.set_cons_succ]))))
                  have k0_0 := hs89.cellAt 0 rfl 0 rfl
                  have k0_1 := hs89.cellAt 0 rfl 1 rfl
                  have k0_2 := hs89.cellAt 0 rfl 2 rfl
                  have k1_0 := hs89.cellAt 1 rfl 0 rfl
                  have k1_1 := hs89.cellAt 1 rfl 1 rfl
                  have k2_0 := hs89.cellAt 2 rfl 0 rfl
                  have k2_1 := hs89.cellAt 2 rfl 1 rfl
                  refine t4_nil (NoPanic.normal ?_)
                  have HSL := Lib.hid (hs89.low (B' := w6.heap.size + 1) (bx' := [(w2.heap.size, #[.int .i64 p, .int .i64 U, .slice aS l.length cS], 26), (w6.heap.size, #[.slice ae Fl.length ce, .int .i64 Fr], 30)]) (by omega) (by (try simp) <;> omega) (fun x hx => by simp only [List.mem_cons, List.not_mem_nil, or_false] at hx; rcases hx with rfl | rfl <;> (refine ⟨?_, ?_⟩ <;> (try simp) <;> (try omega))))
                  have HBY9 := Lib.hid HBY_94.out
                  generalize (AL.take j).all (fun v => holdsE p v (Fl, Fr)) = AB at *
                  cases AB with
                  | false =>
                    go_wp2_with fail
                    exact ⟨⟨j + 1, by omega, by rw [HAT.out]; rfl, by go_num, HSL.out, HBY9.out⟩, by simp [intOf]; omega⟩
                  | true =>
                    go_wp2_with fail
                    exact ⟨⟨j + 1, by omega, by rw [HAT.out]; simp, by go_num, HSL.out, HBY9.out⟩, by simp [intOf]; omega⟩
                · obtain rfl : j = AL.length := by omega
                  have hnl : ¬ ((AL.length : Int) < AL.length) := by omega
                  rw [List.take_length, HALL.out]
                  have hZZ : (Z == Z) = true := by simp
                  go_wp2_with fail
                  go_ret
                  exact ⟨rfl, hs0.bel⟩

end Go.Proofs.Ytpejlnofaijmaaa
