/-
  CONTRACTS: what an operation makes of tuples; whether it keeps a relation; the reference's side.
-/
import Derived.Test.YtoblfnoaepbhfaaKeep
import Derived.Test.YtoblfnoaepbhfaaOwnS
namespace Go.Proofs.Ytoblfnoaepbhfaa
open Go.RowKit Go.Shelf Go.IntWalk
open Rep (Rd Own sz)
set_option linter.unusedSimpArgs false
set_option linter.unusedVariables false

set_option maxRecDepth 100000 in
set_option maxHeartbeats 2000000 in
theorem l01Empty_c (size ar : Int) (PN : Nat) (w : World) (hs : 1 ≤ size) (ha : 0 ≤ ar) (ha2 : ar ≤ 1000) (hp : size ^ ar.toNat = (PN : Int)) (hp2 : PN ≤ 1000000) :
    Calls Try.prog 153 #[.int .i64 size, .int .i64 ar] w fun e w' => e = .returned (.pointer (some ⟨w.heap.size + 1, 0, none⟩)) ∧ w'.heap[w.heap.size + 1]? = some (.cells #[.int .i64 size, .int .i64 ar, .slice (some ⟨w.heap.size, 0, none⟩) PN PN] 189 (0, 0)) ∧
      OwnSl [w.heap.size] w' (.slice (some ⟨w.heap.size, 0, none⟩) PN PN) (List.replicate PN false) ∧ w'.heap.size = w.heap.size + 2 ∧ Below w.heap.size w w' := by
  have HP := Lib.hid hp
  clear hp
  go_enter Try.func153, Try.ntmps153
  go_wp2_with fail
  refine (l01Power_c size ar _ (by omega) ha (by omega) (by rw [HP.out]; omega)).mono ?_
  rintro e w1 ⟨rfl, rfl⟩
  rw [HP.out]
  go_wp2_with (at_make; refine wpList_make_rep _ rfl _ _ 187 rfl E_bools false own0_bool PN (by omega) rfl rfl ?_; intro w1 hown hb1 hs1)
  go_ret
  refine ⟨rfl, ?_, ownSl_mono hown (belowA _ _), by simp; omega, hb1.trans ((belowA _ _).mono (by omega))⟩
  exact heap_alloc_at w1 _ hs1
set_option maxRecDepth 100000 in
set_option maxHeartbeats 8000000 in
theorem l01SetOf_c (size : Int) (r : RelT) (pb po : Nat) (r0 r1 : Value) (PN : Nat) (w : World) (hr : Rd w [r0, r1] r) (c0 : w.cell? ⟨pb, po, none⟩ = some r0) (c1 : w.cell? ⟨pb, po + 1, none⟩ = some r1) (hrk : relOk size r = true) (hp : size ^ r.1.toNat = (PN : Int)) :
    Calls Try.prog 121 #[.int .i64 size, .pointer (some ⟨pb, po, none⟩)] w fun e w' => e = .returned (.pointer (some ⟨w.heap.size + 1, 0, none⟩)) ∧ w'.heap[w.heap.size + 1]? = some (.cells #[.int .i64 size, .int .i64 r.1, .slice (some ⟨w.heap.size, 0, none⟩) PN PN] 189 (0, 0)) ∧
      OwnSl [w.heap.size] w' (.slice (some ⟨w.heap.size, 0, none⟩) PN PN) (setTo size PN r.2 r.2.length) ∧ w.heap.size + 2 ≤ w'.heap.size ∧ Below w.heap.size w w' := by
  obtain ⟨rar, ts⟩ := r
  have hs := (relOk_get hrk).1
  have hra := (relOk_get hrk).2.1
  have hp256 := pow256 hs hra
  simp only at hra hp256 hp
  rw [hp] at hp256
  have HPN := Lib.hid hp
  have HVAL := Lib.hid (relOk_val hrk)
  have zr := rd_cons rfl hr
  obtain ⟨rfl, _⟩ := rd_i1 zr.1
  obtain ⟨a, c, rfl, htr⟩ := rd_list zr.2
  have hb0 := (rdSl_len htr).2
  unfold maxLen at hb0
  have HTR := Lib.hid htr
  clear hr zr hrk htr hp
  obtain ⟨AR, rfl⟩ : ∃ x : Nat, rar = x := ⟨rar.toNat, by omega⟩
  have c0_ := cellL (St.start w).bel c0
  clear c0_
  have c0_ := cellL (St.start w).bel c0
  have c1_ := cellL (St.start w).bel c1
  go_enter Try.func121, Try.ntmps121
  go_wp2_with fail
  refine (l01Empty_c size AR PN _ hs.1 (by omega) (by omega) HPN.out (by omega)).mono ?_
  rintro e w1 ⟨rfl, hh1, hown, hsz, hb1⟩
  have HH := Lib.hid hh1
  have HO := Lib.hid hown
  have hsz1 : w.heap.size + 2 ≤ w1.heap.size := by omega
  have HB1 := Lib.hid hb1
  clear hh1 hown hsz hb1
  go_wp2_with fail
  go_loopw [6] (fun i wl => ∃ k : Nat, k ≤ ts.length ∧ i = .int .i64 k ∧ Hid (But [w.heap.size] w1 wl) ∧ Hid (OwnSl [w.heap.size] wl (.slice (some ⟨w.heap.size, 0, none⟩) PN PN) (setTo size PN ts k))) (fun i _ => ts.length - (intOf i).toNat)
  case atStart => exact ⟨0, Nat.zero_le _, rfl, But.refl _ _, HO.out⟩
  case round =>
    clear HO
    obtain ⟨k, hk, rfl, ho, hw⟩ := hrel
    have hszr := ho.out.size
    have HHR := Lib.hid (show wr.heap[w.heap.size + 1]? = _ from (ho.out.block _ (by omega) (by simp)).trans HH.out)
    have hsr := (St.start w).stepB (HB1.out.trans (ho.out.below (B := w.heap.size) (by simp) (by omega)))
    have s2 : wr.cell? ⟨w.heap.size + 1, 2, none⟩ = some (.slice (some ⟨w.heap.size, 0, none⟩) PN PN) := by rw [cell_at_block HHR.out]; rfl
    have HSL := Lib.hid (setTo_len size PN ts k)
    have c0_ := cellL hsr.bel c0
    have c1_ := cellL hsr.bel c1
    have HBW := Lib.hid (Below.refl wr.heap.size wr)
    have HOW := hw
    by_cases hlt : k < ts.length
    · have hltI : (k : Int) < ts.length := by omega
      obtain ⟨b, o, u0, rfl, q0, hx⟩ := rdSl_one rfl HTR.out k hlt
      have HX := Lib.hid hx
      obtain ⟨a0, cc0, rfl, _⟩ := rd_list hx
      have hvv := HVAL.out _ (List.getElem_mem hlt)
      have hcb := codeL_bd hs.1 ts[k] hvv.2
      rw [hvv.1] at hcb
      simp only [Int.toNat_natCast] at hcb
      have HPN2 := Lib.hid (show size ^ AR = (PN : Int) from by simpa using HPN.out)
      rw [HPN2.out] at hcb
      have HVV := Lib.hid (show ∀ x, x ∈ ts[k] → 0 ≤ x ∧ x ≤ size - 1 from hvv.2)
      have HLN := Lib.hid (show ts[k].length = AR by have := hvv.1; simpa using this)
      obtain ⟨C, hC⟩ : ∃ C : Nat, codeL size ts[k] = C := ⟨(codeL size ts[k]).toNat, by omega⟩
      have HC := Lib.hid hC
      rw [hC] at hcb
      have HSS := Lib.hid (show (setTo size PN ts k).set C true = setTo size PN ts (k + 1) by
        rw [setTo, show ts.getD k [] = ts[k] by simp [List.getD, hlt], HC.out, Int.toNat_natCast])
      have hCl : (C : Int) < PN := by omega
      have ejw : IntKind.i64.wrap (C : Int) = (C : Int) := i64_in _ (by omega)
      clear hx hvv hC
      clear c0_ c1_
      have c0_ := cellL hsr.bel c0
      have c1_ := cellL hsr.bel c1
      have q0_ := cellL hsr.bel q0
      clear c0_ c1_ q0_
      have c0_ := cellL hsr.bel c0
      have c1_ := cellL hsr.bel c1
      have q0_ := cellL hsr.bel q0
      go_upto_region 5 with fail
      refine wp_region_noPanic (wp_region_tree4 (fun w' => w'.cell? ⟨pb, po, none⟩ = some (.int .i64 AR) ∧ w'.cell? ⟨pb, po + 1, none⟩ = some (.slice (some ⟨b, o, none⟩) ts.length c) ∧ w'.cell? ⟨w.heap.size + 1, 2, none⟩ = some (.slice (some ⟨w.heap.size, 0, none⟩) PN PN) ∧ w'.cell? ⟨b, o + k, none⟩ = some (.slice a0 ts[k].length cc0)) (.float 0 (.float 1 (.float 2 (.float 3 (.float 4 (.float 5 (.float 6 (.float 7 (.float 8 (.float 9 (.float 10 (.float 11 (.hard 12 (.float 13 (.last 14 .nil))))))))))))))) (by kernel_rfl) (by kernel_rfl) (by kernel_rfl) rfl ?_ (fun _ _ _ _ _ h => h) ?_)
      · exact ⟨cellL (hsr.drew).bel c0, cellL (hsr.drew).bel c1, cellL (belowD _) s2, cellL (hsr.drew).bel q0⟩
      have hs1 := hsr.drew
      have s2_2 := cellL (belowD _) s2
      clear s2
      have HBW_3 := Lib.hid (HBW.out.trans (((belowD _)).mono HBW.out.size))
      clear HBW
      have HOW_4 := Lib.hid (ownSl_mono HOW.out (belowD _))
      clear HOW
      clear c0_ c1_ q0_
      have hz_wd5 : wr.heap.size ≤ (wr.drew).heap.size := by simp
      generalize hgen_wd5 : wr.drew = wd5 at *
      have HG_wd5 := Lib.hid hgen_wd5
      clear hgen_wd5
      (repeat (first | (apply t4_skip rfl (by rfl); try simp only [Act.put, List.setIfInBounds_toArray, List.set_cons_zero, List.set_cons_succ]) | (apply t4_float rfl (by rfl); (· (intro w' hS; go_simp <;> with_reducible rfl)); (try simp only [Act.put, List.setIfInBounds_toArray, List.set_cons_zero, List.set_cons_succ]))))
      refine t4_hard rfl (by rfl) (fun K hK => ?_)
      go_wp2_with (go_at_call 123; refine (l01Code_c size ts[k] _ _ (Rd.mono HX.out hs1.bel) hs.1 HVV.out (by rw [HLN.out, HPN2.out]; omega)).mono ?_; rintro e w6 ⟨rfl, rfl, rfl⟩)
      rw [HC.out]
      refine ⟨⟨cellL hs1.bel c0, cellL hs1.bel c1, s2_2, cellL hs1.bel q0⟩, ?_⟩
      (repeat (first | (apply t4_skip rfl (by rfl); try simp only [Act.put, List.setIfInBounds_toArray, List.set_cons_zero, List.set_cons_succ]) | (apply t4_float rfl (by rfl); (· (intro w' hS; go_simp <;> with_reducible rfl)); (try simp only [Act.put, List.setIfInBounds_toArray, List.set_cons_zero, List.set_cons_succ]))))
      refine t4_last rfl (by rfl) (fun K hK => ?_)
      have c0_ := cellL hs1.bel c0
      have c1_ := cellL hs1.bel c1
      have q0_ := cellL hs1.bel q0
      obtain ⟨o9, c9, hv9, hcd9, hf9, hset9⟩ := ownSl_bool HOW_4.out C (by rw [HSL.out]; omega)
      simp only [Value.slice.injEq, Option.some.injEq, Addr.mk.injEq] at hv9
      obtain ⟨⟨-, rfl, -⟩, -, rfl⟩ := hv9
      rw [Nat.zero_add] at hcd9 hf9
      have HS9 := Lib.hid (hset9 true)
      rw [Nat.zero_add, HSS.out] at HS9
      have HO9 := Lib.hid ((ho.out.trans (but_of HBW_3.out)).trans (OnlyAt.but ((OnlyAt.refl [w.heap.size] wd5).setCell (p := ⟨w.heap.size, C, none⟩) (by simp) (.bool true))))
      generalize (setTo size PN ts k)[C]'(by rw [HSL.out]; omega) = B9 at hcd9
      clear hset9
      go_wp2_with fail
      refine t4_nil (NoPanic.normal ?_)
      go_wp2_with fail
      go_roundw
      case rel => exact ⟨k + 1, by omega, by go_num, HO9.out, HS9.out⟩
      case measure => simp [intOf]; omega
    · obtain rfl : k = ts.length := by omega
      have hnl : ¬ ((ts.length : Int) < ts.length) := by omega
      go_wp2_with fail
      go_ret
      exact ⟨rfl, HHR.out, hw.out, by omega, hsr.bel⟩
set_option maxRecDepth 100000 in
set_option maxHeartbeats 8000000 in
theorem l02Make_c (size : Int) (f : OpT) (ts : List (List Int)) (ar : Nat) (pb po : Nat) (v0 v1 vt : Value) (w : World) (hf : Rd w [v0, v1] f) (hc1 : w.cell? ⟨pb, po + 1, none⟩ = some v1) (ht : Rd w [vt] ts) (hok : opOk size f = true) (hlen : (ts.length : Int) = f.1) (hv : ∀ t, t ∈ ts → t.length = ar ∧ Val size t) (har : ar ≤ 1000) :
    Calls Try.prog 122 #[.int .i64 size, .pointer (some ⟨pb, po, none⟩), vt] w fun e w' => ∃ v, e = .returned v ∧ Acc w.heap.size w'.heap.size 2 w' v (makeT size f ts ar) ∧ Below w.heap.size w w' := by
  have hs := (opOk_get hok).1
  have hfa := (opOk_get hok).2.1
  have hR : (makeT size f ts ar).length = ar := by simp [makeT]
  have HRP := Lib.hid (fun (p : Nat) (hp : p < (makeT size f ts ar).length) => show (makeT size f ts ar)[p] = valOf size f (ts.map (fun t => t.getD p 0)) by simp [makeT])
  have HMR := Lib.hid (make_val hok hlen hv).2.2
  generalize hRR : makeT size f ts ar = R at *
  clear hRR
  have HOK := Lib.hid hok
  have HF := Lib.hid hf
  have HC1 := Lib.hid hc1
  have HLEN := Lib.hid hlen
  have HV := Lib.hid hv
  obtain ⟨a, c, rfl, htr⟩ := rd_list ht
  have HT := Lib.hid htr
  have hl3 : ts.length ≤ 3 := by omega
  have hl0 : 0 < ts.length := by omega
  obtain ⟨b, o, u0, rfl, q0, hx0⟩ := rdSl_one rfl htr 0 hl0
  obtain ⟨a0, c0, rfl, _⟩ := rd_list hx0
  have hA0 := (hv _ (List.getElem_mem hl0)).1
  rw [hA0, Nat.add_zero] at q0
  have HR := Lib.hid hR
  have HM := Lib.hid (acc_made (α := Int) w 2)
  clear hok hf ht htr hx0 hv hlen hc1 hR
  have q0_ := cellL (St.start w).bel q0
  go_enter Try.func122, Try.ntmps122
  go_wp2_with fail
  go_loopw [7, 8] (fun oo i wl => ∃ (p : Nat) (ao : Option Addr) (co : Nat), p ≤ ar ∧ i = .int .i64 p ∧ oo = .slice ao p co ∧ Hid (Below w.heap.size w wl) ∧ Hid (Acc w.heap.size wl.heap.size 2 wl (.slice ao p co) (R.take p))) (fun _ i _ => ar - (intOf i).toNat)
  case atStart => exact ⟨0, _, _, Nat.zero_le _, rfl, rfl, belowA _ _, by simpa [Hid] using HM.out⟩
  case round =>
    clear HM
    obtain ⟨p, ao, co, hp, rfl, rfl, hbl0, hac⟩ := hrel
    have hb0 := hbl0.out.size
    have hs0 := (St.start w).step hbl0.out
    have q0_ := cellL hs0.bel q0
    by_cases hlt : p < ar
    · have hltI : (p : Int) < ar := by omega
      have HAV := Lib.hid (show ∀ a, a ∈ ts.map (fun t => t.getD p 0) → 0 ≤ a ∧ a ≤ size - 1 from HMR.out p hlt)
      have HAL := Lib.hid (show (ts.map (fun t => t.getD p 0)).length = ts.length by simp)
      obtain ⟨K, hK, e1, e2, e3, e4, e5, e6⟩ := valOf_at (args := ts.map (fun t => t.getD p 0)) HOK.out (by simpa using HLEN.out) HAV.out
      have HVB := Lib.hid (And.intro e3 e4)
      have HTK := Lib.hid (show R.take p ++ [valOf size f (ts.map (fun t => t.getD p 0))] = R.take (p + 1) by
        rw [List.take_succ_eq_append_getElem (show p < R.length by rw [HR.out]; exact hlt), HRP.out p (by rw [HR.out]; exact hlt)])
      have HAG := Lib.hid (fun (q : Nat) (hq : q < ts.length) => show (ts.map (fun t => t.getD p 0)).getD q 0 = ts[q].getD p 0 by simp [List.getD, hq])
      clear e1 e2 e3 e4 e5 e6 hK
      generalize hAA : ts.map (fun t => t.getD p 0) = A at *
      clear hAA
      obtain ⟨w1, rfl⟩ : ∃ x, x = wr := ⟨_, rfl⟩
      have HM1 := Lib.hid (acc_made (α := Int) w1 2)
      go_wp2_with fail
      go_loopw [9, 10] (fun oi i wl => ∃ (q : Nat) (ai : Option Addr) (ci : Nat), q ≤ ts.length ∧ i = .int .i64 q ∧ oi = .slice ai q ci ∧ Hid (Below w1.heap.size w1 wl) ∧ Hid (Acc w1.heap.size wl.heap.size 2 wl (.slice ai q ci) (A.take q))) (fun _ i _ => ts.length - (intOf i).toNat)
      case atStart => exact ⟨0, _, _, Nat.zero_le _, rfl, rfl, belowA _ _, by simpa [Hid] using HM1.out⟩
      case round =>
        clear HM1
        obtain ⟨q, ai, ci, hq, rfl, rfl, hbl1, hai⟩ := hrel
        have hb1 := hbl1.out.size
        have HAC := Lib.hid (Acc.mono hac.out hbl1.out)
        have HAI := hai
        have hs1 := hs0.step hbl1.out
        have q0_ := cellL hs1.bel q0
        by_cases hqlt : q < ts.length
        · have hqI : (q : Int) < ts.length := by omega
          obtain ⟨b2, o2, u2, e3, q2, hx2⟩ := rdSl_one rfl (rdSl_mono hs1.bel HT.out) q hqlt
          simp only [Option.some.injEq, Addr.mk.injEq, and_true] at e3
          obtain ⟨rfl, rfl⟩ := e3
          have hTL := HV.out _ (List.getElem_mem hqlt)
          obtain ⟨a2, c2, rfl, _⟩ := rd_list hx2
          have hlp : p < ts[q].length := by rw [hTL.1]; exact hlt
          obtain ⟨b4, o4, rfl, q4, hY⟩ := rd_int_at hx2 p hlp
          rw [hTL.1] at q2
          have HYI := Lib.hid hY
          have HA1 := Lib.hid (show A.take q ++ [ts[q][p]] = A.take (q + 1) by
            have h1 := HAG.out q hqlt
            have hq' : q < A.length := by rw [HAL.out]; exact hqlt
            rw [show A.getD q 0 = A[q] by simp [List.getD, hq']] at h1
            rw [List.take_succ_eq_append_getElem hq', h1]
            simp [List.getD, hlp])
          have HAK := Lib.hid (show (A.take q).length = q by rw [List.length_take, HAL.out]; omega)
          clear hx2 hY hTL
          generalize ts[q][p] = Y at *
          clear hlp
          go_wp2_with (at_builtin; go_loud (refine wpList_append_ints _ rfl _ _ _ rfl E_ints rfl (Acc.mono HAI.out (belowA _ (.cells #[.int .i64 Y] 2))) (by omega) (by simp) ⟨wr.heap.size, 0, none⟩ 1 rfl (ns := [Y]) (news1 (cell_at_block (heap_alloc_new _ _))) (fun b hb => by simp at hb; subst hb; exact HYI.out) (by rw [HAK.out]; simp; omega) ?_); simp only [HAK.out, HA1.out]; intro a9 c9 w9 hA9 hB9 hK9)
          have HA9 := Lib.hid hA9
          have HB9 := Lib.hid (hbl1.out.trans ((belowA wr (.cells #[.int .i64 Y] 2)).mono hbl1.out.size) |>.trans hB9)
          clear hA9 hB9 hK9
          go_wp2_with fail
          go_roundw
          case rel => exact ⟨q + 1, a9, c9, hqlt, by go_num, rfl, HB9.out, HA9.out⟩
          case measure => simp [intOf]; omega
        · obtain rfl : q = ts.length := by omega
          have hnq : ¬ ((ts.length : Int) < ts.length) := by omega
          have HAT := Lib.hid (show A.take ts.length = A from List.take_of_length_le (by rw [HAL.out]; exact Nat.le_refl _))
          have HRDA := Lib.hid (show Rd wr [.slice ai ts.length ci] A by have h := HAI.out.rd; rwa [HAT.out] at h)
          have HPL := Lib.hid (show (A.length : Int) = f.1 by rw [HAL.out]; exact HLEN.out)
          have HPK := Lib.hid (show (R.take p).length = p by rw [List.length_take, HR.out]; omega)
          clear HAI
          clear hai
          go_wp2_with fail
          refine (l02Value_c size f A pb po _ _ _ _ (Rd.mono HF.out hs1.bel) (cellL hs1.bel HC1.out) HRDA.out HOK.out HPL.out HAV.out).mono ?_
          rintro e w7 ⟨rfl, hbw7⟩
          have hz_w7 : wr.heap.size ≤ w7.heap.size := by have h9 := hbw7.size; (try simp at h9); omega
          have hs8 := hs1.step hbw7
          have HAC_9 := Lib.hid (Acc.mono HAC.out hbw7)
          clear HAC
          clear q0_
          have q0_ := cellL hs8.bel q0
          generalize valOf size f A = Y at *
          go_wp2_with (at_builtin; go_loud (refine wpList_append_ints _ rfl _ _ _ rfl E_ints rfl (Acc.mono HAC_9.out (belowA _ (.cells #[.int .i64 Y] 2))) (by omega) (by simp; omega) ⟨w7.heap.size, 0, none⟩ 1 rfl (ns := [Y]) (news1 (cell_at_block (heap_alloc_new _ _))) (fun b hb => by simp at hb; subst hb; have := HVB.out; exact ⟨by omega, by omega⟩) (by rw [HPK.out]; simp; omega) ?_); simp only [HPK.out, HTK.out]; intro a9 c9 w9 hA9 hB9 hK9)
          have HA9 := Lib.hid hA9
          have HB9 := Lib.hid (((hs8.bel).trans ((belowA w7 (.cells #[.int .i64 Y] 2)).mono (hs8.bel).size)).trans hB9)
          clear hA9 hB9 hK9
          go_wp2_with fail
          go_roundw
          case rel => exact ⟨p + 1, a9, c9, hlt, by go_num, rfl, HB9.out, HA9.out⟩
          case measure => simp [intOf]; omega
    · obtain rfl : p = ar := by omega
      have hnl : ¬ ((p : Int) < p) := by omega
      have HBF := Lib.hid hbl0.out
      have HAF := Lib.hid (show Acc w.heap.size wr.heap.size 2 wr (.slice ao p co) R by have h := hac.out; rwa [List.take_of_length_le (by rw [HR.out]; exact Nat.le_refl _)] at h)
      go_wp2_with fail
      go_ret
      exact ⟨_, rfl, HAF.out, HBF.out⟩
set_option maxRecDepth 100000 in
set_option maxHeartbeats 16000000 in
theorem l02Breaks_c (size : Int) (f : OpT) (r : RelT) (pb po rb ro : Nat) (v0 v1 r0 r1 : Value) (w : World) (hf : Rd w [v0, v1] f) (c0 : w.cell? ⟨pb, po, none⟩ = some v0) (c1 : w.cell? ⟨pb, po + 1, none⟩ = some v1) (hr : Rd w [r0, r1] r) (d0 : w.cell? ⟨rb, ro, none⟩ = some r0) (d1 : w.cell? ⟨rb, ro + 1, none⟩ = some r1) (hok : opOk size f = true) (hrk : relOk size r = true) :
    Calls Try.prog 87 #[.int .i64 size, .pointer (some ⟨pb, po, none⟩), .pointer (some ⟨rb, ro, none⟩)] w fun e w' => ∃ x y, e = .returned (.tuple #[x, y, .bool (!keepsP size f r)]) ∧ Below w.heap.size w w' := by
  obtain ⟨far, ftb⟩ := f
  obtain ⟨rar, ts⟩ := r
  have hs := (opOk_get hok).1
  have hfa := (opOk_get hok).2.1
  have hra := (relOk_get hrk).2.1
  have hcnt := relOk_count hrk
  have hp256 := pow256 hs hra
  simp only at hfa hra hcnt hp256
  have HVAL := Lib.hid (relOk_val hrk)
  have HOK := Lib.hid hok
  have HRK := Lib.hid hrk
  have HF := Lib.hid hf
  have HR := Lib.hid hr
  have zf := rd_cons rfl hf
  obtain ⟨rfl, _⟩ := rd_i1 zf.1
  obtain ⟨af, cf, rfl, _⟩ := rd_list zf.2
  have zr := rd_cons rfl hr
  obtain ⟨rfl, _⟩ := rd_i1 zr.1
  obtain ⟨a, c, rfl, htr⟩ := rd_list zr.2
  have hb0 := (rdSl_len htr).2
  unfold maxLen at hb0
  have HTR := Lib.hid htr
  have HC1 := Lib.hid c1
  have HD0 := Lib.hid d0
  clear hf hr zf zr hok hrk htr c1 d0
  obtain ⟨AR, rfl⟩ : ∃ x : Nat, rar = x := ⟨rar.toNat, by omega⟩
  obtain ⟨FA, rfl⟩ : ∃ x : Nat, far = x := ⟨far.toNat, by omega⟩
  simp only [Int.toNat_natCast] at hcnt hp256
  obtain ⟨PN, hPN⟩ : ∃ x : Nat, size ^ AR = (x : Int) := ⟨(size ^ AR).toNat, by omega⟩
  have HPN := Lib.hid hPN
  rw [hPN] at hcnt hp256
  clear hPN
  have hTOT : ts.length ^ FA ≤ 256 ^ 3 := Nat.le_trans (Nat.pow_le_pow_left hcnt.2 FA) (Nat.pow_le_pow_right (by omega) (by omega))
  have HTOT := Lib.hid (show ((ts.length : Int)) ^ FA = ((ts.length ^ FA : Nat) : Int) by simp)
  have HKP := Lib.hid (show keepsP size ((FA : Int), ftb) ((AR : Int), ts) = (List.range (ts.length ^ FA)).all (fun i => keepAt size ((FA : Int), ftb) ((AR : Int), ts) i) by unfold keepsP; simp)
  have HSM := Lib.hid (fun (t : List Int) (hl : t.length = AR) (ht : Val size t) => setTo_mem hs.1 (ar := AR) HPN.out.symm (x := ts) (fun t h => by have := HVAL.out t h; rw [Int.toNat_natCast] at this; exact this) hl ht)
  have HLS := Lib.hid (setTo_len size PN ts ts.length)
  have hFA0 : 0 < FA := by omega
  have HZ := Lib.hid (show ts.length = 0 → ts.length ^ FA = 0 from fun h => by rw [h]; exact Nat.zero_pow hFA0)
  generalize hTT : ts.length ^ FA = TOT at *
  clear hTT
  have c0_ := cellL (St.start w).bel c0
  clear c0_
  have c0_ := cellL (St.start w).bel c0
  have d1_ := cellL (St.start w).bel d1
  go_enter Try.func87, Try.ntmps87
  go_wp2_with fail
  refine (l01SetOf_c size ((AR : Int), ts) rb ro _ _ PN _ (Rd.mono HR.out (St.start w).bel) (cellL (St.start w).bel HD0.out) (cellL (St.start w).bel d1) HRK.out (by rw [Int.toNat_natCast]; exact HPN.out)).mono ?_
  rintro e w1 ⟨rfl, hh1, hown, hsz1, hb1⟩
  have HOW := Lib.hid hown
  have HS2 := Lib.hid (show w1.cell? ⟨w.heap.size + 1, 2, none⟩ = some (.slice (some ⟨w.heap.size, 0, none⟩) PN PN) by rw [cell_at_block hh1]; rfl)
  have hst1 := (St.start w).step hb1
  generalize setTo size PN ts ts.length = BS at *
  clear hh1 hown hb1
  have c0_ := cellL hst1.bel c0
  have d1_ := cellL hst1.bel d1
  go_wp2_with fail
  refine (l01Power_c ts.length FA _ (by omega) (by omega) (by omega) (by rw [Int.toNat_natCast, HTOT.out]; omega)).mono ?_
  rintro e w10 ⟨rfl, rfl⟩
  rw [Int.toNat_natCast, HTOT.out]
  go_wp2_with fail
  go_loopw [12] (fun i wl => ∃ k : Nat, k ≤ TOT ∧ i = .int .i64 k ∧ Hid (Below w1.heap.size w1 wl) ∧ Hid (∀ j, j < k → keepAt size ((FA : Int), ftb) ((AR : Int), ts) j = true)) (fun i _ => TOT - (intOf i).toNat)
  case atStart => exact ⟨0, Nat.zero_le _, rfl, Below.refl _ _, fun j hj => absurd hj (Nat.not_lt_zero _)⟩
  case round =>
    obtain ⟨k, hk2, rfl, hbl, hr⟩ := hrel
    have hst3 := hst1.step hbl.out
    have HOB := Lib.hid (ownSl_mono HOW.out hbl.out)
    have hszB := hbl.out.size
    have c0_ := cellL hst3.bel c0
    have d1_ := cellL hst3.bel d1
    by_cases hklt : k < TOT
    · have hkI : (k : Int) < TOT := by omega
      have hts0 : 0 < ts.length := by
        rcases Nat.eq_zero_or_pos ts.length with h | h
        · have := HZ.out h; omega
        · exact h
      go_wp2_with fail
      refine (l01Digits_c ts.length FA k _ (by omega) (by omega) (by omega) (by omega) (by omega) (by omega)).mono ?_
      rintro e w3 ⟨vv, rfl, fr, hb3⟩
      rw [Int.toNat_natCast] at fr
      obtain ⟨av, cv, rfl, _⟩ := rd_list fr.rd
      have hAL := digs_length ts.length FA k
      have HAM := Lib.hid (digs_mem ts.length (by omega) FA k)
      have HKA := Lib.hid (show keepAt size ((FA : Int), ftb) ((AR : Int), ts) k = hasT ts (makeT size ((FA : Int), ftb) (pickT ts (digs ts.length FA k)) AR) by unfold keepAt; simp)
      generalize hAT : digs ts.length FA k = AT at *
      clear hAT
      rw [hAL] at fr
      have HAL := Lib.hid hAL
      have hz3 : wr.heap.size ≤ w3.heap.size := hb3.size
      have HB3 := Lib.hid hb3
      have HROW := Lib.hid (row_made (size := 1) w3 104)
      have HAI := Lib.hid fr.ip
      have HOB3 := Lib.hid (ownSl_mono HOB.out hb3)
      have HS23 := Lib.hid (cellL hb3 (cellL hbl.out HS2.out))
      have hst4 := hst3.step hb3
      obtain ⟨bT, oT, vh, rfl, HVH⟩ := rd_hdrs HTR.out hts0
      have HVH := Lib.hid HVH
      obtain ⟨wo, rfl⟩ : ∃ x, x = wr := ⟨_, rfl⟩
      rw [hAL]
      clear fr hb3 hAL
      have c0_ := cellL hst4.bel c0
      have d1_ := cellL hst4.bel d1
      go_wp2_with fail
      go_loopw [14, 15] (fun ll i wl => ∃ (q g' c' : Nat), q ≤ FA ∧ i = .int .i64 q ∧ ll = .slice (some ⟨g', 0, none⟩) q c' ∧ Hid (w3.heap.size ≤ g' ∧ g' < wl.heap.size) ∧ Hid (Below w3.heap.size w3 wl) ∧ Hid (wl.ownsRow 0 104 1 (.slice (some ⟨g', 0, none⟩) q c') q ((AT.take q).map (fun x => vh x.toNat)))) (fun _ i _ => FA - (intOf i).toNat)
      case atStart => exact ⟨0, w3.heap.size, 0, Nat.zero_le _, rfl, rfl, ⟨Nat.le_refl _, by simp⟩, belowA _ _, by simpa [Hid] using HROW.out⟩
      case round =>
        clear HROW
        obtain ⟨q, g', c', hq, rfl, rfl, hg', hbp, hrow⟩ := hrel
        have hst5 := hst4.step hbp.out
        have hszC := hbp.out.size
        have c0_ := cellL hst5.bel c0
        have d1_ := cellL hst5.bel d1
        by_cases hqlt : q < FA
        · have hqI : (q : Int) < FA := by omega
          obtain ⟨ba, oa, rfl, qa0, _⟩ := rd_int_at HAI.out.rd q (by rw [HAL.out]; exact hqlt)
          have hba : ba < w3.heap.size := World.block_lt_of_cell? w3 _ qa0
          have qa := cellL hbp.out qa0
          clear qa0
          have hA := HAM.out _ (List.getElem_mem (show q < AT.length by rw [HAL.out]; exact hqlt))
          obtain ⟨n, hn⟩ : ∃ n : Nat, AT[q]'(by rw [HAL.out]; exact hqlt) = (n : Int) := ⟨(AT[q]'(by rw [HAL.out]; exact hqlt)).toNat, by omega⟩
          rw [hn] at hA qa
          have hnl : n < ts.length := by omega
          have hnI : (n : Int) < ts.length := by omega
          obtain ⟨hcn, hrn⟩ := HVH.out n hnl
          have hcn2 := cellL hst5.bel hcn
          have hbT : bT < w.heap.size := World.block_lt_of_cell? w _ hcn
          obtain ⟨ax, cx, hvx, _⟩ := rd_list hrn
          rw [hvx] at hcn2
          have HXS := Lib.hid (show (AT.take (q + 1)).map (fun x => vh x.toNat) = (AT.take q).map (fun x => vh x.toNat) ++ [.slice ax ts[n].length cx] by
            rw [List.take_succ_eq_append_getElem (show q < AT.length by rw [HAL.out]; exact hqlt), List.map_append, hn]
            simp [hvx])
          have HBL := hbp
          have HRW := hrow
          clear hcn hrn hvx hn
          go_upto_region 12 with fail
          refine wp_region_noPanic (wp_region_tree4 (fun w' => w'.cell? ⟨pb, po, none⟩ = some (.int .i64 FA) ∧ w'.cell? ⟨rb, ro + 1, none⟩ = some (.slice (some ⟨bT, oT, none⟩) ts.length c) ∧ w'.cell? ⟨ba, oa + q, none⟩ = some (.int .i64 n) ∧ w'.cell? ⟨bT, oT + n, none⟩ = some (.slice ax ts[n].length cx)) (.float 0 (.float 1 (.float 2 (.float 3 (.float 4 (.float 5 (.float 6 (.float 7 (.float 8 (.float 9 (.float 10 (.hard 11 (.hard 12 (.float 13 .nil)))))))))))))) (by kernel_rfl) (by kernel_rfl) (by kernel_rfl) rfl ?_ (fun _ _ _ _ _ h => h) ?_)
          · exact ⟨cellL (hst5.drew).bel c0, cellL (hst5.drew).bel d1, cellL (belowD _) qa, cellL (belowD _) hcn2⟩
          have hs11 := hst5.drew
          have qa_12 := cellL (belowD _) qa
          clear qa
          have hcn2_13 := cellL (belowD _) hcn2
          clear hcn2
          have HBL_14 := Lib.hid (HBL.out.trans (((belowD _)).mono HBL.out.size))
          clear HBL
          have HRW_15 := Lib.hid (ownsRow_below HRW.out (belowD _))
          clear HRW
          clear c0_ d1_
          have hz_wd16 : wr.heap.size ≤ (wr.drew).heap.size := by simp
          generalize hgen_wd16 : wr.drew = wd16 at *
          have HG_wd16 := Lib.hid hgen_wd16
          clear hgen_wd16
          (repeat (first | (apply t4_skip rfl (by rfl); try simp only [Act.put, List.setIfInBounds_toArray, List.set_cons_zero, List.set_cons_succ]) | (apply t4_float rfl (by rfl); (· (intro w' hS; go_simp <;> with_reducible rfl)); (try simp only [Act.put, List.setIfInBounds_toArray, List.set_cons_zero, List.set_cons_succ]))))
          refine t4_hard rfl (by rfl) (fun K hK => ?_)
          go_wp2_with fail
          have hs17 := hs11.alloc #[.slice ax ts[n].length cx] 104 (n := wd16.heap.size) (by simp)
          have qa_18 := cellL (belowA _ (.cells #[.slice ax ts[n].length cx] 104)) qa_12
          clear qa_12
          have hcn2_19 := cellL (belowA _ (.cells #[.slice ax ts[n].length cx] 104)) hcn2_13
          clear hcn2_13
          have HBL_20 := Lib.hid (HBL_14.out.trans (((belowA _ (.cells #[.slice ax ts[n].length cx] 104))).mono HBL_14.out.size))
          clear HBL_14
          have HRW_21 := Lib.hid (ownsRow_below HRW_15.out (belowA _ (.cells #[.slice ax ts[n].length cx] 104)))
          clear HRW_15
          refine ⟨⟨cellL hs17.bel c0, cellL hs17.bel d1, qa_18, hcn2_19⟩, ?_⟩
          (repeat (first | (apply t4_skip rfl (by rfl); try simp only [Act.put, List.setIfInBounds_toArray, List.set_cons_zero, List.set_cons_succ]) | (apply t4_float rfl (by rfl); (· (intro w' hS; go_simp <;> with_reducible rfl)); (try simp only [Act.put, List.setIfInBounds_toArray, List.set_cons_zero, List.set_cons_succ]))))
          refine t4_hard rfl (by rfl) (fun K hK => ?_)
          refine wp_append_row _ _ _ _ rfl E_lists (v := .slice (some ⟨g', 0, none⟩) q c') rfl HRW_21.out (vs := [.slice ax ts[n].length cx]) rfl (fun u hu => by rw [List.mem_singleton] at hu; subst hu; rfl) ⟨wd16.heap.size, 0, none⟩ 1 rfl (news1 (hs17.cellAt 0 rfl 0 rfl)) (by omega) ?_
          intro gN cN wN hat hrowN hbutN hltN
          have hgv1 := hg'.out.1
          have hgv2 := hg'.out.2
          have hgN : w3.heap.size ≤ gN := by
            rcases hat with h | h
            · simp only [Value.ownBlock, Option.some.injEq] at h
              omega
            · simp at h; omega
          have hbutN : But [g'] (wd16.alloc (.cells #[.slice ax ts[n].length cx] 104)) wN := hbutN
          clear hat
          have hsN := hs17.butIv hbutN (fun k hk => by simp at hk; omega) (fun x hx => by simp at hx ⊢; subst hx; simp <;> omega)
          rw [← HXS.out] at hrowN
          have HRN := Lib.hid hrowN
          clear hrowN
          clear HRW_21
          have hz_wN : wd16.heap.size + 1 ≤ wN.heap.size := by have h9 := hbutN.size; (try simp at h9); omega
          have qa_22 := cellK qa_18 (hbutN.block _ (by (try simp) <;> omega) (by (try simp) <;> omega))
          clear qa_18
          have hcn2_23 := cellK hcn2_19 (hbutN.block _ (by (try simp) <;> omega) (by (try simp) <;> omega))
          clear hcn2_19
          have HBL_24 := Lib.hid (HBL_20.out.trans (hbutN.below (by (try simp) <;> omega) HBL_20.out.size))
          clear HBL_20
          refine hK _ _ ⟨⟨cellL hsN.bel c0, cellL hsN.bel d1, qa_22, hcn2_23⟩, ?_⟩
          (repeat (first | (apply t4_skip rfl (by rfl); try simp only [Act.put, List.setIfInBounds_toArray, List.set_cons_zero, List.set_cons_succ]) | (apply t4_float rfl (by rfl); (· (intro w' hS; go_simp <;> with_reducible rfl)); (try simp only [Act.put, List.setIfInBounds_toArray, List.set_cons_zero, List.set_cons_succ]))))
          have k0_0 := hsN.cellAt 0 rfl 0 rfl
          have c0_ := cellL hsN.bel c0
          have d1_ := cellL hsN.bel d1
          refine t4_nil (NoPanic.normal ?_)
          go_wp2_with fail
          go_roundw
          case rel => exact ⟨q + 1, gN, cN, hqlt, by go_num, rfl, ⟨hgN, hltN⟩, HBL_24.out, HRN.out⟩
          case measure => simp [intOf]; omega
        · obtain rfl : q = FA := by omega
          have hnq : ¬ ((q : Int) < q) := by omega
          have HPM := Lib.hid (pick_mem (x := ts) (l := AT) HAM.out)
          have HL := Lib.hid (show Rd wr [.slice (some ⟨g', 0, none⟩) q c'] (pickT ts AT) from rd_of_row1 hrow.out (by simp [pickT, HAL.out]) (fun i hi => by
            have hi2 : i < AT.length := by simpa [pickT] using hi
            have hA := HAM.out _ (List.getElem_mem hi2)
            have hnl : (AT[i]).toNat < ts.length := by omega
            refine ⟨vh (AT[i]).toNat, ?_, ?_⟩
            · rw [List.take_of_length_le (by rw [HAL.out]; exact Nat.le_refl _)]; simp [hi2]
            · rw [show (pickT ts AT)[i] = ts[(AT[i]).toNat] by simp [pickT, List.getD, hnl]]
              exact Rd.mono (HVH.out _ hnl).2 hst5.bel))
          have HTV := Lib.hid (show ∀ t, t ∈ pickT ts AT → t.length = AR ∧ Val size t from fun t ht => by have := HVAL.out t (HPM.out t ht); rwa [Int.toNat_natCast] at this)
          have HPQ := Lib.hid (show (pickT ts AT).length = q by simp [pickT, HAL.out])
          have HPL := Lib.hid (show ((pickT ts AT).length : Int) = ((q : Int), ftb).1 by rw [HPQ.out])
          have HOB5 := Lib.hid (ownSl_mono HOB3.out hbp.out)
          have HWB := Lib.hid ((hbl.out.trans (HB3.out.mono hbl.out.size)).trans (hbp.out.mono (Nat.le_trans hbl.out.size HB3.out.size)))
          have s2 := cellL hbp.out HS23.out
          clear HS23 HOB3 hrow HAI
          generalize hPT : pickT ts AT = PT at *
          clear hPT
          go_wp2_with fail
          refine (l02Make_c size ((q : Int), ftb) PT AR pb po _ _ _ _ (Rd.mono HF.out hst5.bel) (cellL hst5.bel HC1.out) HL.out HOK.out HPL.out HTV.out (by omega)).mono ?_
          rintro e w25 ⟨vo, rfl, hac, hbw25⟩
          have hz_w25 : wr.heap.size ≤ w25.heap.size := by have h9 := hbw25.size; (try simp at h9); omega
          have hs26 := hst5.step hbw25
          have s2_27 := cellL hbw25 s2
          clear s2
          have HOB5_28 := Lib.hid (ownSl_mono HOB5.out hbw25)
          clear HOB5
          have HL_29 := Lib.hid (Rd.mono HL.out hbw25)
          clear HL
          have HWB_30 := Lib.hid (HWB.out.trans ((hbw25).mono HWB.out.size))
          clear HWB
          clear c0_ d1_
          have c0_ := cellL hs26.bel c0
          have d1_ := cellL hs26.bel d1
          have HMK := Lib.hid (make_val HOK.out HPL.out HTV.out)
          obtain ⟨ao, co, rfl, hmr⟩ := rd_list hac.rd
          have HFO := Lib.hid hac.rd
          clear hac
          generalize hMT : makeT size ((q : Int), ftb) PT AR = MT at *
          clear hMT
          have hML := HMK.out.1
          obtain ⟨bo, oo, rfl, -, -⟩ := rd_int_at HFO.out 0 (by rw [hML]; omega)
          have hcb := codeL_bd hs.1 MT HMK.out.2.1
          rw [hML, HPN.out] at hcb
          obtain ⟨C, hC⟩ : ∃ C : Nat, codeL size MT = C := ⟨(codeL size MT).toNat, by omega⟩
          have HC := Lib.hid hC
          rw [hC] at hcb
          have HML := Lib.hid hML
          have hCl : C < BS.length := by rw [HLS.out]; omega
          obtain ⟨o9, c9, hv9, hcd9, -, -⟩ := ownSl_bool HOB5_28.out C hCl
          simp only [Value.slice.injEq, Option.some.injEq, Addr.mk.injEq] at hv9
          obtain ⟨⟨-, rfl, -⟩, -, -⟩ := hv9
          rw [Nat.zero_add] at hcd9
          have HHT := Lib.hid (show BS[C] = hasT ts MT by
            have h := HSM.out MT HML.out HMK.out.2.1
            rw [HC.out, Int.toNat_natCast] at h
            rw [← h]; simp [List.getD, hCl])
          rw [HHT.out] at hcd9
          have hCI : (C : Int) < PN := by omega
          clear hC hML hmr
          cases hh : hasT ts MT with
          | true =>
            rw [hh] at hcd9
            have HQ := Lib.hid (show keepAt size ((q : Int), ftb) ((AR : Int), ts) k = true by rw [HKA.out, hh])
            clear hh
            go_upto_region 14 with fail
            refine wp_region_noPanic (wp_region_tree4 (fun w' => w'.cell? ⟨pb, po, none⟩ = some (.int .i64 q) ∧ w'.cell? ⟨rb, ro + 1, none⟩ = some (.slice (some ⟨bT, oT, none⟩) ts.length c) ∧ w'.cell? ⟨w.heap.size + 1, 2, none⟩ = some (.slice (some ⟨w.heap.size, 0, none⟩) PN PN) ∧ w'.cell? ⟨w.heap.size, C, none⟩ = some (.bool (true))) (.float 0 (.float 1 (.float 2 (.float 3 (.float 4 (.float 5 (.hard 6 (.float 7 (.float 8 (.float 9 .nil)))))))))) (by kernel_rfl) (by kernel_rfl) (by kernel_rfl) rfl ?_ (fun _ _ _ _ _ h => h) ?_)
            · exact ⟨cellL (hs26.drew).bel c0, cellL (hs26.drew).bel d1, cellL (belowD _) s2_27, cellL (belowD _) hcd9⟩
            have hs31 := hs26.drew
            have s2_32 := cellL (belowD _) s2_27
            clear s2_27
            have hcd9_33 := cellL (belowD _) hcd9
            clear hcd9
            have HOB5_34 := Lib.hid (ownSl_mono HOB5_28.out (belowD _))
            clear HOB5_28
            have HL_35 := Lib.hid (Rd.mono HL_29.out (belowD _))
            clear HL_29
            have HWB_36 := Lib.hid (HWB_30.out.trans (((belowD _)).mono HWB_30.out.size))
            clear HWB_30
            have HFO_37 := Lib.hid (Rd.mono HFO.out (belowD _))
            clear HFO
            clear c0_ d1_
            have hz_wd38 : w25.heap.size ≤ (w25.drew).heap.size := by simp
            generalize hgen_wd38 : w25.drew = wd38 at *
            have HG_wd38 := Lib.hid hgen_wd38
            clear hgen_wd38
            (repeat (first | (apply t4_skip rfl (by rfl); try simp only [Act.put, List.setIfInBounds_toArray, List.set_cons_zero, List.set_cons_succ]) | (apply t4_float rfl (by rfl); (· (intro w' hS; go_simp <;> with_reducible rfl)); (try simp only [Act.put, List.setIfInBounds_toArray, List.set_cons_zero, List.set_cons_succ]))))
            refine t4_hard rfl (by rfl) (fun K hK => ?_)
            go_wp2_with (go_at_call 123; refine (l01Code_c size MT _ _ HFO_37.out hs.1 HMK.out.2.1 (by rw [HML.out, HPN.out]; omega)).mono ?_; rintro e w39 ⟨rfl, rfl, rfl⟩)
            rw [HC.out]
            refine ⟨⟨cellL hs31.bel c0, cellL hs31.bel d1, s2_32, hcd9_33⟩, ?_⟩
            (repeat (first | (apply t4_skip rfl (by rfl); try simp only [Act.put, List.setIfInBounds_toArray, List.set_cons_zero, List.set_cons_succ]) | (apply t4_float rfl (by rfl); (· (intro w' hS; go_simp <;> with_reducible rfl)); (try simp only [Act.put, List.setIfInBounds_toArray, List.set_cons_zero, List.set_cons_succ]))))
            have c0_ := cellL hs31.bel c0
            have d1_ := cellL hs31.bel d1
            refine t4_nil (NoPanic.normal ?_)
            go_wp2_with fail
            go_roundw
            case rel =>
              refine ⟨k + 1, by omega, by go_num, HWB_36.out, fun j hj => ?_⟩
              rcases Nat.lt_or_ge j k with h | h
              · exact hr.out j h
              · obtain rfl : j = k := by omega
                exact HQ.out
            case measure => simp [intOf]; omega
          | false =>
            rw [hh] at hcd9
            have HQ := Lib.hid (show keepsP size ((q : Int), ftb) ((AR : Int), ts) = false by
              rw [HKP.out, List.all_eq_false]
              exact ⟨k, List.mem_range.2 hklt, by rw [HKA.out, hh]; decide⟩)
            clear hh
            go_upto_region 14 with fail
            refine wp_region_noPanic (wp_region_tree4 (fun w' => w'.cell? ⟨pb, po, none⟩ = some (.int .i64 q) ∧ w'.cell? ⟨rb, ro + 1, none⟩ = some (.slice (some ⟨bT, oT, none⟩) ts.length c) ∧ w'.cell? ⟨w.heap.size + 1, 2, none⟩ = some (.slice (some ⟨w.heap.size, 0, none⟩) PN PN) ∧ w'.cell? ⟨w.heap.size, C, none⟩ = some (.bool (false))) (.float 0 (.float 1 (.float 2 (.float 3 (.float 4 (.float 5 (.hard 6 (.float 7 (.float 8 (.float 9 .nil)))))))))) (by kernel_rfl) (by kernel_rfl) (by kernel_rfl) rfl ?_ (fun _ _ _ _ _ h => h) ?_)
            · exact ⟨cellL (hs26.drew).bel c0, cellL (hs26.drew).bel d1, cellL (belowD _) s2_27, cellL (belowD _) hcd9⟩
            have hs40 := hs26.drew
            have s2_41 := cellL (belowD _) s2_27
            clear s2_27
            have hcd9_42 := cellL (belowD _) hcd9
            clear hcd9
            have HOB5_43 := Lib.hid (ownSl_mono HOB5_28.out (belowD _))
            clear HOB5_28
            have HL_44 := Lib.hid (Rd.mono HL_29.out (belowD _))
            clear HL_29
            have HWB_45 := Lib.hid (HWB_30.out.trans (((belowD _)).mono HWB_30.out.size))
            clear HWB_30
            have HFO_46 := Lib.hid (Rd.mono HFO.out (belowD _))
            clear HFO
            clear c0_ d1_
            have hz_wd47 : w25.heap.size ≤ (w25.drew).heap.size := by simp
            generalize hgen_wd47 : w25.drew = wd47 at *
            have HG_wd47 := Lib.hid hgen_wd47
            clear hgen_wd47
            (repeat (first | (apply t4_skip rfl (by rfl); try simp only [Act.put, List.setIfInBounds_toArray, List.set_cons_zero, List.set_cons_succ]) | (apply t4_float rfl (by rfl); (· (intro w' hS; go_simp <;> with_reducible rfl)); (try simp only [Act.put, List.setIfInBounds_toArray, List.set_cons_zero, List.set_cons_succ]))))
            refine t4_hard rfl (by rfl) (fun K hK => ?_)
            go_wp2_with (go_at_call 123; refine (l01Code_c size MT _ _ HFO_46.out hs.1 HMK.out.2.1 (by rw [HML.out, HPN.out]; omega)).mono ?_; rintro e w48 ⟨rfl, rfl, rfl⟩)
            rw [HC.out]
            refine ⟨⟨cellL hs40.bel c0, cellL hs40.bel d1, s2_41, hcd9_42⟩, ?_⟩
            (repeat (first | (apply t4_skip rfl (by rfl); try simp only [Act.put, List.setIfInBounds_toArray, List.set_cons_zero, List.set_cons_succ]) | (apply t4_float rfl (by rfl); (· (intro w' hS; go_simp <;> with_reducible rfl)); (try simp only [Act.put, List.setIfInBounds_toArray, List.set_cons_zero, List.set_cons_succ]))))
            have c0_ := cellL hs40.bel c0
            have d1_ := cellL hs40.bel d1
            refine t4_nil (NoPanic.normal ?_)
            obtain ⟨w8, rfl⟩ : ∃ x, x = wd47 := ⟨_, rfl⟩
            have HROW8 := Lib.hid (row_made (size := 1) w8 104)
            have HBEL8 := Lib.hid hs40.bel
            obtain ⟨a5, c5, e5, h5⟩ := rd_list HL_44.out
            simp only [Value.slice.injEq] at e5
            obtain ⟨rfl, -, rfl⟩ := e5
            have HPT8 := Lib.hid h5
            clear h5
            have hst8 := hs40
            go_wp2_with fail
            go_loopw [17, 18] (fun ll i wl => ∃ (j g9 c9 : Nat) (xs : List Value), j ≤ q ∧ i = .int .i64 j ∧ ll = .slice (some ⟨g9, 0, none⟩) j c9 ∧ Hid (w8.heap.size ≤ g9 ∧ g9 < wl.heap.size) ∧ Hid (Below w8.heap.size w8 wl) ∧ Hid (wl.ownsRow 0 104 1 (.slice (some ⟨g9, 0, none⟩) j c9) j xs)) (fun _ i _ => q - (intOf i).toNat)
            case atStart => exact ⟨0, w8.heap.size, 0, [], Nat.zero_le _, rfl, rfl, ⟨Nat.le_refl _, by simp⟩, belowA _ _, by simpa [Hid] using HROW8.out⟩
            case round =>
              clear HROW8
              obtain ⟨j, g9, c9, xs, hj, rfl, rfl, hg9, hb9, hr9⟩ := hrel
              have hz9 := hb9.out.size
              by_cases hjlt : j < q
              · have hjI : (j : Int) < q := by omega
                have hjP : j < PT.length := by rw [HPQ.out]; exact hjlt
                obtain ⟨b5, o5, u5, e5, q5, hx5⟩ := rdSl_one rfl (rdSl_mono hb9.out HPT8.out) j hjP
                simp only [Option.some.injEq, Addr.mk.injEq, and_true] at e5
                obtain ⟨rfl, rfl⟩ := e5
                rw [Nat.zero_add] at q5
                obtain ⟨a5, c5, rfl, _⟩ := rd_list hx5
                have hpl := Lib.hid (HTV.out _ (List.getElem_mem hjP)).1
                have HX5 := Lib.hid hx5
                clear hx5
                go_wp2_with fail
                refine (l00Own_c PT[j] _ _ HX5.out (by rw [hpl.out]; omega)).mono ?_
                rintro e w5 ⟨v5, rfl, hA5, hb5⟩
                obtain ⟨a6, c6, rfl, _⟩ := hA5.len
                clear hA5
                have hz5 := hb5.size
                go_wp2_with (at_builtin; refine wpList_append_row _ rfl _ _ _ rfl E_lists rfl (ownsRow_below (ownsRow_below hr9.out hb5) (belowA w5 (.cells #[.slice a6 PT[j].length c6] 104))) (v := .slice (some ⟨g9, 0, none⟩) j c9) (vs := [.slice a6 PT[j].length c6]) rfl (fun u hu => by rw [List.mem_singleton] at hu; subst hu; rfl) ⟨w5.heap.size, 0, none⟩ 1 rfl (news1 (cell_at_block (heap_alloc_new _ _))) (by omega) ?_; intro gN cN wN hat hrowN hbutN hltN)
                have hg1 := hg9.out.1
                have HGN := Lib.hid (show w8.heap.size ≤ gN by
                  rcases hat with h | h
                  · simp only [Value.ownBlock, Option.some.injEq] at h
                    omega
                  · simp at h; omega)
                have HRN := Lib.hid hrowN
                have HBN := Lib.hid (((hb9.out.trans (hb5.mono hb9.out.size)).trans ((belowA w5 (.cells #[.slice a6 PT[j].length c6] 104)).mono (by omega))).trans (hbutN.below (B := w8.heap.size) (fun z hz => by simp [Value.ownBlock] at hz; omega) (by simp; omega)))
                clear hat hrowN hbutN
                go_wp2_with fail
                go_roundw
                case rel => exact ⟨j + 1, gN, cN, _, hjlt, by go_num, rfl, ⟨HGN.out, hltN⟩, HBN.out, HRN.out⟩
                case measure => simp [intOf]; omega
              · obtain rfl : j = q := by omega
                have hnj : ¬ ((j : Int) < j) := by omega
                have HBE := Lib.hid (HBEL8.out.trans (hb9.out.mono HBEL8.out.size))
                go_wp2_with fail
                refine bodyPost_ret (v := .tuple #[.slice (some ⟨g9, 0, none⟩) j c9, .slice (some ⟨bo, oo, none⟩) MT.length co, .bool true]) (by simp [results, Try.results87, go_sem]) rfl ⟨⟨_, _, by rw [HQ.out]; rfl⟩, HBE.out⟩
    · obtain rfl : k = TOT := by omega
      have hnk : ¬ ((k : Int) < k) := by omega
      have HQ := Lib.hid (show keepsP size ((FA : Int), ftb) ((AR : Int), ts) = true by
        rw [HKP.out, List.all_eq_true]
        exact fun j hj => hr.out j (List.mem_range.1 hj))
      have HBE := Lib.hid (hst3.bel.trans (((belowA wr (.cells #[] 104)).trans ((belowA _ (.cells #[] 2)).mono (by simp))).mono hst3.bel.size))
      go_wp2_with fail
      refine bodyPost_ret (v := .tuple #[.slice (some ⟨wr.heap.size, 0, none⟩) 0 0, .slice (some ⟨wr.heap.size + 1, 0, none⟩) 0 0, .bool false]) (by simp [results, Try.results87, go_sem]) rfl ⟨⟨_, _, by rw [HQ.out]; rfl⟩, HBE.out⟩
set_option maxRecDepth 100000 in
set_option maxHeartbeats 2000000 in
theorem l02Keeps_c (size : Int) (f : OpT) (r : RelT) (pb po rb ro : Nat) (v0 v1 r0 r1 : Value) (w : World) (hf : Rd w [v0, v1] f) (c0 : w.cell? ⟨pb, po, none⟩ = some v0) (c1 : w.cell? ⟨pb, po + 1, none⟩ = some v1) (hr : Rd w [r0, r1] r) (d0 : w.cell? ⟨rb, ro, none⟩ = some r0) (d1 : w.cell? ⟨rb, ro + 1, none⟩ = some r1) (hok : opOk size f = true) (hrk : relOk size r = true) :
    Calls Try.prog 53 #[.int .i64 size, .pointer (some ⟨pb, po, none⟩), .pointer (some ⟨rb, ro, none⟩)] w fun e w' => e = .returned (.bool (keepsP size f r)) ∧ Below w.heap.size w w' := by
  go_enter Try.func53, Try.ntmps53
  go_wp2_with fail
  refine (l02Breaks_c size f r pb po rb ro v0 v1 r0 r1 _ hf c0 c1 hr d0 d1 hok hrk).mono ?_
  rintro e w1 ⟨x, y, rfl, hb1⟩
  have HB := Lib.hid hb1
  clear hb1
  go_wp2_with fail
  go_ret
  exact ⟨ret_bool (by simp), HB.out⟩

end Go.Proofs.Ytoblfnoaepbhfaa
