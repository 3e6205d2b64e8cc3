/-
  CONTRACTS: SolveSystem. (Printed by wip/gensys.py.)
-/
import Derived.Test.YtkbeihkjhmillaaRefute
import Derived.Test.YtkbeihkjhmillaaRowC
namespace Go.Proofs.Ytkbeihkjhmillaa
open Go.RowKit Go.Shelf Go.IntWalk
open Rep (Rd Own sz)
set_option linter.unusedSimpArgs false
set_option linter.unusedVariables false

theorem solveTo_length (rows : List SRow) (bs : List Int) (U : Nat) : ∀ j, (solveTo rows bs U j).length = U
  | 0 => by simp [solveTo]
  | j + 1 => by rw [solveTo, List.length_set]; exact solveTo_length rows bs U j
theorem solveF_small (x : Sys) : (solveF x).1.length ≤ 1000000 := by
  unfold solveF
  split
  · rename_i h
    have K := elim_ok h
    split
    · simp
    · have := K.hu
      rw [solveTo_length]; omega
  · simp
/-- A row that is done begins where it begins. -/
theorem elim_first {s : Sys} (K : ElimOk s) (j : Nat) (hj : j < (elimS s).2.length) (hr : j < (elimS s).1.length) : firstI (fun a => a != 0) (elimS s).1[j].1 = (elimS s).2[j] := by
  obtain ⟨b, hb, hbU⟩ := K.bs j hj
  have hlen := (K.good _ (List.getElem_mem hr)).len
  have hcol := K.rref.col j _ j _ (List.getElem?_eq_getElem hr) (List.getElem?_eq_getElem hj)
  have hlead := K.rref.lead j _ _ (List.getElem?_eq_getElem hr) (List.getElem?_eq_getElem hj)
  rw [hb] at hcol hlead ⊢
  rw [if_pos rfl, Int.toNat_natCast] at hcol
  have hbl : b < (elimS s).1[j].1.length := by omega
  refine firstI_at hbl (fun i hi hib => ?_) ?_
  · have := hlead i (by omega)
    simp only [List.getD, List.getElem?_eq_getElem hi, Option.getD_some] at this
    simp [this]
  · simp only [List.getD, List.getElem?_eq_getElem hbl, Option.getD_some] at hcol
    simp [hcol]
theorem elim_rowI {s : Sys} (K : ElimOk s) (j : Nat) (hj : j < (elimS s).1.length) (h : j < (elimI s).1.length) : (elimI s).1[j] = flat (elimS s).1[j] := by
  have : (elimI s).1[j]? = some (flat (elimS s).1[j]) := by
    rw [K.flat]
    simp only [List.getElem?_map, List.getElem?_eq_getElem hj, Option.map_some]
  rw [List.getElem?_eq_getElem h] at this
  simpa using this
set_option maxRecDepth 100000 in
set_option maxHeartbeats 4000000 in
theorem SolveSystem_c (x : Sys) (v0 v1 v2 : Value) (w : World) (hx : Rd w [v0, v1, v2] x) :
    Calls Try.prog 34 #[.agg #[v0, v1, v2]] w fun e w' => ∃ v, e = .returned (.tuple #[v, .int .i64 (solveF x).2]) ∧ Fresh w.heap.size w' [v] (solveF x).1 ∧ Below w.heap.size w w' := by
  obtain ⟨p, u, l⟩ := x
  have HX := Lib.hid hx
  have z := rd_cons rfl hx
  obtain ⟨rfl, _⟩ := rd_i1 z.1
  have z2 := rd_cons rfl z.2
  obtain ⟨rfl, _⟩ := rd_i1 z2.1
  obtain ⟨a, c, rfl, _⟩ := rd_list z2.2
  clear hx z z2
  have hs := (St.start w).alloc #[.int .i64 p, .int .i64 u, .slice a l.length c] 31 rfl
  have k0 := hs.cellAt 0 rfl 0 rfl
  have k1 := hs.cellAt 0 rfl 1 rfl
  have k2 := hs.cellAt 0 rfl 2 rfl
  go_enter Try.func34, Try.ntmps34
  go_wp2_with fail
  refine (ValidSystem_c (p, u, l) _ _ _ _ (Rd.mono HX.out hs.bel)).mono ?_
  rintro e w1 ⟨rfl, hb1⟩
  have hs1 := hs.step hb1
  clear k0 k1 k2
  have k0 := hs1.cellAt 0 rfl 0 rfl
  have k1 := hs1.cellAt 0 rfl 1 rfl
  have k2 := hs1.cellAt 0 rfl 2 rfl
  cases hok : validS (p, u, l) with
  | false =>
    have HK := Lib.hid hok
    clear hok
    go_wp2_with fail
    refine bodyPost_ret (v := .tuple #[.slice none 0 0, .int .i64 1]) (by simp [results, Try.results34, go_sem]) rfl ⟨.slice none 0 0, ?_, ?_, hs1.bel⟩
    · unfold solveF; rw [HK.out]; rfl
    · unfold solveF; rw [HK.out]; exact fresh_nil none
  | true =>
    have HK := Lib.hid hok
    have KO := Lib.hid (elim_ok hok)
    clear hok
    go_wp2_with fail
    refine (reduced_c (p, u, l) _ _ _ _ (Rd.mono HX.out hs1.bel) HK.out).mono ?_
    rintro e w2 ⟨vr, vb, rfl, rr, rb, hb2⟩
    have hfl := KO.out.flat
    obtain ⟨ar, cr, er, _⟩ := rd_list rr
    rw [show (elimI (p, u, l)).1.length = l.length from KO.out.rowsI.1] at er
    subst er
    obtain ⟨ab, cb, eb, _⟩ := rd_list rb
    rw [show (elimI (p, u, l)).2.length = (elimS (p, u, l)).2.length by rw [hfl]] at eb
    subst eb
    have RR := Lib.hid rr
    have RB := Lib.hid (show Rd w2 [.slice ab (elimS (p, u, l)).2.length cb] (elimS (p, u, l)).2 by
      have h2 : (elimI (p, u, l)).2 = (elimS (p, u, l)).2 := by rw [hfl]
      rw [← h2]; exact (by rw [h2]; rw [h2] at rb; exact rb))
    clear hfl
    have hs2 := hs1.step hb2
    clear rr rb
    clear k0 k1 k2
    have k0 := hs2.cellAt 0 rfl 0 rfl
    have k1 := hs2.cellAt 0 rfl 1 rfl
    have k2 := hs2.cellAt 0 rfl 2 rfl
    go_wp2_with fail
    refine (contradiction_c _ _ _ RR.out KO.out.contr).mono ?_
    rintro e w3 ⟨o0, n0, d0, o1, n1, d1, rfl, hb3, hat⟩
    have HAT := Lib.hid hat
    rw [contrI KO.out]
    have hs3 := hs2.step hb3
    clear hat
    clear k0 k1 k2
    have hs5 := hs3.alloc #[.slice o0 n0 d0, .slice o1 n1 d1] 90 rfl
    have k0 := hs5.cellAt 0 rfl 0 rfl
    have k1 := hs5.cellAt 0 rfl 1 rfl
    have k2 := hs5.cellAt 0 rfl 2 rfl
    have m2 := hs5.cellAt 1 rfl 0 rfl
    have m3 := hs5.cellAt 1 rfl 1 rfl
    by_cases hf : 0 ≤ falseS (p, u, l)
    · rw [decide_eq_true hf]
      have HF := Lib.hid hf
      clear hf
      go_wp2_with fail
      refine bodyPost_ret (v := .tuple #[.slice none 0 0, .int .i64 6]) (by simp [results, Try.results34, go_sem]) rfl ⟨.slice none 0 0, ?_, ?_, hs5.bel⟩
      · unfold solveF; rw [if_pos HK.out, if_pos HF.out]
      · unfold solveF; rw [if_pos HK.out, if_pos HF.out]; exact fresh_nil none
    · rw [decide_eq_false hf]
      have HF := Lib.hid hf
      have hu2 := KO.out.hu
      simp only at hu2
      have HSF := Lib.hid (show solveF (p, u, l) = (solveTo (elimS (p, u, l)).1 (elimS (p, u, l)).2 u.toNat (elimS (p, u, l)).2.length, 0) by
        unfold solveF; rw [if_pos HK.out, if_neg (by have := HF.out; omega)])
      obtain ⟨U, hU⟩ : ∃ U : Nat, u = U := ⟨u.toNat, by omega⟩
      subst hU
      have hb4 := Lib.hid (hb3.trans ((belowA w3 (.cells #[.slice o0 n0 d0, .slice o1 n1 d1] 90)).mono hb3.size))
      have RR2 := Lib.hid (Rd.mono RR.out hb4.out)
      have RB2 := Lib.hid (Rd.mono RB.out hb4.out)
      clear hf
      go_wp2_with (at_make; refine wpList_make_rep _ rfl _ _ 25 rfl E_ints (0 : Int) own0_int U (by omega) rfl rfl ?_; intro wM hownM hbM hzM)
      have hz3 : wM.heap.size = w3.heap.size + 1 + 1 := by simpa using hzM
      have hbM1 : Below (w3.heap.size + 1) (w3.alloc (.cells #[.slice o0 n0 d0, .slice o1 n1 d1] 90)) wM := by simpa using hbM
      have HOWN := Lib.hid (show OwnSl [w3.heap.size + 1] wM (.slice (some ⟨w3.heap.size + 1, 0, none⟩) U U) (List.replicate U (0 : Int)) by simpa using hownM)
      have hszA : (w3.alloc (.cells #[.slice o0 n0 d0, .slice o1 n1 d1] 90)).heap.size = w3.heap.size + 1 := by simp
      have HW := Lib.hid hs5.bel
      have hwlo : w.heap.size ≤ w3.heap.size := by have := hs3.lo; have := hs3.hi; omega
      have hle := KO.out.le
      have hll := KO.out.hl
      simp only at hle hll
      have HKO := KO
      clear hownM hbM hzM HF HAT hs hs1 hs2 hs3 hs5 hb1 hb2 hb3 hb4 k0 k1 k2 m2 m3 HX KO RR RB
      generalize hWA : w3.alloc (.cells #[.slice o0 n0 d0, .slice o1 n1 d1] 90) = WA at *
      clear hWA
      go_loopw [30] (fun i wl => ∃ j : Nat, j ≤ (elimS (p, (U : Int), l)).2.length ∧ i = .int .i64 j ∧ Hid (Below (w3.heap.size + 1) WA wl) ∧ Hid (OwnSl [w3.heap.size + 1] wl (.slice (some ⟨w3.heap.size + 1, 0, none⟩) U U) (solveTo (elimS (p, (U : Int), l)).1 (elimS (p, (U : Int), l)).2 U j))) (fun i _ => (elimS (p, (U : Int), l)).2.length - (intOf i).toNat)
      case atStart => exact ⟨0, Nat.zero_le _, rfl, hbM1, HOWN.out⟩
      case round =>
        obtain ⟨j, hj, rfl, hbl, hown⟩ := hrel
        have HBW : Below WA.heap.size WA wr := by rw [hszA]; exact hbl.out
        by_cases hlt : j < (elimS (p, (U : Int), l)).2.length
        · obtain ⟨bq, hbq, hbU⟩ := HKO.out.bs j hlt
          simp only [Int.toNat_natCast] at hbU
          have hjr : j < (elimS (p, (U : Int), l)).1.length := by rw [HKO.out.len]; simp only; omega
          have hjI : j < (elimI (p, (U : Int), l)).1.length := by rw [HKO.out.rowsI.1]; simp only; omega
          obtain ⟨b1, e1, rfl, q0, _⟩ := rd_int_at (Rd.mono RB2.out HBW) j hlt
          rw [hbq] at q0
          obtain ⟨b2, e2, y0, y1, rfl, f0, f1, hrow⟩ := rd_two_at rfl (Rd.mono RR2.out HBW) j hjI
          rw [elim_rowI HKO.out j hjr hjI] at hrow
          have hg := flat_good (HKO.out.good _ (List.getElem_mem hjr))
          have hgr := (HKO.out.good _ (List.getElem_mem hjr)).right
          have hrr : rightR (flat (elimS (p, (U : Int), l)).1[j]).1 = (elimS (p, (U : Int), l)).1[j].2.1 := by simp [rightR, flat, List.getD]
          have hst : solveTo (elimS (p, (U : Int), l)).1 (elimS (p, (U : Int), l)).2 U (j + 1) = (solveTo (elimS (p, (U : Int), l)).1 (elimS (p, (U : Int), l)).2 U j).set bq (elimS (p, (U : Int), l)).1[j].2.1 := by
            rw [solveTo]
            simp only [List.getD, List.getElem?_eq_getElem hlt, List.getElem?_eq_getElem hjr, Option.getD_some, hbq, Int.toNat_natCast]
          have z0 := (rd_cons rfl hrow).1
          have z1 := (rd_cons rfl hrow).2
          obtain ⟨a6, c6, e6, _⟩ := rd_list z0
          obtain ⟨a7, c7, e7, _⟩ := rd_list z1
          subst e6 e7
          have HRW := Lib.hid hrow
          have HST := Lib.hid hst
          have HG := Lib.hid hg
          have HRR := Lib.hid hrr
          clear hrow hst hg hrr z0 z1 hbq
          generalize (elimS (p, (U : Int), l)).1[j].2.1 = RV at *
          generalize flat (elimS (p, (U : Int), l)).1[j] = Y at *
          have hp2 := HKO.out.hp
          simp only at hp2 hgr
          have hjb : (j : Int) < (elimS (p, (U : Int), l)).2.length := by omega
          have hjl : (j : Int) < l.length := by omega
          have hbUi : (bq : Int) < U := by omega
          go_wp2_with fail
          refine (right_c Y _ _ _ HRW.out (by rw [HG.out.1]; omega) (by rw [HG.out.1]; simp only [Int.toNat_natCast]; omega)).mono ?_
          rintro e w5 ⟨rfl, hb5⟩
          rw [HRR.out]
          have hown5 := Lib.hid (ownSl_mono hown.out hb5)
          have hbl5 := Lib.hid (hbl.out.trans (hb5.mono (by have := hbl.out.size; omega)))
          obtain ⟨g', o', c', hv, hps, hc, hf, hI, hset⟩ := own_int_set hown5.out bq (by rw [solveTo_length]; exact hbU)
          rw [solveTo_length] at hv
          simp only [Value.slice.injEq, Option.some.injEq, Addr.mk.injEq, and_true] at hv
          obtain ⟨⟨rfl, rfl⟩, -, rfl⟩ := hv
          rw [Nat.zero_add] at hc hf hset
          have hN := hset RV ⟨by omega, by omega⟩
          rw [← HST.out] at hN
          have HN := Lib.hid hN
          clear hN hset hps HST
          go_wp2_with fail
          go_roundw
          case rel => exact ⟨j + 1, hlt, by go_num, hbl5.out.setCell (by simp) _, HN.out⟩
          case measure => simp [intOf]; omega
        · obtain rfl : j = (elimS (p, (U : Int), l)).2.length := by omega
          go_wp2_with fail
          refine bodyPost_ret (v := .tuple #[.slice (some ⟨w3.heap.size + 1, 0, none⟩) U U, .int .i64 0]) (by simp [results, Try.results34, go_sem]) rfl ⟨.slice (some ⟨w3.heap.size + 1, 0, none⟩) U U, ?_, ?_, ?_⟩
          · rw [HSF.out]
          · rw [HSF.out]
            exact ⟨[w3.heap.size + 1], ⟨_, rfl, by simpa using hown.out⟩, by simp, by simp; omega⟩
          · exact HW.out.trans (hbl.out.mono (by omega))
set_option maxRecDepth 100000 in
set_option maxHeartbeats 4000000 in
theorem sSolveSystem_c (x : Sys) (v0 v1 v2 : Value) (w : World) (hx : Rd w [v0, v1, v2] x) :
    Calls Try.prog 33 #[.agg #[v0, v1, v2]] w fun e w' => ∃ v, e = .returned (.tuple #[v, .int .i64 (solveF x).2]) ∧ Fresh w.heap.size w' [v] (solveF x).1 ∧ Below w.heap.size w w' := by
  obtain ⟨p, u, l⟩ := x
  have HX := Lib.hid hx
  have z := rd_cons rfl hx
  obtain ⟨rfl, _⟩ := rd_i1 z.1
  have z2 := rd_cons rfl z.2
  obtain ⟨rfl, _⟩ := rd_i1 z2.1
  obtain ⟨a, c, rfl, _⟩ := rd_list z2.2
  clear hx z z2
  have hs := (St.start w).alloc #[.int .i64 p, .int .i64 u, .slice a l.length c] 31 rfl
  go_enter Try.func33, Try.ntmps33
  go_wp2_with fail
  refine (l07Ok_c (p, u, l) _ _ _ _ _ (Rd.mono HX.out hs.bel) (hs.cellAt 0 rfl 0 rfl) (hs.cellAt 0 rfl 1 rfl) (hs.cellAt 0 rfl 2 rfl)).mono ?_
  rintro e w1 ⟨rfl, n1, rfl⟩
  have hs1 := hs.drewN n1
  cases hok : validS (p, u, l) with
  | false =>
    have HK := Lib.hid hok
    clear hok
    have hsz := hs1.alloc #[] 2 rfl
    go_wp2_with fail
    refine bodyPost_ret (v := .tuple #[.slice (some ⟨w.heap.size + 1, 0, none⟩) 0 0, .int .i64 1]) (by simp [results, Try.results33, go_sem]) rfl ⟨.slice (some ⟨w.heap.size + 1, 0, none⟩) 0 0, ?_, ?_, hsz.bel⟩
    · unfold solveF; rw [HK.out]; rfl
    · unfold solveF; rw [HK.out]; exact fresh_nil _
  | true =>
    have HK := Lib.hid hok
    have KO := Lib.hid (elim_ok hok)
    clear hok
    go_wp2_with fail
    refine (l07Reduce_c (p, u, l) _ _ _ _ _ (Rd.mono HX.out hs1.bel) (hs1.cellAt 0 rfl 0 rfl) (hs1.cellAt 0 rfl 1 rfl) (hs1.cellAt 0 rfl 2 rfl) HK.out).mono ?_
    rintro e w2 ⟨g4, c4, rfl, fr, hb2⟩
    have hs2 := hs1.step hb2
    have FR := Lib.hid fr
    clear fr
    have RR := Lib.hid FR.out.rd
    simp only at RR
    go_wp2_with fail
    refine (l07False_c (elimS (p, u, l)).1 _ _ _ RR.out (by rw [KO.out.len]; exact KO.out.le) (by have := KO.out.len; have := KO.out.hl; omega)).mono ?_
    rintro e w3 ⟨rfl, rfl⟩
    rw [show falseF (elimS (p, u, l)).1 (elimS (p, u, l)).2.length = falseS (p, u, l) from rfl]
    by_cases hf : 0 ≤ falseS (p, u, l)
    · have HF := Lib.hid hf
      have hsz := hs2.alloc #[] 2 rfl
      go_wp2_with fail
      refine bodyPost_ret (v := .tuple #[.slice (some ⟨w2.heap.size, 0, none⟩) 0 0, .int .i64 6]) (by simp [results, Try.results33, go_sem]) rfl ⟨.slice (some ⟨w2.heap.size, 0, none⟩) 0 0, ?_, ?_, hsz.bel⟩
      · unfold solveF; rw [if_pos HK.out, if_pos HF.out]
      · unfold solveF; rw [if_pos HK.out, if_pos HF.out]; exact fresh_nil _
    · have hm1 : falseS (p, u, l) < 0 := by omega
      have hu2 := KO.out.hu
      simp only at hu2
      have HSF := Lib.hid (show solveF (p, u, l) = (solveTo (elimS (p, u, l)).1 (elimS (p, u, l)).2 u.toNat (elimS (p, u, l)).2.length, 0) by
        unfold solveF; rw [if_pos HK.out, if_neg hf])
      obtain ⟨U, hU⟩ : ∃ U : Nat, u = U := ⟨u.toNat, by omega⟩
      subst hU
      have k1 := hs2.cellAt 0 rfl 1 rfl
      clear hf
      go_wp2_with (at_make; refine wpList_make_rep _ rfl _ _ 25 rfl E_ints (0 : Int) own0_int U (by omega) rfl rfl ?_; intro wM hownM hbM hzM)
      have HOWN := Lib.hid hownM
      have HW := Lib.hid (hs2.bel.trans (hbM.mono (by have := hs2.lo; have := hs2.hi; omega)))
      have hwlo : w.heap.size ≤ w2.heap.size := by have := hs2.lo; have := hs2.hi; omega
      have hle := KO.out.le
      have hll := KO.out.hl
      simp only at hle hll
      have HKO := KO
      have RM := Lib.hid RR
      have HW2 := Lib.hid hs2.bel
      have HBM := Lib.hid hbM
      clear hownM hm1 hs hs1 hs2 hb2 hbM k1 HX KO RR FR HW
      go_wp2_with fail
      go_loopw [7] (fun i wl => ∃ j : Nat, j ≤ (elimS (p, (U : Int), l)).2.length ∧ i = .int .i64 j ∧ Hid (Below w2.heap.size w2 wl) ∧ Hid (OwnSl [w2.heap.size] wl (.slice (some ⟨w2.heap.size, 0, none⟩) U U) (solveTo (elimS (p, (U : Int), l)).1 (elimS (p, (U : Int), l)).2 U j))) (fun i _ => (elimS (p, (U : Int), l)).2.length - (intOf i).toNat)
      case atStart => exact ⟨0, Nat.zero_le _, rfl, HBM.out, HOWN.out⟩
      case round =>
        obtain ⟨j, hj, rfl, hbl, hown⟩ := hrel
        by_cases hlt : j < (elimS (p, (U : Int), l)).2.length
        · obtain ⟨bq, hbq, hbU⟩ := HKO.out.bs j hlt
          simp only [Int.toNat_natCast] at hbU
          have hjr : j < (elimS (p, (U : Int), l)).1.length := by rw [HKO.out.len]; simp only; omega
          have hfi := elim_first HKO.out j hlt hjr
          rw [hbq] at hfi
          obtain ⟨b2, e2, y0, y1, y2, e4, f0, f1, f2, hrow⟩ := rd_three_at rfl (Rd.mono RM.out hbl.out) j hjr
          simp only [Option.some.injEq, Addr.mk.injEq, and_true] at e4
          obtain ⟨rfl, rfl⟩ := e4
          rw [Nat.zero_add] at f0 f1 f2
          have hg := HKO.out.good _ (List.getElem_mem hjr)
          have hgr := hg.right
          have hst : solveTo (elimS (p, (U : Int), l)).1 (elimS (p, (U : Int), l)).2 U (j + 1) = (solveTo (elimS (p, (U : Int), l)).1 (elimS (p, (U : Int), l)).2 U j).set bq (elimS (p, (U : Int), l)).1[j].2.1 := by
            rw [solveTo]
            simp only [List.getD, List.getElem?_eq_getElem hlt, List.getElem?_eq_getElem hjr, Option.getD_some, hbq, Int.toNat_natCast]
          have z0 := (rd_cons rfl hrow).1
          have z1 := (rd_cons rfl (rd_cons rfl hrow).2).1
          obtain ⟨a6, c6, e6, _⟩ := rd_list z0
          rw [hg.len] at e6
          simp only [Int.toNat_natCast] at e6
          subst e6
          obtain ⟨rfl, _⟩ := rd_i1 z1
          have HL := Lib.hid (show Rd wr [.slice a6 U c6] (elimS (p, (U : Int), l)).1[j].1 from z0)
          have HST := Lib.hid hst
          have HFI := Lib.hid hfi
          clear hrow hst hg z0 z1 hbq hfi f2
          generalize (elimS (p, (U : Int), l)).1[j].2.1 = RV at *
          generalize (elimS (p, (U : Int), l)).1[j].1 = Y at *
          have hp2 := HKO.out.hp
          simp only at hp2 hgr
          have hjb : (j : Int) < (elimS (p, (U : Int), l)).2.length := by omega
          have hjl : (j : Int) < l.length := by omega
          have hbUi : (bq : Int) < U := by omega
          obtain ⟨g', o', c', hv, hps, hc, hf, hI, hset⟩ := own_int_set hown.out bq (by rw [solveTo_length]; exact hbU)
          rw [solveTo_length] at hv
          simp only [Value.slice.injEq, Option.some.injEq, Addr.mk.injEq, and_true] at hv
          obtain ⟨⟨rfl, rfl⟩, -, rfl⟩ := hv
          rw [Nat.zero_add] at hc hf hset
          have hN := hset RV ⟨by omega, by omega⟩
          rw [← HST.out] at hN
          have HN := Lib.hid hN
          clear hN hset hps HST
          go_wp2_with fail
          refine wp_region_noPanic (wp_region_el (fun w' => w'.cell? ⟨g4, j * 3, none⟩ = some (.slice a6 U c6) ∧ w'.cell? ⟨g4, j * 3 + 1, none⟩ = some (.int .i64 RV)) [(0, 0), (1, 0), (2, 0), (3, 0), (4, 0), (5, 0), (7, 0), (8, 0), (9, 0), (10, 0), (11, 0), (6, 1), (12, 0), (13, 2)] (by kernel_rfl) (by kernel_rfl) (by kernel_rfl) rfl ?_ (fun _ _ _ _ _ h => h) ?_)
          · exact ⟨f0, f1⟩
          (repeat (first | (apply el_skip rfl (by rfl); try simp only [Act.put, List.setIfInBounds_toArray, List.set_cons_zero, List.set_cons_succ]) | (apply el_float rfl (by rfl); (· (intro w' hS; go_simp <;> with_reducible rfl)); (try simp only [Act.put, List.setIfInBounds_toArray, List.set_cons_zero, List.set_cons_succ]))))
          refine el_hard rfl (by rfl) (fun K hK => ?_)
          go_wp2_with (go_at_call 74; refine (l07First_c Y _ _ (Rd.mono HL.out (belowD _))).mono ?_; rintro e w5 ⟨rfl, rfl⟩)
          rw [HFI.out]
          refine ⟨⟨f0, f1⟩, ?_⟩
          (repeat (first | (apply el_skip rfl (by rfl); try simp only [Act.put, List.setIfInBounds_toArray, List.set_cons_zero, List.set_cons_succ]) | (apply el_float rfl (by rfl); (· (intro w' hS; go_simp <;> with_reducible rfl)); (try simp only [Act.put, List.setIfInBounds_toArray, List.set_cons_zero, List.set_cons_succ]))))
          refine el_last rfl (by rfl) (fun K hK => ?_)
          go_wp2_with fail
          refine el_nil (NoPanic.normal ?_)
          go_wp2_with fail
          go_roundw
          case rel => exact ⟨j + 1, hlt, by go_num, (hbl.out.trans ((belowD wr).mono hbl.out.size)).setCell (by simp) _, ownSl_heap HN.out rfl⟩
          case measure => simp [intOf]; omega
        · obtain rfl : j = (elimS (p, (U : Int), l)).2.length := by omega
          go_wp2_with fail
          refine bodyPost_ret (v := .tuple #[.slice (some ⟨w2.heap.size, 0, none⟩) U U, .int .i64 0]) (by simp [results, Try.results33, go_sem]) rfl ⟨.slice (some ⟨w2.heap.size, 0, none⟩) U U, ?_, ?_, ?_⟩
          · rw [HSF.out]
          · rw [HSF.out]
            exact ⟨[w2.heap.size], ⟨_, rfl, by simpa using hown.out⟩, by simp, by simp; omega⟩
          · exact HW2.out.trans (hbl.out.mono hwlo)

end Go.Proofs.Ytkbeihkjhmillaa
