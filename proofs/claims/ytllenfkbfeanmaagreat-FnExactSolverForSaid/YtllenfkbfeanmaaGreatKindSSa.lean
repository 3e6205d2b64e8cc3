/-
  CONTRACTS: kinds of operations: the reference's side.
-/
import Derived.Test.YtllenfkbfeanmaaGreatKindPSa
import Derived.Test.YtllenfkbfeanmaaGreatRowBSa
import Derived.Test.YtllenfkbfeanmaaGreatRowsBSa
namespace Go.Proofs.YtllenfkbfeanmaaGreat
open Go.RowKit Go.Shelf Go.IntWalk
open Rep (Rd Own sz)
set_option linter.unusedSimpArgs false
set_option linter.unusedVariables false

theorem digsK_one {size : Int} (hs : 1 ≤ size) {n : Nat} (h : n < size.toNat) : digs size 1 (n : Int) = [(n : Int)] := by
  simp only [digs, List.nil_append]
  rw [Int.emod_eq_of_lt (by omega) (by omega)]
set_option maxRecDepth 100000 in
set_option maxHeartbeats 4000000 in
theorem l02Idempotent_c (size : Int) (f : OpT) (pb po : Nat) (v0 v1 : Value) (w : World) (hf : Rd w [v0, v1] f) (hc0 : w.cell? ⟨pb, po, none⟩ = some v0) (hc1 : w.cell? ⟨pb, po + 1, none⟩ = some v1) (hok : opOk size f = true) :
    Calls Tryz.prog 82 #[.int .i64 size, .pointer (some ⟨pb, po, none⟩)] w fun e w' => e = .returned (.bool (idemB size f)) ∧ Below w.heap.size w w' := by
  have hs := (opOk_get hok).1
  have har := (opOk_get hok).2.1
  obtain ⟨ar, tb⟩ := f
  simp only at har
  obtain ⟨m, rfl⟩ : ∃ m : Nat, ar = (m : Int) := ⟨ar.toNat, by omega⟩
  obtain ⟨sn, rfl⟩ : ∃ n : Nat, size = (n : Int) := ⟨size.toNat, by omega⟩
  have HF := Lib.hid hf
  have HOK := Lib.hid hok
  have zf := rd_cons rfl hf
  obtain ⟨rfl, _⟩ := rd_i1 zf.1
  obtain ⟨at0, ct0, rfl, _⟩ := rd_list zf.2
  have HQN := Lib.hid (fun (x : Nat) (hx : x < sn) (h : ¬ valOf sn ((m : Int), tb) (List.replicate m (x : Int)) = (x : Int)) => show idemB sn ((m : Int), tb) = false from by
    unfold idemB
    refine allL_no (n := x) (by simpa using hx) ?_
    rw [digsK_one hs.1 (by simpa using hx)]
    simpa using h)
  have HQY := Lib.hid (fun (h : ∀ x : Nat, x < sn → valOf sn ((m : Int), tb) (List.replicate m (x : Int)) = (x : Int)) => show idemB sn ((m : Int), tb) = true from by
    unfold idemB
    refine allL_yes (fun x hx => ?_)
    rw [digsK_one hs.1 hx]
    simpa using h x (by simpa using hx))
  clear hf zf hok
  have hc0_ := cellL (St.start w).bel hc0
  clear hc0_
  have hc0_ := cellL (St.start w).bel hc0
  have hc1_ := cellL (St.start w).bel hc1
  go_enter Tryz.func82, Tryz.ntmps82
  go_wp2_with fail
  go_loopw [5] (fun xv wl => ∃ x : Nat, x ≤ sn ∧ xv = .int .i64 x ∧ Hid (Below w.heap.size w wl) ∧ Hid (∀ y : Nat, y < x → valOf sn ((m : Int), tb) (List.replicate m (y : Int)) = (y : Int))) (fun xv _ => sn - (intOf xv).toNat)
  case atStart => exact ⟨0, Nat.zero_le _, rfl, Below.refl _ _, fun y hy => absurd hy (Nat.not_lt_zero _)⟩
  case round =>
    obtain ⟨x, hx, rfl, hbl, hr⟩ := hrel
    have hs2 := (St.start w).step hbl.out
    have hc0_ := cellL hs2.bel hc0
    have hc1_ := cellL hs2.bel hc1
    by_cases hlt : x < sn
    · have hxI : (x : Int) < sn := by omega
      obtain ⟨wo, rfl⟩ : ∃ x, x = wr := ⟨_, rfl⟩
      have HM := Lib.hid (acc_made (α := Int) wo 2)
      have HBO := Lib.hid hbl.out
      go_wp2_with fail
      go_loopw [6, 7] (fun av iv wl => ∃ (i : Nat) (ao : Option Addr) (co : Nat), i ≤ m ∧ iv = .int .i64 i ∧ av = .slice ao i co ∧ Hid (Below wo.heap.size wo wl) ∧ Hid (Acc wo.heap.size wl.heap.size 2 wl (.slice ao i co) (List.replicate i (x : Int)))) (fun _ iv _ => m - (intOf iv).toNat)
      case atStart => exact ⟨0, _, _, Nat.zero_le _, rfl, rfl, belowA _ _, by simpa [Hid] using HM.out⟩
      case round =>
        clear HM
        obtain ⟨i, ao, co, hi, rfl, rfl, hbl2, hac⟩ := hrel
        have hs3 := (St.start w).step (HBO.out.trans (hbl2.out.mono HBO.out.size))
        have hc0_ := cellL hs3.bel hc0
        have hc1_ := cellL hs3.bel hc1
        have HAC := hac
        have hb0 := hbl2.out.size
        by_cases him : i < m
        · have hiI : (i : Int) < m := by omega
          have HRP := Lib.hid (show List.replicate i (x : Int) ++ [(x : Int)] = List.replicate (i + 1) (x : Int) from List.replicate_succ'.symm)
          have HRN := Lib.hid (show (List.replicate i (x : Int)).length = i by simp)
          have HBL := Lib.hid hbl2.out
          go_wp2_with (at_builtin; go_loud (refine wpList_append_ints _ rfl _ _ _ rfl E_ints rfl (Acc.mono HAC.out (belowA _ (.cells #[.int .i64 x] 2))) (by omega) (by simp) ⟨wr.heap.size, 0, none⟩ 1 rfl (ns := [(x : Int)]) (news1 (cell_at_block (heap_alloc_new _ _))) (fun b hb => by simp at hb; subst hb; exact i64_of _ (by omega) (by omega)) (by rw [HRN.out]; simp; omega) ?_); simp only [HRN.out, HRP.out]; intro a9 c9 w9 hA9 hB9 hK9)
          have HA9 := Lib.hid hA9
          have HB9 := Lib.hid (HBL.out.trans ((belowA wr (.cells #[.int .i64 x] 2)).mono HBL.out.size) |>.trans hB9)
          clear hA9 hB9 hK9
          go_wp2_with fail
          go_roundw
          case rel => exact ⟨i + 1, a9, c9, him, by go_num, rfl, HB9.out, HA9.out⟩
          case measure => simp [intOf]; omega
        · obtain rfl : i = m := by omega
          have hni : ¬ ((i : Int) < i) := by omega
          have HL := Lib.hid hac.out.rd
          have HBX := Lib.hid hs3.bel
          clear hac
          clear HAC
          go_wp2_with fail
          refine (l02Value_c sn ((i : Int), tb) (List.replicate i (x : Int)) pb po _ _ _ _ (Rd.mono HF.out hs3.bel) (cellL hs3.bel hc1) HL.out HOK.out (by simp) (fun a ha => by obtain ⟨_, rfl⟩ := List.mem_replicate.1 ha; omega)).mono ?_
          rintro e w5 ⟨rfl, hb5⟩
          have HB5 := Lib.hid (HBX.out.trans (hb5.mono HBX.out.size))
          clear hb5
          by_cases hv : valOf sn ((i : Int), tb) (List.replicate i (x : Int)) = (x : Int)
          · have hne : (valOf sn ((i : Int), tb) (List.replicate i (x : Int)) != (x : Int)) = false := by simp [hv]
            have H9 := Lib.hid (show ∀ y : Nat, y < x + 1 → valOf sn ((i : Int), tb) (List.replicate i (y : Int)) = (y : Int) from fun y hy => by
              rcases Nat.lt_or_ge y x with h1 | h1
              · exact hr.out y h1
              · obtain rfl : y = x := by omega
                exact hv)
            clear hv
            go_wp2_with fail
            go_roundw
            case rel => exact ⟨x + 1, by omega, by go_num, HB5.out, H9.out⟩
            case measure => simp [intOf]; omega
          · have hne : (valOf sn ((i : Int), tb) (List.replicate i (x : Int)) != (x : Int)) = true := by simp [hv]
            have H9 := Lib.hid (HQN.out x hlt hv)
            clear hv
            go_wp2_with fail
            go_ret
            exact ⟨ret_bool H9.out.symm, HB5.out⟩
    · obtain rfl : x = sn := by omega
      have hnl : ¬ ((x : Int) < x) := by omega
      have H9 := Lib.hid (HQY.out hr.out)
      go_wp2_with fail
      go_ret
      exact ⟨ret_bool H9.out.symm, hbl.out⟩

theorem rd_pairI {w : World} {b o c : Nat} {x y : Int} (hc : 2 ≤ c) (hm : c ≤ maxLen) (hx : I64 x) (hy : I64 y) (h0 : w.cell? ⟨b, o, none⟩ = some (.int .i64 x)) (h1 : w.cell? ⟨b, o + 1, none⟩ = some (.int .i64 y)) : Rd w [.slice (some ⟨b, o, none⟩) 2 c] [x, y] := by
  refine ⟨_, _, rfl, by simpa using hc, hm, fun i hi => ?_⟩
  match i, hi with
  | 0, _ =>
    refine ⟨b, o, [.int .i64 x], rfl, ⟨rfl, hx⟩, fun j hj => ?_⟩
    obtain rfl : j = 0 := by simp at hj; omega
    simpa using h0
  | 1, _ =>
    refine ⟨b, o, [.int .i64 y], rfl, ⟨rfl, hy⟩, fun j hj => ?_⟩
    obtain rfl : j = 0 := by simp at hj; omega
    simpa [sz] using h1
theorem op_table {size : Int} {f : OpT} (hok : opOk size f = true) {m : Nat} (hm : f.1 = (m : Int)) {n : Nat} (hn : n < f.2.length) : (f.2.length : Int) = size ^ m ∧ valOf size f (digs size m (n : Int)) = f.2[n] := by
  have hs := (opOk_get hok).1
  have ht := valsOk_len (opOk_get hok).2.2
  rw [hm, Int.toNat_natCast] at ht
  refine ⟨ht, ?_⟩
  unfold valOf
  rw [digsK_code hs.1, Int.emod_eq_of_lt (by omega) (by omega), Int.toNat_natCast, List.getD, List.getElem?_eq_getElem hn]
  rfl
set_option maxRecDepth 100000 in
set_option maxHeartbeats 8000000 in
theorem l02Symmetric_c (size : Int) (f : OpT) (pb po : Nat) (v0 v1 : Value) (w : World) (hf : Rd w [v0, v1] f) (hc0 : w.cell? ⟨pb, po, none⟩ = some v0) (hc1 : w.cell? ⟨pb, po + 1, none⟩ = some v1) (hok : opOk size f = true) (h2 : f.1 = 2) :
    Calls Tryz.prog 84 #[.int .i64 size, .pointer (some ⟨pb, po, none⟩)] w fun e w' => e = .returned (.bool (symB size f)) ∧ Below w.heap.size w w' := by
  have hs := (opOk_get hok).1
  have hvals := (opOk_get hok).2.2
  obtain ⟨ar, tb⟩ := f
  simp only at h2 hvals
  subst h2
  have htl := valsOk_len hvals
  have HF := Lib.hid hf
  have HOK := Lib.hid hok
  have zf := rd_cons rfl hf
  obtain ⟨rfl, _⟩ := rd_i1 zf.1
  obtain ⟨at0, ct0, rfl, _⟩ := rd_list zf.2
  have HTB := Lib.hid zf.2
  have htn : tb.length = size.toNat * size.toNat := by
    have : (tb.length : Int) = ((size.toNat * size.toNat : Nat) : Int) := by
      rw [htl, Int.natCast_mul, Int.toNat_of_nonneg (by omega)]
      show size ^ 2 = _
      rw [Int.pow_succ, Int.pow_succ, Int.pow_zero, Int.one_mul]
    omega
  have htb : tb.length ≤ 16 := by rw [htn]; exact Nat.mul_le_mul (show size.toNat ≤ 4 by omega) (show size.toNat ≤ 4 by omega)
  have HOT := Lib.hid (fun (n : Nat) (hn : n < tb.length) => (op_table (f := ((2 : Int), tb)) hok (m := 2) rfl hn).2)
  have HQN := Lib.hid (fun (n : Nat) (hn : n < tb.length) (h : ¬ valOf size ((2 : Int), tb) [(digs size 2 (n : Int)).getD 1 0, (digs size 2 (n : Int)).getD 0 0] = valOf size ((2 : Int), tb) (digs size 2 (n : Int))) => show symB size ((2 : Int), tb) = false from by
    unfold symB
    exact allL_no (n := n) (by rw [← htn]; exact hn) (decide_eq_false h))
  have HQY := Lib.hid (fun (h : ∀ n : Nat, n < tb.length → valOf size ((2 : Int), tb) [(digs size 2 (n : Int)).getD 1 0, (digs size 2 (n : Int)).getD 0 0] = valOf size ((2 : Int), tb) (digs size 2 (n : Int))) => show symB size ((2 : Int), tb) = true from by
    unfold symB
    exact allL_yes (fun n hn => decide_eq_true (h n (by rw [htn]; exact hn))))
  clear hf zf hok hvals htl htn
  have hc0_ := cellL (St.start w).bel hc0
  clear hc0_
  have hc0_ := cellL (St.start w).bel hc0
  have hc1_ := cellL (St.start w).bel hc1
  go_enter Tryz.func84, Tryz.ntmps84
  go_wp2_with fail
  go_loopw [5] (fun nv wl => ∃ n : Nat, n ≤ tb.length ∧ nv = .int .i64 n ∧ Hid (Below w.heap.size w wl) ∧ Hid (∀ q : Nat, q < n → valOf size ((2 : Int), tb) [(digs size 2 (q : Int)).getD 1 0, (digs size 2 (q : Int)).getD 0 0] = valOf size ((2 : Int), tb) (digs size 2 (q : Int)))) (fun nv _ => tb.length - (intOf nv).toNat)
  case atStart => exact ⟨0, Nat.zero_le _, rfl, Below.refl _ _, fun y hy => absurd hy (Nat.not_lt_zero _)⟩
  case round =>
    obtain ⟨n, hn, rfl, hbl, hr⟩ := hrel
    have hs2 := (St.start w).step hbl.out
    have hc0_ := cellL hs2.bel hc0
    have hc1_ := cellL hs2.bel hc1
    by_cases hlt : n < tb.length
    · have hnI : (n : Int) < tb.length := by omega
      have HQ1 := Lib.hid (HQN.out n hlt)
      have HO1 := Lib.hid (HOT.out n hlt)
      have HNX := Lib.hid (fun (h : valOf size ((2 : Int), tb) [(digs size 2 (n : Int)).getD 1 0, (digs size 2 (n : Int)).getD 0 0] = valOf size ((2 : Int), tb) (digs size 2 (n : Int))) => show ∀ q : Nat, q < n + 1 → valOf size ((2 : Int), tb) [(digs size 2 (q : Int)).getD 1 0, (digs size 2 (q : Int)).getD 0 0] = valOf size ((2 : Int), tb) (digs size 2 (q : Int)) from fun q hq => by
        rcases Nat.lt_or_ge q n with h1 | h1
        · exact hr.out q h1
        · obtain rfl : q = n := by omega
          exact h)
      have hmem := digs_mem size (by omega) 2 (n : Int)
      go_wp2_with fail
      refine (l01Digits_c size 2 n _ (by omega) (by omega) (by omega) (by omega) (by omega) (by omega)).mono ?_
      rintro e w1 ⟨v1, rfl, fr1, hbw1⟩
      have hz_w1 : wr.heap.size ≤ w1.heap.size := by have h9 := hbw1.size; (try simp at h9); omega
      have hs2 := hs2.step hbw1
      clear hc0_ hc1_
      have hc0_ := cellL hs2.bel hc0
      have hc1_ := cellL hs2.bel hc1
      have fr1 : Fresh _ _ [v1] (digs size 2 (n : Int)) := fr1
      obtain ⟨a, b, hab⟩ : ∃ a b, digs size 2 (n : Int) = [a, b] := ⟨_, _, rfl⟩
      rw [hab] at fr1 hmem
      have HAB := Lib.hid hab
      have hA := hmem a (by simp)
      have hB := hmem b (by simp)
      rw [HAB.out] at HQ1 HO1 HNX
      simp only [List.getD_cons_zero, List.getD_cons_succ] at HQ1 HNX
      have HT := Lib.hid fr1.rd
      obtain ⟨a1, c1, rfl, _⟩ := rd_list HT.out
      obtain ⟨b1, o1, rfl, t0, hIA⟩ := rd_int_at HT.out 0 (by simp)
      obtain ⟨b2, o2, e2, t1, hIB⟩ := rd_int_at HT.out 1 (by simp)
      simp only [Option.some.injEq, Addr.mk.injEq, and_true] at e2
      obtain ⟨rfl, rfl⟩ := e2
      rw [Nat.add_zero] at t0
      simp only [List.getElem_cons_zero, List.getElem_cons_succ] at t0 t1 hIA hIB
      have HIA := Lib.hid hIA
      have HIB := Lib.hid hIB
      have HBW := Lib.hid hs2.bel
      obtain ⟨wo, hwo⟩ : ∃ x, x = w1 := ⟨_, rfl⟩
      rw [← hwo] at HBW HT t0 t1
      have HWO := Lib.hid hwo
      clear fr1 hab hIA hIB hmem hwo
      go_wp2_with fail
      rw [← HWO.out]
      go_loopw [7] (fun iv wl => ∃ i : Nat, i ≤ 1 ∧ iv = .int .i64 i ∧ Hid (Below wo.heap.size wo wl) ∧ Hid (i = 1 → valOf size ((2 : Int), tb) [b, a] = valOf size ((2 : Int), tb) [a, b])) (fun iv _ => 1 - (intOf iv).toNat)
      case atStart => exact ⟨0, Nat.zero_le _, rfl, Below.refl _ _, fun h => by omega⟩
      case round =>
        obtain ⟨i, hi, rfl, hbl2, hr2⟩ := hrel
        have hs3 := (St.start w).step (HBW.out.trans (hbl2.out.mono HBW.out.size))
        have u0 := cellL hbl2.out t0
        have u1 := cellL hbl2.out t1
        have HT2 := Lib.hid (Rd.mono HT.out hbl2.out)
        have hc0_ := cellL hs3.bel hc0
        have hc1_ := cellL hs3.bel hc1
        by_cases hi1 : i = 1
        · subst hi1
          have H9 := Lib.hid (HNX.out (hr2.out rfl))
          have HB9 := Lib.hid hs3.bel
          go_wp2_with fail
          go_roundw
          case rel => exact ⟨n + 1, by omega, by go_num, HB9.out, H9.out⟩
          case measure => simp [intOf]; omega
        · obtain rfl : i = 0 := by omega
          go_wp2_with fail
          refine (l00Own_c [a, b] _ _ HT2.out (by simp)).mono ?_
          rintro e w5 ⟨v5, rfl, hA5, hb5⟩
          obtain ⟨hrow, hbk, hI5⟩ := acc_ints_get hA5
          rcases hrow.2 with ⟨_, h0⟩ | ⟨g, cap, cur, rfl, hgb, hg, hn2, hm, hsz, htk⟩
          · simp at h0
          have hown := ownSl_ints (row_base hrow) rfl hI5
          obtain ⟨g', o', c', hv', hps, hcd, hf0, hset⟩ := ownSl_int hown 0 (by simp)
          simp only [Value.slice.injEq, Option.some.injEq, Addr.mk.injEq] at hv'
          obtain ⟨⟨rfl, rfl, -⟩, -, rfl⟩ := hv'
          have h6 := hset b HIB.out
          obtain ⟨g', o', c', hv', hps, hcd1, hf1, hset1⟩ := ownSl_int h6 1 (by simp)
          simp only [Value.slice.injEq, Option.some.injEq, Addr.mk.injEq] at hv'
          obtain ⟨⟨rfl, rfl, -⟩, -, rfl⟩ := hv'
          have h7 := hset1 a HIA.out
          have hfin : (([a, b] : List Int).set 0 b).set 1 a = [b, a] := rfl
          rw [hfin] at h7
          simp only [Nat.zero_add] at hcd hf0 hf1 hcd1 h7
          have x0 := cellL hb5 u0
          have x1 := cellL hb5 u1
          have hgx : b1 ≠ g := by
            have := World.block_lt_of_cell? wr _ u0
            simp only at this
            omega
          obtain ⟨w6, hw6⟩ : ∃ x, x = (w5.setCell ⟨g, 0, none⟩ (.int .i64 b)).setCell ⟨g, 1, none⟩ (.int .i64 a) := ⟨_, rfl⟩
          have HW6 := Lib.hid hw6
          have HR6 := Lib.hid (show Rd w6 [.slice (some ⟨g, 0, none⟩) 2 cap] [b, a] from by rw [hw6]; exact Rep.own_rd (⟨_, rfl, h7⟩ : Own [g] _ [.slice (some ⟨g, 0, none⟩) 2 cap] [b, a]))
          have hb6 : Below wr.heap.size wr w6 := by rw [hw6]; exact (hb5.setCell (by simpa using hgb) _).setCell (by simpa using hgb) _
          have x1b : (w5.setCell ⟨g, 0, none⟩ (.int .i64 b)).cell? ⟨b1, o1, none⟩ = some (.int .i64 a) := by
            rw [World.cell?_setCell_other (h := fun e => hgx (by simp only [Addr.mk.injEq] at e; exact e.1.symm))]
            exact x0
          have HB6 := Lib.hid (hbl2.out.trans (hb6.mono hbl2.out.size))
          have hs6 := hs3.step hb6
          clear hA5 hrow hbk hI5 hg hsz htk hown hset h6 hset1 h7 hw6 hb5 hb6 hfin
          go_upto_region 11 with fail
          rw [← HW6.out]
          obtain ⟨bT, oT, eT, qT, _⟩ := rd_int_at HTB.out n hlt
          subst eT
          have HTN := Lib.hid (show valOf size ((2 : Int), tb) [a, b] = tb[n] from HO1.out)
          generalize tb[n] = TN at *
          clear hc0_ hc1_
          have hc0_ := cellL hs3.bel hc0
          have hc1_ := cellL hs3.bel hc1
          have qT_ := cellL hs3.bel qT
          have hc0_ := cellL hs6.bel hc0
          have hc1_ := cellL hs6.bel hc1
          have qT_ := cellL hs6.bel qT
          have HBX := HB6
          by_cases hv : valOf size ((2 : Int), tb) [b, a] = TN
          · have hne : (valOf size ((2 : Int), tb) [b, a] != TN) = false := by simp [hv]
            have H9 := Lib.hid (show valOf size ((2 : Int), tb) [b, a] = valOf size ((2 : Int), tb) [a, b] by rw [HTN.out, hv])
            clear hv
            refine wp_region_noPanic (wp_region_tree4 (fun w' => w'.cell? ⟨pb, po, none⟩ = some (.int .i64 2) ∧ w'.cell? ⟨pb, po + 1, none⟩ = some (.slice (some ⟨bT, oT, none⟩) tb.length ct0) ∧ w'.cell? ⟨bT, oT + n, none⟩ = some (.int .i64 TN)) (.float 0 (.float 1 (.float 2 (.float 4 (.float 5 (.float 6 (.float 7 (.float 8 (.float 9 (.float 10 (.hard 3 (.float 11 .nil)))))))))))) (by kernel_rfl) (by kernel_rfl) (by kernel_rfl) rfl ?_ (fun _ _ _ _ _ h => h) ?_)
            · exact ⟨cellL (hs6.drew).bel hc0, cellL (hs6.drew).bel hc1, cellL (hs6.drew).bel qT⟩
            have hs3 := hs6.drew
            have HBX_4 := Lib.hid (HBX.out.trans (((belowD _)).mono HBX.out.size))
            clear HBX
            have HR6_5 := Lib.hid (Rd.mono HR6.out (belowD _))
            clear HR6
            clear hc0_ hc1_ qT_
            have hz_wd6 : w6.heap.size ≤ (w6.drew).heap.size := by simp
            generalize hgen_wd6 : w6.drew = wd6 at *
            have HG_wd6 := Lib.hid hgen_wd6
            clear hgen_wd6
            (repeat (first | (apply t4_skip rfl (by rfl); try simp only [Act.put, List.setIfInBounds_toArray, List.set_cons_zero, List.set_cons_succ]) | (apply t4_float rfl (by rfl); (· (intro w' hS; go_simp <;> with_reducible rfl)); (try simp only [Act.put, List.setIfInBounds_toArray, List.set_cons_zero, List.set_cons_succ]))))
            refine t4_hard rfl (by rfl) (fun K hK => ?_)
            go_wp2_with (go_at_call 97; refine (l02Value_c size ((2 : Int), tb) [b, a] pb po _ _ _ _ (Rd.mono HF.out hs3.bel) (cellL hs3.bel hc1) HR6_5.out HOK.out rfl (fun e he => by simp at he; rcases he with rfl | rfl <;> omega)).mono ?_; rintro e w7 ⟨rfl, hbw7⟩)
            have hz_w7 : wd6.heap.size ≤ w7.heap.size := by have h9 := hbw7.size; (try simp at h9); omega
            have hs8 := hs3.step hbw7
            have HBX_9 := Lib.hid (HBX_4.out.trans ((hbw7).mono HBX_4.out.size))
            clear HBX_4
            have HR6_10 := Lib.hid (Rd.mono HR6_5.out hbw7)
            clear HR6_5
            refine ⟨⟨cellL hs8.bel hc0, cellL hs8.bel hc1, cellL hs8.bel qT⟩, ?_⟩
            (repeat (first | (apply t4_skip rfl (by rfl); try simp only [Act.put, List.setIfInBounds_toArray, List.set_cons_zero, List.set_cons_succ]) | (apply t4_float rfl (by rfl); (· (intro w' hS; go_simp <;> with_reducible rfl)); (try simp only [Act.put, List.setIfInBounds_toArray, List.set_cons_zero, List.set_cons_succ]))))
            have hc0_ := cellL hs8.bel hc0
            have hc1_ := cellL hs8.bel hc1
            have qT_ := cellL hs8.bel qT
            refine t4_nil (NoPanic.normal ?_)
            go_wp2_with fail
            go_roundw
            case rel => exact ⟨1, Nat.le_refl _, by go_num, HBX_9.out, fun _ => H9.out⟩
            case measure => simp [intOf]
          · have hne : (valOf size ((2 : Int), tb) [b, a] != TN) = true := by simp [hv]
            have H9 := Lib.hid (HQ1.out (by rw [HTN.out]; exact hv))
            clear hv
            refine wp_region_noPanic (wp_region_tree4 (fun w' => w'.cell? ⟨pb, po, none⟩ = some (.int .i64 2) ∧ w'.cell? ⟨pb, po + 1, none⟩ = some (.slice (some ⟨bT, oT, none⟩) tb.length ct0) ∧ w'.cell? ⟨bT, oT + n, none⟩ = some (.int .i64 TN)) (.float 0 (.float 1 (.float 2 (.float 4 (.float 5 (.float 6 (.float 7 (.float 8 (.float 9 (.float 10 (.hard 3 (.float 11 .nil)))))))))))) (by kernel_rfl) (by kernel_rfl) (by kernel_rfl) rfl ?_ (fun _ _ _ _ _ h => h) ?_)
            · exact ⟨cellL (hs6.drew).bel hc0, cellL (hs6.drew).bel hc1, cellL (hs6.drew).bel qT⟩
            have hs11 := hs6.drew
            have HBX_12 := Lib.hid (HBX.out.trans (((belowD _)).mono HBX.out.size))
            clear HBX
            have HR6_13 := Lib.hid (Rd.mono HR6.out (belowD _))
            clear HR6
            clear hc0_ hc1_ qT_
            have hz_wd14 : w6.heap.size ≤ (w6.drew).heap.size := by simp
            generalize hgen_wd14 : w6.drew = wd14 at *
            have HG_wd14 := Lib.hid hgen_wd14
            clear hgen_wd14
            (repeat (first | (apply t4_skip rfl (by rfl); try simp only [Act.put, List.setIfInBounds_toArray, List.set_cons_zero, List.set_cons_succ]) | (apply t4_float rfl (by rfl); (· (intro w' hS; go_simp <;> with_reducible rfl)); (try simp only [Act.put, List.setIfInBounds_toArray, List.set_cons_zero, List.set_cons_succ]))))
            refine t4_hard rfl (by rfl) (fun K hK => ?_)
            go_wp2_with (go_at_call 97; refine (l02Value_c size ((2 : Int), tb) [b, a] pb po _ _ _ _ (Rd.mono HF.out hs11.bel) (cellL hs11.bel hc1) HR6_13.out HOK.out rfl (fun e he => by simp at he; rcases he with rfl | rfl <;> omega)).mono ?_; rintro e w15 ⟨rfl, hbw15⟩)
            have hz_w15 : wd14.heap.size ≤ w15.heap.size := by have h9 := hbw15.size; (try simp at h9); omega
            have hs16 := hs11.step hbw15
            have HBX_17 := Lib.hid (HBX_12.out.trans ((hbw15).mono HBX_12.out.size))
            clear HBX_12
            have HR6_18 := Lib.hid (Rd.mono HR6_13.out hbw15)
            clear HR6_13
            refine ⟨⟨cellL hs16.bel hc0, cellL hs16.bel hc1, cellL hs16.bel qT⟩, ?_⟩
            (repeat (first | (apply t4_skip rfl (by rfl); try simp only [Act.put, List.setIfInBounds_toArray, List.set_cons_zero, List.set_cons_succ]) | (apply t4_float rfl (by rfl); (· (intro w' hS; go_simp <;> with_reducible rfl)); (try simp only [Act.put, List.setIfInBounds_toArray, List.set_cons_zero, List.set_cons_succ]))))
            have hc0_ := cellL hs16.bel hc0
            have hc1_ := cellL hs16.bel hc1
            have qT_ := cellL hs16.bel qT
            refine t4_nil (NoPanic.normal ?_)
            go_wp2_with fail
            go_ret
            exact ⟨ret_bool H9.out.symm, hs16.bel⟩
    · obtain rfl : n = tb.length := by omega
      have hnl : ¬ ((tb.length : Int) < tb.length) := by omega
      have H9 := Lib.hid (HQY.out hr.out)
      go_wp2_with fail
      go_ret
      exact ⟨ret_bool H9.out.symm, hbl.out⟩

set_option maxRecDepth 100000 in
set_option maxHeartbeats 8000000 in
theorem l02Associative_c (size : Int) (f : OpT) (pb po : Nat) (v0 v1 : Value) (w : World) (hf : Rd w [v0, v1] f) (hc0 : w.cell? ⟨pb, po, none⟩ = some v0) (hc1 : w.cell? ⟨pb, po + 1, none⟩ = some v1) (hok : opOk size f = true) (h2 : f.1 = 2) :
    Calls Tryz.prog 85 #[.int .i64 size, .pointer (some ⟨pb, po, none⟩)] w fun e w' => e = .returned (.bool (assocB size f)) ∧ Below w.heap.size w w' := by
  have hs := (opOk_get hok).1
  obtain ⟨ar, tb⟩ := f
  simp only at h2
  subst h2
  have HF := Lib.hid hf
  have HOK := Lib.hid hok
  have zf := rd_cons rfl hf
  obtain ⟨rfl, _⟩ := rd_i1 zf.1
  obtain ⟨at0, ct0, rfl, _⟩ := rd_list zf.2
  obtain ⟨N, hN⟩ : ∃ N, N = size.toNat * size.toNat * size.toNat := ⟨_, rfl⟩
  have HNP := Lib.hid (show size ^ (3 : Int).toNat = (N : Int) by
    rw [hN]
    show size ^ 3 = _
    rw [Int.natCast_mul, Int.natCast_mul, Int.toNat_of_nonneg (by omega), Int.pow_succ, Int.pow_succ, Int.pow_succ, Int.pow_zero, Int.one_mul])
  have hN64 : N ≤ 64 := by rw [hN]; exact Nat.mul_le_mul (Nat.mul_le_mul (show size.toNat ≤ 4 by omega) (show size.toNat ≤ 4 by omega)) (show size.toNat ≤ 4 by omega)
  have HV := Lib.hid (fun (x z : Int) (hx : 0 ≤ x ∧ x ≤ size - 1) (hz : 0 ≤ z ∧ z ≤ size - 1) => show ∀ e, e ∈ [x, z] → 0 ≤ e ∧ e ≤ size - 1 from fun e he => by simp at he; rcases he with rfl | rfl <;> assumption)
  have HVO := Lib.hid (fun (x z : Int) (hx : 0 ≤ x ∧ x ≤ size - 1) (hz : 0 ≤ z ∧ z ≤ size - 1) => show 0 ≤ valOf size ((2 : Int), tb) [x, z] ∧ valOf size ((2 : Int), tb) [x, z] ≤ size - 1 from by
    obtain ⟨_, _, _, e2, e3, e4, _⟩ := valOf_at (args := [x, z]) hok rfl (HV.out x z hx hz)
    exact ⟨e3, e4⟩)
  have HQN := Lib.hid (fun (n : Nat) (hn : n < N) (a b c : Int) (hd : digs size 3 (n : Int) = [a, b, c]) (h : ¬ valOf size ((2 : Int), tb) [valOf size ((2 : Int), tb) [a, b], c] = valOf size ((2 : Int), tb) [a, valOf size ((2 : Int), tb) [b, c]]) => show assocB size ((2 : Int), tb) = false from by
    unfold assocB
    refine allL_no (n := n) (by rw [← hN]; exact hn) (decide_eq_false ?_)
    rw [hd]
    exact h)
  have HQY := Lib.hid (fun (h : ∀ n : Nat, n < N → ∀ a b c : Int, digs size 3 (n : Int) = [a, b, c] → valOf size ((2 : Int), tb) [valOf size ((2 : Int), tb) [a, b], c] = valOf size ((2 : Int), tb) [a, valOf size ((2 : Int), tb) [b, c]]) => show assocB size ((2 : Int), tb) = true from by
    unfold assocB
    refine allL_yes (fun n hn => decide_eq_true ?_)
    obtain ⟨a, b, c, hd⟩ : ∃ a b c, digs size 3 (n : Int) = [a, b, c] := ⟨_, _, _, rfl⟩
    rw [hd]
    exact h n (by rw [hN]; exact hn) a b c hd)
  clear hf zf hok hN
  have hc0_ := cellL (St.start w).bel hc0
  clear hc0_
  have hc0_ := cellL (St.start w).bel hc0
  have hc1_ := cellL (St.start w).bel hc1
  go_enter Tryz.func85, Tryz.ntmps85
  go_wp2_with fail
  go_loopw [5] (fun nv wl => ∃ n : Nat, n ≤ N ∧ nv = .int .i64 n ∧ Hid (Below w.heap.size w wl) ∧ Hid (∀ q : Nat, q < n → ∀ a b c : Int, digs size 3 (q : Int) = [a, b, c] → valOf size ((2 : Int), tb) [valOf size ((2 : Int), tb) [a, b], c] = valOf size ((2 : Int), tb) [a, valOf size ((2 : Int), tb) [b, c]])) (fun nv _ => N - (intOf nv).toNat)
  case atStart => exact ⟨0, Nat.zero_le _, rfl, Below.refl _ _, fun y hy => absurd hy (Nat.not_lt_zero _)⟩
  case round =>
    obtain ⟨n, hn, rfl, hbl, hr⟩ := hrel
    have hs2 := (St.start w).step hbl.out
    have hc0_ := cellL hs2.bel hc0
    have hc1_ := cellL hs2.bel hc1
    go_wp2_with fail
    refine (l01Power_c size 3 _ (by omega) (by omega) (by omega) (by rw [HNP.out]; omega)).mono ?_
    rintro e w19 ⟨rfl, rfl, rfl⟩
    rw [HNP.out]
    by_cases hlt : n < N
    · have hnI : (n : Int) < N := by omega
      have HQ1 := Lib.hid (HQN.out n hlt)
      have hmem := digs_mem size (by omega) 3 (n : Int)
      go_wp2_with fail
      refine (l01Digits_c size 3 n _ (by omega) (by omega) (by omega) (by omega) (by omega) (by omega)).mono ?_
      rintro e w20 ⟨v1, rfl, fr1, hbw20⟩
      have hz_w20 : wr.heap.size ≤ w20.heap.size := by have h9 := hbw20.size; (try simp at h9); omega
      have hs21 := hs2.step hbw20
      clear hc0_ hc1_
      have hc0_ := cellL hs21.bel hc0
      have hc1_ := cellL hs21.bel hc1
      have fr1 : Fresh _ _ [v1] (digs size 3 (n : Int)) := fr1
      obtain ⟨a, b, c, hab⟩ : ∃ a b c, digs size 3 (n : Int) = [a, b, c] := ⟨_, _, _, rfl⟩
      have HNX := Lib.hid (fun (h : valOf size ((2 : Int), tb) [valOf size ((2 : Int), tb) [a, b], c] = valOf size ((2 : Int), tb) [a, valOf size ((2 : Int), tb) [b, c]]) => show ∀ q : Nat, q < n + 1 → ∀ a b c : Int, digs size 3 (q : Int) = [a, b, c] → valOf size ((2 : Int), tb) [valOf size ((2 : Int), tb) [a, b], c] = valOf size ((2 : Int), tb) [a, valOf size ((2 : Int), tb) [b, c]] from fun q hq a' b' c' hd => by
        rcases Nat.lt_or_ge q n with h1 | h1
        · exact hr.out q h1 a' b' c' hd
        · obtain rfl : q = n := by omega
          rw [hab] at hd
          simp only [List.cons.injEq, and_true] at hd
          obtain ⟨rfl, rfl, rfl⟩ := hd
          exact h)
      have HQ2 := Lib.hid (HQ1.out a b c hab)
      rw [hab] at fr1 hmem
      have hA : 0 ≤ a ∧ a ≤ size - 1 := by have := hmem a (by simp); omega
      have hB : 0 ≤ b ∧ b ≤ size - 1 := by have := hmem b (by simp); omega
      have hC : 0 ≤ c ∧ c ≤ size - 1 := by have := hmem c (by simp); omega
      have HT := Lib.hid fr1.rd
      obtain ⟨a1, c1, rfl, hra⟩ := rd_list HT.out
      have hc3 : 3 ≤ c1 := hra.1
      have hcm : c1 ≤ maxLen := hra.2.1
      obtain ⟨b1, o1, rfl, t0, _⟩ := rd_int_at HT.out 0 (by simp)
      obtain ⟨b2, o2, e2, t1, _⟩ := rd_int_at HT.out 1 (by simp)
      simp only [Option.some.injEq, Addr.mk.injEq, and_true] at e2
      obtain ⟨rfl, rfl⟩ := e2
      obtain ⟨b2, o2, e2, t2, _⟩ := rd_int_at HT.out 2 (by simp)
      simp only [Option.some.injEq, Addr.mk.injEq, and_true] at e2
      obtain ⟨rfl, rfl⟩ := e2
      rw [Nat.add_zero] at t0
      simp only [List.getElem_cons_zero, List.getElem_cons_succ] at t0 t1 t2
      have HIA := Lib.hid (show I64 a from i64_of _ (by omega) (by omega))
      have HIB := Lib.hid (show I64 b from i64_of _ (by omega) (by omega))
      have HIC := Lib.hid (show I64 c from i64_of _ (by omega) (by omega))
      have hL := HVO.out a b hA hB
      have hR := HVO.out b c hB hC
      have HIL := Lib.hid (show I64 (valOf size ((2 : Int), tb) [a, b]) from i64_of _ (by omega) (by omega))
      have HIR := Lib.hid (show I64 (valOf size ((2 : Int), tb) [b, c]) from i64_of _ (by omega) (by omega))
      have HLV := Lib.hid hL
      have HRV := Lib.hid hR
      have hcn : ¬ c1 = 1 := by omega
      have hci2 : (2 : Int) ≤ c1 := by omega
      have hci3 : (3 : Int) ≤ c1 := by omega
      have hcu : c1 ≤ 9223372036854775807 := by unfold maxLen at hcm; omega
      have HCM := Lib.hid hcm
      clear hab fr1 hmem hL hR hra hcm
      go_upto_region 5 with fail
      refine wp_region_noPanic (wp_region_tree4 (fun w' => w'.cell? ⟨pb, po, none⟩ = some (.int .i64 2) ∧ w'.cell? ⟨pb, po + 1, none⟩ = some (.slice at0 tb.length ct0) ∧ w'.cell? ⟨b1, o1, none⟩ = some (.int .i64 a) ∧ w'.cell? ⟨b1, o1 + 1, none⟩ = some (.int .i64 b) ∧ w'.cell? ⟨b1, o1 + 2, none⟩ = some (.int .i64 c)) (.float 0 (.float 1 (.float 2 (.float 3 (.float 4 (.float 5 (.float 7 (.float 8 (.float 9 (.hard 6 (.hard 10 (.hard 11 (.float 12 .nil))))))))))))) (by kernel_rfl) (by kernel_rfl) (by kernel_rfl) rfl ?_ (fun _ _ _ _ _ h => h) ?_)
      · exact ⟨cellL (hs21.drew).bel hc0, cellL (hs21.drew).bel hc1, cellL (belowD _) t0, cellL (belowD _) t1, cellL (belowD _) t2⟩
      have hs22 := hs21.drew
      have t0_23 := cellL (belowD _) t0
      clear t0
      have t1_24 := cellL (belowD _) t1
      clear t1
      have t2_25 := cellL (belowD _) t2
      clear t2
      clear hc0_ hc1_
      have hz_wd26 : w20.heap.size ≤ (w20.drew).heap.size := by simp
      generalize hgen_wd26 : w20.drew = wd26 at *
      have HG_wd26 := Lib.hid hgen_wd26
      clear hgen_wd26
      (repeat (first | (apply t4_skip rfl (by rfl); try simp only [Act.put, List.setIfInBounds_toArray, List.set_cons_zero, List.set_cons_succ]) | (apply t4_float rfl (by rfl); (· (intro w' hS; go_simp <;> with_reducible rfl)); (try simp only [Act.put, List.setIfInBounds_toArray, List.set_cons_zero, List.set_cons_succ]))))
      refine t4_hard rfl (by rfl) (fun K hK => ?_)
      go_wp2_with (go_at_call 97; refine (l02Value_c size ((2 : Int), tb) [a, b] pb po _ _ _ _ (Rd.mono HF.out hs22.bel) (cellL hs22.bel hc1) (rd_pairI (by omega) HCM.out HIA.out HIB.out t0_23 t1_24) HOK.out rfl (HV.out a b hA hB)).mono ?_; rintro e w27 ⟨rfl, hbw27⟩)
      have hz_w27 : wd26.heap.size ≤ w27.heap.size := by have h9 := hbw27.size; (try simp at h9); omega
      have hs28 := hs22.step hbw27
      have t0_29 := cellL hbw27 t0_23
      clear t0_23
      have t1_30 := cellL hbw27 t1_24
      clear t1_24
      have t2_31 := cellL hbw27 t2_25
      clear t2_25
      refine ⟨⟨cellL hs28.bel hc0, cellL hs28.bel hc1, t0_29, t1_30, t2_31⟩, ?_⟩
      (repeat (first | (apply t4_skip rfl (by rfl); try simp only [Act.put, List.setIfInBounds_toArray, List.set_cons_zero, List.set_cons_succ]) | (apply t4_float rfl (by rfl); (· (intro w' hS; go_simp <;> with_reducible rfl)); (try simp only [Act.put, List.setIfInBounds_toArray, List.set_cons_zero, List.set_cons_succ]))))
      refine t4_hard rfl (by rfl) (fun K hK => ?_)
      go_wp2_with fail
      have hs32 := hs28.alloc #[.int .i64 (valOf size ((2 : Int), tb) [a, b]), .int .i64 c] 2 (n := w27.heap.size) (by simp)
      have t0_33 := cellL (belowA _ (.cells #[.int .i64 (valOf size ((2 : Int), tb) [a, b]), .int .i64 c] 2)) t0_29
      clear t0_29
      have t1_34 := cellL (belowA _ (.cells #[.int .i64 (valOf size ((2 : Int), tb) [a, b]), .int .i64 c] 2)) t1_30
      clear t1_30
      have t2_35 := cellL (belowA _ (.cells #[.int .i64 (valOf size ((2 : Int), tb) [a, b]), .int .i64 c] 2)) t2_31
      clear t2_31
      refine ⟨⟨cellL hs32.bel hc0, cellL hs32.bel hc1, t0_33, t1_34, t2_35⟩, ?_⟩
      (repeat (first | (apply t4_skip rfl (by rfl); try simp only [Act.put, List.setIfInBounds_toArray, List.set_cons_zero, List.set_cons_succ]) | (apply t4_float rfl (by rfl); (· (intro w' hS; go_simp <;> with_reducible rfl)); (try simp only [Act.put, List.setIfInBounds_toArray, List.set_cons_zero, List.set_cons_succ]))))
      refine t4_hard rfl (by rfl) (fun K hK => ?_)
      go_wp2_with (go_at_call 97; refine (l02Value_c size ((2 : Int), tb) [valOf size ((2 : Int), tb) [a, b], c] pb po _ _ _ _ (Rd.mono HF.out hs32.bel) (cellL hs32.bel hc1) (rd_lit2 HIL.out HIC.out (hs32.cellAt 0 rfl 0 rfl) (hs32.cellAt 0 rfl 1 rfl)) HOK.out rfl (HV.out _ c HLV.out hC)).mono ?_; rintro e w36 ⟨rfl, hbw36⟩)
      have hz_w36 : w27.heap.size + 1 ≤ w36.heap.size := by have h9 := hbw36.size; (try simp at h9); omega
      have hs37 := hs32.step hbw36
      have t0_38 := cellL hbw36 t0_33
      clear t0_33
      have t1_39 := cellL hbw36 t1_34
      clear t1_34
      have t2_40 := cellL hbw36 t2_35
      clear t2_35
      refine ⟨⟨cellL hs37.bel hc0, cellL hs37.bel hc1, t0_38, t1_39, t2_40⟩, ?_⟩
      (repeat (first | (apply t4_skip rfl (by rfl); try simp only [Act.put, List.setIfInBounds_toArray, List.set_cons_zero, List.set_cons_succ]) | (apply t4_float rfl (by rfl); (· (intro w' hS; go_simp <;> with_reducible rfl)); (try simp only [Act.put, List.setIfInBounds_toArray, List.set_cons_zero, List.set_cons_succ]))))
      have k0_0 := hs37.cellAt 0 rfl 0 rfl
      have k0_1 := hs37.cellAt 0 rfl 1 rfl
      have hc0_ := cellL hs37.bel hc0
      have hc1_ := cellL hs37.bel hc1
      refine t4_nil (NoPanic.normal ?_)
      go_upto_region 6 with fail
      refine wp_region_noPanic (wp_region_tree4 (fun w' => w'.cell? ⟨w27.heap.size, 0, none⟩ = some (.int .i64 (valOf size ((2 : Int), tb) [a, b])) ∧ w'.cell? ⟨w27.heap.size, 1, none⟩ = some (.int .i64 c) ∧ w'.cell? ⟨pb, po, none⟩ = some (.int .i64 2) ∧ w'.cell? ⟨pb, po + 1, none⟩ = some (.slice at0 tb.length ct0) ∧ w'.cell? ⟨b1, o1, none⟩ = some (.int .i64 a) ∧ w'.cell? ⟨b1, o1 + 1, none⟩ = some (.int .i64 b) ∧ w'.cell? ⟨b1, o1 + 2, none⟩ = some (.int .i64 c)) (.float 0 (.float 1 (.float 2 (.float 3 (.float 4 (.float 5 (.float 6 (.float 7 (.float 8 (.hard 9 (.hard 10 (.hard 11 (.float 12 .nil))))))))))))) (by kernel_rfl) (by kernel_rfl) (by kernel_rfl) rfl ?_ (fun _ _ _ _ _ h => h) ?_)
      · exact ⟨(hs37.drew).cellAt 0 rfl 0 rfl, (hs37.drew).cellAt 0 rfl 1 rfl, cellL (hs37.drew).bel hc0, cellL (hs37.drew).bel hc1, cellL (belowD _) t0_38, cellL (belowD _) t1_39, cellL (belowD _) t2_40⟩
      have hs41 := hs37.drew
      have t0_42 := cellL (belowD _) t0_38
      clear t0_38
      have t1_43 := cellL (belowD _) t1_39
      clear t1_39
      have t2_44 := cellL (belowD _) t2_40
      clear t2_40
      clear k0_0 k0_1 hc0_ hc1_
      have hz_wd45 : w36.heap.size ≤ (w36.drew).heap.size := by simp
      generalize hgen_wd45 : w36.drew = wd45 at *
      have HG_wd45 := Lib.hid hgen_wd45
      clear hgen_wd45
      (repeat (first | (apply t4_skip rfl (by rfl); try simp only [Act.put, List.setIfInBounds_toArray, List.set_cons_zero, List.set_cons_succ]) | (apply t4_float rfl (by rfl); (· (intro w' hS; go_simp <;> with_reducible rfl)); (try simp only [Act.put, List.setIfInBounds_toArray, List.set_cons_zero, List.set_cons_succ]))))
      refine t4_hard rfl (by rfl) (fun K hK => ?_)
      go_wp2_with (go_at_call 97; refine (l02Value_c size ((2 : Int), tb) [b, c] pb po _ _ _ _ (Rd.mono HF.out hs41.bel) (cellL hs41.bel hc1) (rd_pairI (by omega) (by have := HCM.out; omega) HIB.out HIC.out t1_43 (by simpa using t2_44)) HOK.out rfl (HV.out b c hB hC)).mono ?_; rintro e w46 ⟨rfl, hbw46⟩)
      have hz_w46 : wd45.heap.size ≤ w46.heap.size := by have h9 := hbw46.size; (try simp at h9); omega
      have hs47 := hs41.step hbw46
      have t0_48 := cellL hbw46 t0_42
      clear t0_42
      have t1_49 := cellL hbw46 t1_43
      clear t1_43
      have t2_50 := cellL hbw46 t2_44
      clear t2_44
      refine ⟨⟨hs47.cellAt 0 rfl 0 rfl, hs47.cellAt 0 rfl 1 rfl, cellL hs47.bel hc0, cellL hs47.bel hc1, t0_48, t1_49, t2_50⟩, ?_⟩
      (repeat (first | (apply t4_skip rfl (by rfl); try simp only [Act.put, List.setIfInBounds_toArray, List.set_cons_zero, List.set_cons_succ]) | (apply t4_float rfl (by rfl); (· (intro w' hS; go_simp <;> with_reducible rfl)); (try simp only [Act.put, List.setIfInBounds_toArray, List.set_cons_zero, List.set_cons_succ]))))
      refine t4_hard rfl (by rfl) (fun K hK => ?_)
      go_wp2_with fail
      have hs51 := hs47.alloc #[.int .i64 a, .int .i64 (valOf size ((2 : Int), tb) [b, c])] 2 (n := w46.heap.size) (by simp)
      have t0_52 := cellL (belowA _ (.cells #[.int .i64 a, .int .i64 (valOf size ((2 : Int), tb) [b, c])] 2)) t0_48
      clear t0_48
      have t1_53 := cellL (belowA _ (.cells #[.int .i64 a, .int .i64 (valOf size ((2 : Int), tb) [b, c])] 2)) t1_49
      clear t1_49
      have t2_54 := cellL (belowA _ (.cells #[.int .i64 a, .int .i64 (valOf size ((2 : Int), tb) [b, c])] 2)) t2_50
      clear t2_50
      refine ⟨⟨hs51.cellAt 0 rfl 0 rfl, hs51.cellAt 0 rfl 1 rfl, cellL hs51.bel hc0, cellL hs51.bel hc1, t0_52, t1_53, t2_54⟩, ?_⟩
      (repeat (first | (apply t4_skip rfl (by rfl); try simp only [Act.put, List.setIfInBounds_toArray, List.set_cons_zero, List.set_cons_succ]) | (apply t4_float rfl (by rfl); (· (intro w' hS; go_simp <;> with_reducible rfl)); (try simp only [Act.put, List.setIfInBounds_toArray, List.set_cons_zero, List.set_cons_succ]))))
      refine t4_hard rfl (by rfl) (fun K hK => ?_)
      go_wp2_with (go_at_call 97; refine (l02Value_c size ((2 : Int), tb) [a, valOf size ((2 : Int), tb) [b, c]] pb po _ _ _ _ (Rd.mono HF.out hs51.bel) (cellL hs51.bel hc1) (rd_lit2 HIA.out HIR.out (hs51.cellAt 1 rfl 0 rfl) (hs51.cellAt 1 rfl 1 rfl)) HOK.out rfl (HV.out a _ hA HRV.out)).mono ?_; rintro e w55 ⟨rfl, hbw55⟩)
      have hz_w55 : w46.heap.size + 1 ≤ w55.heap.size := by have h9 := hbw55.size; (try simp at h9); omega
      have hs56 := hs51.step hbw55
      have t0_57 := cellL hbw55 t0_52
      clear t0_52
      have t1_58 := cellL hbw55 t1_53
      clear t1_53
      have t2_59 := cellL hbw55 t2_54
      clear t2_54
      refine ⟨⟨hs56.cellAt 0 rfl 0 rfl, hs56.cellAt 0 rfl 1 rfl, cellL hs56.bel hc0, cellL hs56.bel hc1, t0_57, t1_58, t2_59⟩, ?_⟩
      (repeat (first | (apply t4_skip rfl (by rfl); try simp only [Act.put, List.setIfInBounds_toArray, List.set_cons_zero, List.set_cons_succ]) | (apply t4_float rfl (by rfl); (· (intro w' hS; go_simp <;> with_reducible rfl)); (try simp only [Act.put, List.setIfInBounds_toArray, List.set_cons_zero, List.set_cons_succ]))))
      have k0_0 := hs56.cellAt 0 rfl 0 rfl
      have k0_1 := hs56.cellAt 0 rfl 1 rfl
      have k1_0 := hs56.cellAt 1 rfl 0 rfl
      have k1_1 := hs56.cellAt 1 rfl 1 rfl
      have hc0_ := cellL hs56.bel hc0
      have hc1_ := cellL hs56.bel hc1
      refine t4_nil (NoPanic.normal ?_)
      have HB9 := Lib.hid hs56.bel
      by_cases hv : valOf size ((2 : Int), tb) [valOf size ((2 : Int), tb) [a, b], c] = valOf size ((2 : Int), tb) [a, valOf size ((2 : Int), tb) [b, c]]
      · have hne : (valOf size ((2 : Int), tb) [valOf size ((2 : Int), tb) [a, b], c] != valOf size ((2 : Int), tb) [a, valOf size ((2 : Int), tb) [b, c]]) = false := by rw [hv]; simp
        have H9 := Lib.hid (HNX.out hv)
        clear hv
        go_wp2_with fail
        go_roundw
        case rel => exact ⟨n + 1, by omega, by go_num, HB9.out, H9.out⟩
        case measure => simp [intOf]; omega
      · have hne : (valOf size ((2 : Int), tb) [valOf size ((2 : Int), tb) [a, b], c] != valOf size ((2 : Int), tb) [a, valOf size ((2 : Int), tb) [b, c]]) = true := by rw [bne_iff_ne]; exact hv
        have H9 := Lib.hid (HQ2.out hv)
        clear hv
        go_wp2_with fail
        go_ret
        exact ⟨ret_bool H9.out.symm, HB9.out⟩
    · obtain rfl : n = N := by omega
      have hnl : ¬ ((n : Int) < n) := by omega
      have H9 := Lib.hid (HQY.out hr.out)
      have HBF := Lib.hid hs2.bel
      go_wp2_with fail
      go_ret
      exact ⟨ret_bool H9.out.symm, HBF.out⟩
set_option maxRecDepth 100000 in
set_option maxHeartbeats 4000000 in
theorem l02KindS_c (size : Int) (f : OpT) (pb po : Nat) (v0 v1 : Value) (w : World) (hf : Rd w [v0, v1] f) (hc0 : w.cell? ⟨pb, po, none⟩ = some v0) (hc1 : w.cell? ⟨pb, po + 1, none⟩ = some v1) (hok : opOk size f = true) :
    Calls Tryz.prog 33 #[.int .i64 size, .pointer (some ⟨pb, po, none⟩), .int .i64 6] w fun e w' => e = .returned (.bool (semiB size f)) ∧ Below w.heap.size w w' := by
  obtain ⟨ar, tb⟩ := f
  have HF := Lib.hid hf
  have HOK := Lib.hid hok
  have zf := rd_cons rfl hf
  obtain ⟨rfl, _⟩ := rd_i1 zf.1
  obtain ⟨at0, ct0, rfl, _⟩ := rd_list zf.2
  clear hf zf hok
  have hc0_ := cellL (St.start w).bel hc0
  clear hc0_
  have hc0_ := cellL (St.start w).bel hc0
  have hc1_ := cellL (St.start w).bel hc1
  go_enter Tryz.func33, Tryz.ntmps33
  by_cases h2 : ar = 2
  · have hb2 : (ar == 2) = true := by simp [h2]
    have H2 := Lib.hid h2
    have H1 := Lib.hid (show semiB size (ar, tb) = (symB size (ar, tb) && idemB size (ar, tb) && assocB size (ar, tb)) by
      unfold semiB
      rw [show decide ((ar, tb).1 = 2) = true from decide_eq_true h2, Bool.true_and, Bool.and_comm (idemB size (ar, tb))])
    clear h2
    go_wp2_with fail
    refine (l02Symmetric_c size (ar, tb) pb po _ _ _ (Rd.mono HF.out (St.start w).bel) (cellL (St.start w).bel hc0) (cellL (St.start w).bel hc1) HOK.out H2.out).mono ?_
    rintro e w60 ⟨rfl, hbw60⟩
    have hz_w60 : w.heap.size ≤ w60.heap.size := by have h9 := hbw60.size; (try simp at h9); omega
    have hs61 := (St.start w).step hbw60
    clear hc0_ hc1_
    have hc0_ := cellL hs61.bel hc0
    have hc1_ := cellL hs61.bel hc1
    cases h3 : symB size (ar, tb) with
    | false =>
      have H9 := Lib.hid (show semiB size (ar, tb) = false by rw [H1.out, h3]; rfl)
      clear h3
      go_wp2_with fail
      go_ret
      exact ⟨ret_bool H9.out.symm, hs61.bel⟩
    | true =>
      have H3 := Lib.hid h3
      clear h3
      go_wp2_with fail
      refine (l02Idempotent_c size (ar, tb) pb po _ _ _ (Rd.mono HF.out hs61.bel) (cellL hs61.bel hc0) (cellL hs61.bel hc1) HOK.out).mono ?_
      rintro e w62 ⟨rfl, hbw62⟩
      have hz_w62 : w60.heap.size ≤ w62.heap.size := by have h9 := hbw62.size; (try simp at h9); omega
      have hs63 := hs61.step hbw62
      clear hc0_ hc1_
      have hc0_ := cellL hs63.bel hc0
      have hc1_ := cellL hs63.bel hc1
      cases h4 : idemB size (ar, tb) with
      | false =>
        have H9 := Lib.hid (show semiB size (ar, tb) = false by rw [H1.out, H3.out, h4]; rfl)
        clear h4
        go_wp2_with fail
        go_ret
        exact ⟨ret_bool H9.out.symm, hs63.bel⟩
      | true =>
        have H9 := Lib.hid (show semiB size (ar, tb) = assocB size (ar, tb) by rw [H1.out, H3.out, h4]; rfl)
        clear h4
        go_wp2_with fail
        refine (l02Associative_c size (ar, tb) pb po _ _ _ (Rd.mono HF.out hs63.bel) (cellL hs63.bel hc0) (cellL hs63.bel hc1) HOK.out H2.out).mono ?_
        rintro e w64 ⟨rfl, hbw64⟩
        have hz_w64 : w62.heap.size ≤ w64.heap.size := by have h9 := hbw64.size; (try simp at h9); omega
        have hs65 := hs63.step hbw64
        clear hc0_ hc1_
        have hc0_ := cellL hs65.bel hc0
        have hc1_ := cellL hs65.bel hc1
        go_wp2_with fail
        go_ret
        exact ⟨ret_bool H9.out.symm, hs65.bel⟩
  · have hb2 : (ar == 2) = false := by simp [h2]
    have H9 := Lib.hid (show semiB size (ar, tb) = false by
      unfold semiB
      rw [show decide ((ar, tb).1 = 2) = false from decide_eq_false h2, Bool.false_and, Bool.and_false, Bool.false_and])
    clear h2
    go_wp2_with fail
    go_ret
    exact ⟨ret_bool H9.out.symm, (St.start w).bel⟩

end Go.Proofs.YtllenfkbfeanmaaGreat

