/-
  CONTRACTS: all answers of a system, the program's side.
-/
import Derived.Test.YthceklaoikeokaaGreatDoorAns
import Derived.Test.YthceklaoikeokaaGreatDoorRowsB
import Derived.Test.YthceklaoikeokaaGreatDoorSolB
namespace Go.Proofs.YthceklaoikeokaaGreatDoor
open Go.RowKit Go.Shelf Go.IntWalk
open Rep (Rd Own sz)
set_option linter.unusedSimpArgs false
set_option linter.unusedVariables false

theorem pow12 (p U : Nat) (hp : p ≤ 3) (hu : U ≤ 12) : p ^ U ≤ 531441 :=
  Nat.le_trans (Nat.pow_le_pow_left hp U) (Nat.le_trans (Nat.pow_le_pow_right (by omega) hu) (by decide))
theorem valsOk_digs (p U : Nat) (n : Int) (hp : 0 < p) : valsOk p (digs p U n) U = true := by
  unfold valsOk
  rw [digs_length, decide_eq_true rfl, Bool.true_and, List.all_eq_true]
  intro a ha
  have := digs_mem (p : Int) (by omega) U n a ha
  exact inB_mk ⟨this.1, by omega⟩
set_option maxHeartbeats 400000 in
theorem answersOf1_by (p u : Int) (vs : List Int) (b1 b2 : Nat) (v2 : Value) (w : World) (l : List Eqn) (hp0 : 1 ≤ p) (hp : p ≤ 3) (hu : u ≤ 1000) (he : ∀ e, e ∈ l → eqnOk p u e = true) (ho : valsOk p vs u = true) (hv : Rd w [v2] vs) (hc0 : w.cell? ⟨b1, 0, none⟩ = some (.int .i64 p)) (hc1 : w.cell? ⟨b2, 0, none⟩ = some v2) :
    PredE 73 #[.pointer (some ⟨b1, 0, none⟩), .pointer (some ⟨b2, 0, none⟩)] w l (fun e => !holdsE p vs e) := by
  intro W x v0 v1 hb hx hm
  have hc0' := cellL hb hc0
  have hc1' := cellL hb hc1
  obtain ⟨a', c', rfl, _⟩ := rd_list hv
  have HV := Lib.hid (Rd.mono hv hb)
  have HE := Lib.hid (he x hm)
  have HO := Lib.hid ho
  show Calls Tryz.prog 73 #[_, .pointer (some ⟨b1, 0, none⟩), .pointer (some ⟨b2, 0, none⟩)] W _
  have HX := Lib.hid hx
  have z := rd_cons rfl hx
  obtain ⟨a, c, rfl, _⟩ := rd_list z.1
  obtain ⟨rfl, _⟩ := rd_i1 z.2
  clear hx z hv he ho
  have hs := (St.start W).alloc #[.slice a x.1.length c, .int .i64 x.2] 73 rfl
  have hd0 := cellL hs.bel hc0'
  have hd1 := cellL hs.bel hc1'
  go_enter Tryz.func73, Tryz.ntmps73
  go_wp2_with fail
  refine (isTrue_c p u x vs _ _ _ _ (Rd.mono HX.out hs.bel) (Rd.mono HV.out hs.bel) hp0 hp hu HE.out HO.out).mono ?_
  rintro e w1 ⟨rfl, hb1⟩
  go_wp2_with fail
  go_ret
  exact ⟨rfl, (hs.step hb1).bel⟩
set_option maxRecDepth 100000 in
set_option maxHeartbeats 8000000 in
theorem answersOf_c (x : Sys) (v0 v1 v2 : Value) (w : World) (hx : Rd w [v0, v1, v2] x) (hok : validS x = true) :
    Calls Tryz.prog 42 #[.agg #[v0, v1, v2]] w fun e w' => ∃ v, e = .returned v ∧ Fresh w.heap.size w' [v] (answersS x) ∧ Below w.heap.size w w' := by
  obtain ⟨p, u, l⟩ := x
  have HX := Lib.hid hx
  obtain ⟨hp2, hu2, hl2, he⟩ := validS_get hok
  have z := rd_cons rfl hx
  obtain ⟨rfl, _⟩ := rd_i1 z.1
  have z2 := rd_cons rfl z.2
  obtain ⟨rfl, _⟩ := rd_i1 z2.1
  have HL := Lib.hid z2.2
  obtain ⟨a, c, rfl, _⟩ := rd_list HL.out
  obtain ⟨P, hP⟩ : ∃ P : Nat, p = P := ⟨p.toNat, by omega⟩
  obtain ⟨U, hU⟩ : ∃ U : Nat, u = U := ⟨u.toNat, by omega⟩
  subst hP hU
  have hP2 : 2 ≤ P := by omega
  have hP3 : P ≤ 3 := by omega
  have hU12 : U ≤ 12 := by omega
  have HE := Lib.hid he
  have HA := Lib.hid (show answersS ((P : Int), (U : Int), l) = ansTo P U l (P ^ U) by unfold answersS; simp)
  have HPW := Lib.hid (show ((P : Int)) ^ U = ((P ^ U : Nat) : Int) by simp)
  have hPB := pow12 P U hP3 hU12
  rw [HA.out]
  clear hx z z2 hok he hp2
  generalize hPN : P ^ U = PN at *
  clear hPN HA
  have eg : ∀ args w, (callFunc 73 args).run Tryz.prog w = .ok (.enter 73 args) w := enters_of Tryz.func73 (by kernel_rfl) rfl
  have hs1 := (St.start w).alloc #[.int .i64 P, .int .i64 U, .slice a l.length c] 26 (n := w.heap.size) (by simp)
  have k0_0 := hs1.cellAt 0 rfl 0 rfl
  have k0_1 := hs1.cellAt 0 rfl 1 rfl
  have k0_2 := hs1.cellAt 0 rfl 2 rfl
  have HM := Lib.hid (accP_made (α := List Int) (w.alloc (.cells #[.int .i64 P, .int .i64 U, .slice a l.length c] 26)) 28)
  have HS1 := Lib.hid ((hs1).step (belowA _ (.cells #[] 28)))
  go_enter Tryz.func42, Tryz.ntmps42
  go_wp2_with fail
  refine (power_c (P : Int) (U : Int) _ (by omega) (by omega) (by omega) (by rw [Int.toNat_natCast, HPW.out]; omega)).mono ?_
  rintro e w1 ⟨rfl, rfl⟩
  rw [Int.toNat_natCast, HPW.out]
  go_wp2_with fail
  go_loopw [3, 12] (fun o i wl => ∃ (k : Nat) (ao : Option Addr) (co : Nat), k ≤ PN ∧ i = .int .i64 k ∧ o = .slice ao (ansTo P U l k).length co ∧ Hid (St w (w.heap.size + 1) wl [(w.heap.size, #[.int .i64 P, .int .i64 U, .slice a l.length c], 26)]) ∧ Hid (AccP (fun z => w.heap.size + 1 ≤ z ∧ z < wl.heap.size) 28 wl (.slice ao (ansTo P U l k).length co) (ansTo P U l k))) (fun _ i _ => PN - (intOf i).toNat)
  case atStart =>
    refine ⟨0, _, _, Nat.zero_le _, rfl, rfl, HS1.out, ?_⟩
    have h := HM.out
    simp only [ansTo, List.range_zero, List.map_nil, List.filter_nil]
    exact AccP.wk (by simpa using h) (fun k hk => by simp at hk ⊢; omega)
  case round =>
    clear HM HS1 hs1 k0_0 k0_1 k0_2
    obtain ⟨k, ao, co, hk, rfl, rfl, hst, hac⟩ := hrel
    have hNk := ansTo_length P U l k
    have hszr : w.heap.size + 1 ≤ wr.heap.size := hst.out.hi
    have HACC := hac
    have k0_0 := hst.out.cellAt 0 rfl 0 rfl
    have k0_1 := hst.out.cellAt 0 rfl 1 rfl
    have k0_2 := hst.out.cellAt 0 rfl 2 rfl
    by_cases hlt : k < PN
    · have HSU := Lib.hid (ansTo_succ P U l k)
      go_wp2_with fail
      refine (listOf_c (P : Int) (U : Int) (k : Int) _ (by omega) (by omega) (by omega) (by omega) (by omega) (by omega)).mono ?_
      rintro e w2 ⟨vv, rfl, fr, hbw2⟩
      have hz_w2 : wr.heap.size ≤ w2.heap.size := by have h9 := hbw2.size; (try simp at h9); omega
      have hs3 := hst.out.step hbw2
      have HACC_4 := Lib.hid (AccP.mono HACC.out hbw2)
      clear HACC
      clear k0_0 k0_1 k0_2
      have k0_0 := hs3.cellAt 0 rfl 0 rfl
      have k0_1 := hs3.cellAt 0 rfl 1 rfl
      have k0_2 := hs3.cellAt 0 rfl 2 rfl
      rw [Int.toNat_natCast] at fr
      obtain ⟨al, cl, el, _⟩ := rd_list fr.rd
      rw [digs_length] at el
      subst el
      have HV := Lib.hid (Fresh.ip fr)
      clear fr
      have hvo := Lib.hid (valsOk_digs P U (k : Int) (by omega))
      have hs5 := hs3.alloc #[.slice al U cl] 28 (n := w2.heap.size) (by simp)
      have HACC_6 := Lib.hid (AccP.mono HACC_4.out (belowA _ (.cells #[.slice al U cl] 28)))
      clear HACC_4
      have HV_7 := Lib.hid (Ip.mono HV.out (belowA _ (.cells #[.slice al U cl] 28)))
      clear HV
      clear k0_0 k0_1 k0_2
      have k0_0 := hs5.cellAt 0 rfl 0 rfl
      have k0_1 := hs5.cellAt 0 rfl 1 rfl
      have k0_2 := hs5.cellAt 0 rfl 2 rfl
      have k1_0 := hs5.cellAt 1 rfl 0 rfl
      go_wp2_with fail
      refine (containsEqns_c l _ 73 _ _ _ (Rd.mono HL.out hs5.bel) eg (answersOf1_by (P : Int) (U : Int) (digs P U k) _ _ _ _ l (by omega) (by omega) (by omega) HE.out hvo.out HV_7.out.rd (hs5.cellAt 0 rfl 0 rfl) (hs5.cellAt 1 rfl 0 rfl))).mono ?_
      rintro e w5 ⟨rfl, hb5⟩
      have hz_w5 : w2.heap.size + 1 ≤ w5.heap.size := by have h9 := hb5.size; (try simp at h9); omega
      have hs8 := hs5.step hb5
      have HACC_9 := Lib.hid (AccP.mono HACC_6.out hb5)
      clear HACC_6
      have HV_10 := Lib.hid (Ip.mono HV_7.out hb5)
      clear HV_7
      clear k0_0 k0_1 k0_2 k1_0
      have k0_0 := hs8.cellAt 0 rfl 0 rfl
      have k0_1 := hs8.cellAt 0 rfl 1 rfl
      have k0_2 := hs8.cellAt 0 rfl 2 rfl
      have k1_0 := hs8.cellAt 1 rfl 0 rfl
      have hall := all_of_any l (holdsE (P : Int) (digs P U k))
      cases hq : l.any (fun e => !holdsE (P : Int) (digs P U k) e) with
      | true =>
        rw [hq] at hall
        have HSU2 := Lib.hid (show ansTo P U l (k + 1) = ansTo P U l k by rw [HSU.out, ← hall]; simp)
        clear hq hall
        go_wp2_with fail
        go_roundw
        case rel =>
          refine ⟨k + 1, ao, co, hlt, by go_num, by rw [HSU2.out], hs8.low (by omega) (by omega) (fun x hx => by simp at hx; subst hx; simp), ?_⟩
          rw [HSU2.out]
          exact HACC_9.out.wk (fun z hz => ⟨hz.1, by omega⟩)
        case measure => simp [intOf]; omega
      | false =>
        rw [hq] at hall
        have HSU2 := Lib.hid (show ansTo P U l (k + 1) = ansTo P U l k ++ [digs P U k] by rw [HSU.out, ← hall]; simp)
        clear hq hall
        go_wp2_with (at_builtin; refine wpList_append_accP _ rfl _ _ _ rfl E_lists rfl (AccP.mono HACC_9.out (belowA _ _)) (Ip.mono HV_10.out (belowA _ _)) (fun z h1 h2 => by omega) ⟨w5.heap.size, 0, none⟩ 1 rfl (news1 (cell_at_block (heap_alloc_new _ _))) (by omega) ?_; intro a7 c7 w7 hA7 hB7)
        have hst7 := (hs8.step (belowA w5 (.cells #[.slice al U cl] 28))).low (B' := w.heap.size + 1) (bx' := [(w.heap.size, #[.int .i64 P, .int .i64 U, .slice a l.length c], 26)]) (by omega) (by omega) (fun x hx => by simp at hx; subst hx; simp)
        have hst8 := Lib.hid (hst7.stepB (hB7.below (B := w.heap.size + 1) (fun z hz => hz.1) hst7.hi))
        have HA8 := Lib.hid (AccP.wk hA7.tight (C := fun z => w.heap.size + 1 ≤ z ∧ z < w7.heap.size) (fun z hz => ⟨by
          rcases hz.1 with h | h | h
          · exact h.1
          · omega
          · simp at h; omega, hz.2⟩))
        clear hA7 hB7 hst7
        go_wp2_with fail
        go_roundw
        case rel =>
          refine ⟨k + 1, a7, c7, hlt, by go_num, by rw [HSU2.out, List.length_append]; rfl, hst8.out, ?_⟩
          rw [HSU2.out, List.length_append]
          exact HA8.out
        case measure => simp [intOf]; omega
    · obtain rfl : k = PN := by omega
      go_wp2_with fail
      go_ret
      exact ⟨_, rfl, hac.out.ip.fresh (fun z hz => by omega), hst.out.bel⟩

end Go.Proofs.YthceklaoikeokaaGreatDoor
