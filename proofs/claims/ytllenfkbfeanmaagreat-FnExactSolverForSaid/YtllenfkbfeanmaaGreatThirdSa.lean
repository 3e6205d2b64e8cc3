/-
  CONTRACTS: operations of three places, the reference's side.
-/
import Derived.Test.YtllenfkbfeanmaaGreatTernPSa
import Derived.Test.YtllenfkbfeanmaaGreatKindSSa
namespace Go.Proofs.YtllenfkbfeanmaaGreat
open Go.RowKit Go.Shelf Go.IntWalk
open Rep (Rd Own sz)
set_option linter.unusedSimpArgs false
set_option linter.unusedVariables false

theorem rd_lit3 {w : World} {b : Nat} {x y z : Int} (hx : I64 x) (hy : I64 y) (hz : I64 z) (h0 : w.cell? ⟨b, 0, none⟩ = some (.int .i64 x)) (h1 : w.cell? ⟨b, 1, none⟩ = some (.int .i64 y)) (h2 : w.cell? ⟨b, 2, none⟩ = some (.int .i64 z)) : Rd w [.slice (some ⟨b, 0, none⟩) 3 3] [x, y, z] := by
  refine ⟨_, _, rfl, by simp, by decide, fun i hi => ?_⟩
  match i, hi with
  | 0, _ =>
    refine ⟨b, 0, [.int .i64 x], rfl, ⟨rfl, hx⟩, fun j hj => ?_⟩
    obtain rfl : j = 0 := by simp at hj; omega
    simpa using h0
  | 1, _ =>
    refine ⟨b, 0, [.int .i64 y], rfl, ⟨rfl, hy⟩, fun j hj => ?_⟩
    obtain rfl : j = 0 := by simp at hj; omega
    simpa [sz] using h1
  | 2, _ =>
    refine ⟨b, 0, [.int .i64 z], rfl, ⟨rfl, hz⟩, fun j hj => ?_⟩
    obtain rfl : j = 0 := by simp at hj; omega
    simpa [sz] using h2
theorem third_no {size : Int} {f : OpT} {mid odd : Bool} {x y : Nat} (hx : x < size.toNat) (hy : y < size.toNat) (h : thirdQ size f mid odd x y = false) : thirdB size f mid odd = false := by
  unfold thirdB
  rw [show (List.range size.toNat).all (fun (x : Nat) => (List.range size.toNat).all (fun (y : Nat) => thirdQ size f mid odd x y)) = false from ?_, Bool.and_false]
  rw [List.all_eq_false]
  refine ⟨x, List.mem_range.2 hx, ?_⟩
  rw [show (List.range size.toNat).all (fun (y : Nat) => thirdQ size f mid odd x y) = false from List.all_eq_false.2 ⟨y, List.mem_range.2 hy, by rw [h]; decide⟩]
  decide
theorem third_yes {size : Int} {f : OpT} {mid odd : Bool} (h3 : f.1 = 3) (h : ∀ x y : Nat, x < size.toNat → y < size.toNat → thirdQ size f mid odd x y = true) : thirdB size f mid odd = true := by
  unfold thirdB
  rw [decide_eq_true h3, Bool.true_and, List.all_eq_true]
  intro x hx
  rw [List.all_eq_true]
  intro y hy
  exact h x y (List.mem_range.1 hx) (List.mem_range.1 hy)
set_option maxRecDepth 100000 in
set_option maxHeartbeats 8000000 in
theorem l02Thirds_c (size : Int) (f : OpT) (mid odd : Bool) (pb po : Nat) (v0 v1 : Value) (w : World) (hf : Rd w [v0, v1] f) (hc0 : w.cell? ⟨pb, po, none⟩ = some v0) (hc1 : w.cell? ⟨pb, po + 1, none⟩ = some v1) (hok : opOk size f = true) :
    Calls Tryz.prog 86 #[.int .i64 size, .pointer (some ⟨pb, po, none⟩), .bool mid, .bool odd] w fun e w' => e = .returned (.bool (thirdB size f mid odd)) ∧ Below w.heap.size w w' := by
  have hs := (opOk_get hok).1
  obtain ⟨ar, tb⟩ := f
  have HF := Lib.hid hf
  have HOK := Lib.hid hok
  have zf := rd_cons rfl hf
  obtain ⟨rfl, _⟩ := rd_i1 zf.1
  obtain ⟨at0, ct0, rfl, _⟩ := rd_list zf.2
  clear hf zf hok
  have hc0_ := cellL (St.start w).bel hc0
  clear hc0_
  have hc0_ := cellL (St.start w).bel hc0
  have hc1_ := cellL (St.start w).bel hc1
  go_enter Tryz.func86, Tryz.ntmps86
  by_cases h3 : ar = 3
  · have hb3 : (ar != 3) = false := by simp [h3]
    have HL3 := Lib.hid (show ((3 : Nat) : Int) = ar from h3.symm)
    have HNO := Lib.hid (fun (x y : Nat) hx hy h => third_no (size := size) (f := (ar, tb)) (mid := mid) (odd := odd) (x := x) (y := y) hx hy h)
    have HYES := Lib.hid (fun h => third_yes (size := size) (f := (ar, tb)) (mid := mid) (odd := odd) h3 h)
    have HV := Lib.hid (fun (x z y : Int) (hx : 0 ≤ x ∧ x ≤ size - 1) (hz : 0 ≤ z ∧ z ≤ size - 1) (hy : 0 ≤ y ∧ y ≤ size - 1) => show ∀ e, e ∈ [x, z, y] → 0 ≤ e ∧ e ≤ size - 1 from fun e he => by simp at he; rcases he with rfl | rfl | rfl <;> assumption)
    clear h3
    go_wp2_with fail
    go_loopw [9] (fun xv wl => ∃ k : Nat, k ≤ size.toNat ∧ xv = .int .i64 k ∧ Hid (Below w.heap.size w wl) ∧ Hid (∀ x y : Nat, x < k → y < size.toNat → thirdQ size (ar, tb) mid odd x y = true)) (fun xv _ => size.toNat - (intOf xv).toNat)
    case atStart => exact ⟨0, Nat.zero_le _, rfl, Below.refl _ _, fun x y hx => absurd hx (Nat.not_lt_zero _)⟩
    case round =>
      obtain ⟨k, hk, rfl, hbl, hr⟩ := hrel
      by_cases hlt : k < size.toNat
      · have hkI : (k : Int) < size := by omega
        go_wp2_with fail
        go_loopw [10] (fun yv wl => ∃ j : Nat, j ≤ size.toNat ∧ yv = .int .i64 j ∧ Hid (Below w.heap.size w wl) ∧ Hid (∀ y : Nat, y < j → thirdQ size (ar, tb) mid odd k y = true)) (fun yv _ => size.toNat - (intOf yv).toNat)
        case atStart => exact ⟨0, Nat.zero_le _, rfl, hbl.out, fun y hy => absurd hy (Nat.not_lt_zero _)⟩
        case round =>
          clear hbl
          obtain ⟨j, hj, rfl, hbl, hr2⟩ := hrel
          have hs2 := (St.start w).step hbl.out
          have hc0_ := cellL hs2.bel hc0
          have hc1_ := cellL hs2.bel hc1
          by_cases hjlt : j < size.toNat
          · have hjI : (j : Int) < size := by omega
            have HNO2 := Lib.hid (HNO.out k j hlt hjlt)
            have HNX := Lib.hid (show thirdQ size (ar, tb) mid odd k j = true → ∀ y : Nat, y < j + 1 → thirdQ size (ar, tb) mid odd k y = true from fun h y hy => by
              rcases Nat.lt_or_ge y j with h1 | h1
              · exact hr2.out y h1
              · obtain rfl : y = j := by omega
                exact h)
            have hX : 0 ≤ (k : Int) ∧ (k : Int) ≤ size - 1 := by omega
            have hY : 0 ≤ (j : Int) ∧ (j : Int) ≤ size - 1 := by omega
            have HIX := Lib.hid (show I64 (k : Int) from i64_of _ (by omega) (by omega))
            have HIY := Lib.hid (show I64 (j : Int) from i64_of _ (by omega) (by omega))
            obtain ⟨D, hD⟩ : ∃ D : Int, D = if odd then (j : Int) else (k : Int) := ⟨_, rfl⟩
            have HQ := Lib.hid (show thirdQ size (ar, tb) mid odd k j = ((decide (valOf size (ar, tb) [(k : Int), k, j] = D) && decide (valOf size (ar, tb) [(j : Int), k, k] = D)) && (!mid || decide (valOf size (ar, tb) [(k : Int), j, k] = D))) by rw [hD]; rfl)
            obtain ⟨v1, hv1⟩ : ∃ v1, v1 = valOf size (ar, tb) [(k : Int), k, j] := ⟨_, rfl⟩
            obtain ⟨v2, hv2⟩ : ∃ v2, v2 = valOf size (ar, tb) [(j : Int), k, k] := ⟨_, rfl⟩
            obtain ⟨v3, hv3⟩ : ∃ v3, v3 = valOf size (ar, tb) [(k : Int), j, k] := ⟨_, rfl⟩
            have HC1 := Lib.hid (fun (W : World) (a : Value) (h : Rd W [.int .i64 ar, .slice at0 tb.length ct0] ((ar, tb) : OpT)) (h1 : W.cell? ⟨pb, po + 1, none⟩ = some (.slice at0 tb.length ct0)) (h2 : Rd W [a] [(k : Int), k, j]) => show Calls Tryz.prog 97 #[.int .i64 size, .pointer (some ⟨pb, po, none⟩), a] W fun e w' => e = .returned (.int .i64 v1) ∧ Below W.heap.size W w' from by
              rw [hv1]; exact l02Value_c size (ar, tb) [(k : Int), k, j] pb po _ _ a W h h1 h2 HOK.out HL3.out (HV.out _ _ _ hX hX hY))
            have HC2 := Lib.hid (fun (W : World) (a : Value) (h : Rd W [.int .i64 ar, .slice at0 tb.length ct0] ((ar, tb) : OpT)) (h1 : W.cell? ⟨pb, po + 1, none⟩ = some (.slice at0 tb.length ct0)) (h2 : Rd W [a] [(j : Int), k, k]) => show Calls Tryz.prog 97 #[.int .i64 size, .pointer (some ⟨pb, po, none⟩), a] W fun e w' => e = .returned (.int .i64 v2) ∧ Below W.heap.size W w' from by
              rw [hv2]; exact l02Value_c size (ar, tb) [(j : Int), k, k] pb po _ _ a W h h1 h2 HOK.out HL3.out (HV.out _ _ _ hY hX hX))
            have HC3 := Lib.hid (fun (W : World) (a : Value) (h : Rd W [.int .i64 ar, .slice at0 tb.length ct0] ((ar, tb) : OpT)) (h1 : W.cell? ⟨pb, po + 1, none⟩ = some (.slice at0 tb.length ct0)) (h2 : Rd W [a] [(k : Int), j, k]) => show Calls Tryz.prog 97 #[.int .i64 size, .pointer (some ⟨pb, po, none⟩), a] W fun e w' => e = .returned (.int .i64 v3) ∧ Below W.heap.size W w' from by
              rw [hv3]; exact l02Value_c size (ar, tb) [(k : Int), j, k] pb po _ _ a W h h1 h2 HOK.out HL3.out (HV.out _ _ _ hX hY hX))
            rw [← hv1, ← hv2, ← hv3] at HQ
            clear hv1 hv2 hv3
            cases odd with
            | false =>
              obtain rfl : D = (k : Int) := hD
              have hs1 := hs2.alloc #[.int .i64 k, .int .i64 k, .int .i64 j] 2 (n := wr.heap.size) (by simp)
              clear hc0_ hc1_
              have k0_0 := hs1.cellAt 0 rfl 0 rfl
              have k0_1 := hs1.cellAt 0 rfl 1 rfl
              have k0_2 := hs1.cellAt 0 rfl 2 rfl
              have hc0_ := cellL hs1.bel hc0
              have hc1_ := cellL hs1.bel hc1
              go_wp2_with fail
              refine (HC1.out _ _ (Rd.mono HF.out hs1.bel) (cellL hs1.bel hc1) (rd_lit3 HIX.out HIX.out HIY.out (hs1.cellAt 0 rfl 0 rfl) (hs1.cellAt 0 rfl 1 rfl) (hs1.cellAt 0 rfl 2 rfl))).mono ?_
              rintro e w2 ⟨rfl, hbw2⟩
              have hz_w2 : wr.heap.size + 1 ≤ w2.heap.size := by have h9 := hbw2.size; (try simp at h9); omega
              have hs3 := hs1.step hbw2
              clear k0_0 k0_1 k0_2 hc0_ hc1_
              have k0_0 := hs3.cellAt 0 rfl 0 rfl
              have k0_1 := hs3.cellAt 0 rfl 1 rfl
              have k0_2 := hs3.cellAt 0 rfl 2 rfl
              have hc0_ := cellL hs3.bel hc0
              have hc1_ := cellL hs3.bel hc1
              by_cases q1 : v1 = (k : Int)
              · have q1b : (v1 != (k : Int)) = false := by simp [q1]
                have q1d : decide (v1 = (k : Int)) = true := decide_eq_true q1
                clear q1
                have hs4 := hs3.alloc #[.int .i64 j, .int .i64 k, .int .i64 k] 2 (n := w2.heap.size) (by simp)
                clear k0_0 k0_1 k0_2 hc0_ hc1_
                have k0_0 := hs4.cellAt 0 rfl 0 rfl
                have k0_1 := hs4.cellAt 0 rfl 1 rfl
                have k0_2 := hs4.cellAt 0 rfl 2 rfl
                have k1_0 := hs4.cellAt 1 rfl 0 rfl
                have k1_1 := hs4.cellAt 1 rfl 1 rfl
                have k1_2 := hs4.cellAt 1 rfl 2 rfl
                have hc0_ := cellL hs4.bel hc0
                have hc1_ := cellL hs4.bel hc1
                go_wp2_with fail
                refine (HC2.out _ _ (Rd.mono HF.out hs4.bel) (cellL hs4.bel hc1) (rd_lit3 HIY.out HIX.out HIX.out (hs4.cellAt 1 rfl 0 rfl) (hs4.cellAt 1 rfl 1 rfl) (hs4.cellAt 1 rfl 2 rfl))).mono ?_
                rintro e w5 ⟨rfl, hbw5⟩
                have hz_w5 : w2.heap.size + 1 ≤ w5.heap.size := by have h9 := hbw5.size; (try simp at h9); omega
                have hs6 := hs4.step hbw5
                clear k0_0 k0_1 k0_2 k1_0 k1_1 k1_2 hc0_ hc1_
                have k0_0 := hs6.cellAt 0 rfl 0 rfl
                have k0_1 := hs6.cellAt 0 rfl 1 rfl
                have k0_2 := hs6.cellAt 0 rfl 2 rfl
                have k1_0 := hs6.cellAt 1 rfl 0 rfl
                have k1_1 := hs6.cellAt 1 rfl 1 rfl
                have k1_2 := hs6.cellAt 1 rfl 2 rfl
                have hc0_ := cellL hs6.bel hc0
                have hc1_ := cellL hs6.bel hc1
                by_cases q2 : v2 = (k : Int)
                · have q2b : (v2 != (k : Int)) = false := by simp [q2]
                  have q2d : decide (v2 = (k : Int)) = true := decide_eq_true q2
                  clear q2
                  cases mid with
                  | false =>
                    have H9 := Lib.hid (HNX.out (by rw [HQ.out, q1d, q2d]; rfl))
                    clear HNO2 HNX HQ
                    go_wp2_with fail
                    go_roundw
                    case rel => exact ⟨j + 1, hjlt, by go_num, hs6.bel, H9.out⟩
                    case measure => simp [intOf]; omega
                  | true =>
                    have hs7 := hs6.alloc #[.int .i64 k, .int .i64 j, .int .i64 k] 2 (n := w5.heap.size) (by simp)
                    clear k0_0 k0_1 k0_2 k1_0 k1_1 k1_2 hc0_ hc1_
                    have k0_0 := hs7.cellAt 0 rfl 0 rfl
                    have k0_1 := hs7.cellAt 0 rfl 1 rfl
                    have k0_2 := hs7.cellAt 0 rfl 2 rfl
                    have k1_0 := hs7.cellAt 1 rfl 0 rfl
                    have k1_1 := hs7.cellAt 1 rfl 1 rfl
                    have k1_2 := hs7.cellAt 1 rfl 2 rfl
                    have k2_0 := hs7.cellAt 2 rfl 0 rfl
                    have k2_1 := hs7.cellAt 2 rfl 1 rfl
                    have k2_2 := hs7.cellAt 2 rfl 2 rfl
                    have hc0_ := cellL hs7.bel hc0
                    have hc1_ := cellL hs7.bel hc1
                    go_wp2_with fail
                    refine (HC3.out _ _ (Rd.mono HF.out hs7.bel) (cellL hs7.bel hc1) (rd_lit3 HIX.out HIY.out HIX.out (hs7.cellAt 2 rfl 0 rfl) (hs7.cellAt 2 rfl 1 rfl) (hs7.cellAt 2 rfl 2 rfl))).mono ?_
                    rintro e w8 ⟨rfl, hbw8⟩
                    have hz_w8 : w5.heap.size + 1 ≤ w8.heap.size := by have h9 := hbw8.size; (try simp at h9); omega
                    have hs9 := hs7.step hbw8
                    clear k0_0 k0_1 k0_2 k1_0 k1_1 k1_2 k2_0 k2_1 k2_2 hc0_ hc1_
                    have k0_0 := hs9.cellAt 0 rfl 0 rfl
                    have k0_1 := hs9.cellAt 0 rfl 1 rfl
                    have k0_2 := hs9.cellAt 0 rfl 2 rfl
                    have k1_0 := hs9.cellAt 1 rfl 0 rfl
                    have k1_1 := hs9.cellAt 1 rfl 1 rfl
                    have k1_2 := hs9.cellAt 1 rfl 2 rfl
                    have k2_0 := hs9.cellAt 2 rfl 0 rfl
                    have k2_1 := hs9.cellAt 2 rfl 1 rfl
                    have k2_2 := hs9.cellAt 2 rfl 2 rfl
                    have hc0_ := cellL hs9.bel hc0
                    have hc1_ := cellL hs9.bel hc1
                    by_cases q3 : v3 = (k : Int)
                    · have q3b : (v3 != (k : Int)) = false := by simp [q3]
                      have H9 := Lib.hid (HNX.out (by rw [HQ.out, q1d, q2d, decide_eq_true q3]; rfl))
                      clear q3 HNO2 HNX HQ
                      go_wp2_with fail
                      go_roundw
                      case rel => exact ⟨j + 1, hjlt, by go_num, hs9.bel, H9.out⟩
                      case measure => simp [intOf]; omega
                    · have q3b : (v3 != (k : Int)) = true := by simp [q3]
                      have H9 := Lib.hid (HNO2.out (by rw [HQ.out, q1d, q2d, decide_eq_false q3]; rfl))
                      clear q3 HNO2 HNX HQ
                      go_wp2_with fail
                      go_ret
                      exact ⟨ret_bool H9.out.symm, hs9.bel⟩
                · have q2b : (v2 != (k : Int)) = true := by simp [q2]
                  have H9 := Lib.hid (HNO2.out (by rw [HQ.out, decide_eq_false q2, Bool.and_false, Bool.false_and]))
                  clear q2 HNO2 HNX HQ
                  go_wp2_with fail
                  go_ret
                  exact ⟨ret_bool H9.out.symm, hs6.bel⟩
              · have q1b : (v1 != (k : Int)) = true := by simp [q1]
                have H9 := Lib.hid (HNO2.out (by rw [HQ.out, decide_eq_false q1, Bool.false_and, Bool.false_and]))
                clear q1 HNO2 HNX HQ
                go_wp2_with fail
                go_ret
                exact ⟨ret_bool H9.out.symm, hs3.bel⟩
            | true =>
              obtain rfl : D = (j : Int) := hD
              have hs10 := hs2.alloc #[.int .i64 k, .int .i64 k, .int .i64 j] 2 (n := wr.heap.size) (by simp)
              clear hc0_ hc1_
              have k0_0 := hs10.cellAt 0 rfl 0 rfl
              have k0_1 := hs10.cellAt 0 rfl 1 rfl
              have k0_2 := hs10.cellAt 0 rfl 2 rfl
              have hc0_ := cellL hs10.bel hc0
              have hc1_ := cellL hs10.bel hc1
              go_wp2_with fail
              refine (HC1.out _ _ (Rd.mono HF.out hs10.bel) (cellL hs10.bel hc1) (rd_lit3 HIX.out HIX.out HIY.out (hs10.cellAt 0 rfl 0 rfl) (hs10.cellAt 0 rfl 1 rfl) (hs10.cellAt 0 rfl 2 rfl))).mono ?_
              rintro e w11 ⟨rfl, hbw11⟩
              have hz_w11 : wr.heap.size + 1 ≤ w11.heap.size := by have h9 := hbw11.size; (try simp at h9); omega
              have hs12 := hs10.step hbw11
              clear k0_0 k0_1 k0_2 hc0_ hc1_
              have k0_0 := hs12.cellAt 0 rfl 0 rfl
              have k0_1 := hs12.cellAt 0 rfl 1 rfl
              have k0_2 := hs12.cellAt 0 rfl 2 rfl
              have hc0_ := cellL hs12.bel hc0
              have hc1_ := cellL hs12.bel hc1
              by_cases q1 : v1 = (j : Int)
              · have q1b : (v1 != (j : Int)) = false := by simp [q1]
                have q1d : decide (v1 = (j : Int)) = true := decide_eq_true q1
                clear q1
                have hs13 := hs12.alloc #[.int .i64 j, .int .i64 k, .int .i64 k] 2 (n := w11.heap.size) (by simp)
                clear k0_0 k0_1 k0_2 hc0_ hc1_
                have k0_0 := hs13.cellAt 0 rfl 0 rfl
                have k0_1 := hs13.cellAt 0 rfl 1 rfl
                have k0_2 := hs13.cellAt 0 rfl 2 rfl
                have k1_0 := hs13.cellAt 1 rfl 0 rfl
                have k1_1 := hs13.cellAt 1 rfl 1 rfl
                have k1_2 := hs13.cellAt 1 rfl 2 rfl
                have hc0_ := cellL hs13.bel hc0
                have hc1_ := cellL hs13.bel hc1
                go_wp2_with fail
                refine (HC2.out _ _ (Rd.mono HF.out hs13.bel) (cellL hs13.bel hc1) (rd_lit3 HIY.out HIX.out HIX.out (hs13.cellAt 1 rfl 0 rfl) (hs13.cellAt 1 rfl 1 rfl) (hs13.cellAt 1 rfl 2 rfl))).mono ?_
                rintro e w14 ⟨rfl, hbw14⟩
                have hz_w14 : w11.heap.size + 1 ≤ w14.heap.size := by have h9 := hbw14.size; (try simp at h9); omega
                have hs15 := hs13.step hbw14
                clear k0_0 k0_1 k0_2 k1_0 k1_1 k1_2 hc0_ hc1_
                have k0_0 := hs15.cellAt 0 rfl 0 rfl
                have k0_1 := hs15.cellAt 0 rfl 1 rfl
                have k0_2 := hs15.cellAt 0 rfl 2 rfl
                have k1_0 := hs15.cellAt 1 rfl 0 rfl
                have k1_1 := hs15.cellAt 1 rfl 1 rfl
                have k1_2 := hs15.cellAt 1 rfl 2 rfl
                have hc0_ := cellL hs15.bel hc0
                have hc1_ := cellL hs15.bel hc1
                by_cases q2 : v2 = (j : Int)
                · have q2b : (v2 != (j : Int)) = false := by simp [q2]
                  have q2d : decide (v2 = (j : Int)) = true := decide_eq_true q2
                  clear q2
                  cases mid with
                  | false =>
                    have H9 := Lib.hid (HNX.out (by rw [HQ.out, q1d, q2d]; rfl))
                    clear HNO2 HNX HQ
                    go_wp2_with fail
                    go_roundw
                    case rel => exact ⟨j + 1, hjlt, by go_num, hs15.bel, H9.out⟩
                    case measure => simp [intOf]; omega
                  | true =>
                    have hs16 := hs15.alloc #[.int .i64 k, .int .i64 j, .int .i64 k] 2 (n := w14.heap.size) (by simp)
                    clear k0_0 k0_1 k0_2 k1_0 k1_1 k1_2 hc0_ hc1_
                    have k0_0 := hs16.cellAt 0 rfl 0 rfl
                    have k0_1 := hs16.cellAt 0 rfl 1 rfl
                    have k0_2 := hs16.cellAt 0 rfl 2 rfl
                    have k1_0 := hs16.cellAt 1 rfl 0 rfl
                    have k1_1 := hs16.cellAt 1 rfl 1 rfl
                    have k1_2 := hs16.cellAt 1 rfl 2 rfl
                    have k2_0 := hs16.cellAt 2 rfl 0 rfl
                    have k2_1 := hs16.cellAt 2 rfl 1 rfl
                    have k2_2 := hs16.cellAt 2 rfl 2 rfl
                    have hc0_ := cellL hs16.bel hc0
                    have hc1_ := cellL hs16.bel hc1
                    go_wp2_with fail
                    refine (HC3.out _ _ (Rd.mono HF.out hs16.bel) (cellL hs16.bel hc1) (rd_lit3 HIX.out HIY.out HIX.out (hs16.cellAt 2 rfl 0 rfl) (hs16.cellAt 2 rfl 1 rfl) (hs16.cellAt 2 rfl 2 rfl))).mono ?_
                    rintro e w17 ⟨rfl, hbw17⟩
                    have hz_w17 : w14.heap.size + 1 ≤ w17.heap.size := by have h9 := hbw17.size; (try simp at h9); omega
                    have hs18 := hs16.step hbw17
                    clear k0_0 k0_1 k0_2 k1_0 k1_1 k1_2 k2_0 k2_1 k2_2 hc0_ hc1_
                    have k0_0 := hs18.cellAt 0 rfl 0 rfl
                    have k0_1 := hs18.cellAt 0 rfl 1 rfl
                    have k0_2 := hs18.cellAt 0 rfl 2 rfl
                    have k1_0 := hs18.cellAt 1 rfl 0 rfl
                    have k1_1 := hs18.cellAt 1 rfl 1 rfl
                    have k1_2 := hs18.cellAt 1 rfl 2 rfl
                    have k2_0 := hs18.cellAt 2 rfl 0 rfl
                    have k2_1 := hs18.cellAt 2 rfl 1 rfl
                    have k2_2 := hs18.cellAt 2 rfl 2 rfl
                    have hc0_ := cellL hs18.bel hc0
                    have hc1_ := cellL hs18.bel hc1
                    by_cases q3 : v3 = (j : Int)
                    · have q3b : (v3 != (j : Int)) = false := by simp [q3]
                      have H9 := Lib.hid (HNX.out (by rw [HQ.out, q1d, q2d, decide_eq_true q3]; rfl))
                      clear q3 HNO2 HNX HQ
                      go_wp2_with fail
                      go_roundw
                      case rel => exact ⟨j + 1, hjlt, by go_num, hs18.bel, H9.out⟩
                      case measure => simp [intOf]; omega
                    · have q3b : (v3 != (j : Int)) = true := by simp [q3]
                      have H9 := Lib.hid (HNO2.out (by rw [HQ.out, q1d, q2d, decide_eq_false q3]; rfl))
                      clear q3 HNO2 HNX HQ
                      go_wp2_with fail
                      go_ret
                      exact ⟨ret_bool H9.out.symm, hs18.bel⟩
                · have q2b : (v2 != (j : Int)) = true := by simp [q2]
                  have H9 := Lib.hid (HNO2.out (by rw [HQ.out, decide_eq_false q2, Bool.and_false, Bool.false_and]))
                  clear q2 HNO2 HNX HQ
                  go_wp2_with fail
                  go_ret
                  exact ⟨ret_bool H9.out.symm, hs15.bel⟩
              · have q1b : (v1 != (j : Int)) = true := by simp [q1]
                have H9 := Lib.hid (HNO2.out (by rw [HQ.out, decide_eq_false q1, Bool.false_and, Bool.false_and]))
                clear q1 HNO2 HNX HQ
                go_wp2_with fail
                go_ret
                exact ⟨ret_bool H9.out.symm, hs12.bel⟩
          · obtain rfl : j = size.toNat := by omega
            have hnl : ¬ (((size.toNat : Nat) : Int) < size) := by omega
            have H9 := Lib.hid (show ∀ x y : Nat, x < k + 1 → y < size.toNat → thirdQ size (ar, tb) mid odd x y = true from fun x y hx hy => by
              rcases Nat.lt_or_ge x k with h1 | h1
              · exact hr.out x y h1 hy
              · obtain rfl : x = k := by omega
                exact hr2.out y hy)
            go_wp2_with fail
            go_roundw
            case rel => exact ⟨k + 1, hlt, by go_num, hbl.out, H9.out⟩
            case measure => simp [intOf]; omega
      · obtain rfl : k = size.toNat := by omega
        have hnl : ¬ (((size.toNat : Nat) : Int) < size) := by omega
        have H9 := Lib.hid (HYES.out (fun x y hx hy => hr.out x y hx hy))
        have HB9 := Lib.hid hbl.out
        go_wp2_with fail
        go_ret
        exact ⟨ret_bool H9.out.symm, HB9.out⟩
  · have hb3 : (ar != 3) = true := by simp [h3]
    have H9 := Lib.hid (show thirdB size (ar, tb) mid odd = false by unfold thirdB; rw [show decide ((ar, tb).1 = 3) = false from decide_eq_false h3, Bool.false_and])
    clear h3
    go_wp2_with fail
    go_ret
    exact ⟨ret_bool H9.out.symm, (St.start w).bel⟩
set_option maxRecDepth 100000 in
theorem l02KindM_c (size : Int) (f : OpT) (pb po : Nat) (v0 v1 : Value) (w : World) (hf : Rd w [v0, v1] f) (hc0 : w.cell? ⟨pb, po, none⟩ = some v0) (hc1 : w.cell? ⟨pb, po + 1, none⟩ = some v1) (hok : opOk size f = true) :
    Calls Tryz.prog 33 #[.int .i64 size, .pointer (some ⟨pb, po, none⟩), .int .i64 7] w fun e w' => e = .returned (.bool (majB size f)) ∧ Below w.heap.size w w' := by
  have HF := Lib.hid hf
  have HC0 := Lib.hid hc0
  have HC1 := Lib.hid hc1
  clear hf hc0 hc1
  go_enter Tryz.func33, Tryz.ntmps33
  go_wp2_with fail
  refine (l02Thirds_c size f true false pb po _ _ _ HF.out HC0.out HC1.out hok).mono ?_
  rintro e w19 ⟨rfl, hbw19⟩
  have hz_w19 : w.heap.size ≤ w19.heap.size := by have h9 := hbw19.size; (try simp at h9); omega
  have hs20 := (St.start w).step hbw19
  go_wp2_with fail
  go_ret
  exact ⟨rfl, hs20.bel⟩

end Go.Proofs.YtllenfkbfeanmaaGreat

