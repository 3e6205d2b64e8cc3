/-
  CONTRACTS: is a number in a list; does a tuple agree with itself over a scope.
-/
import Derived.Test.YtamkfnkikiekaaaGreatDomBRa
import Derived.Test.YtamkfnkikiekaaaGreatRowBRa
import Derived.Test.YtamkfnkikiekaaaGreatRowsBRa
namespace Go.Proofs.YtamkfnkikiekaaaGreat
open Go.RowKit Go.Shelf Go.IntWalk
open Rep (Rd Own sz)
set_option linter.unusedSimpArgs false
set_option linter.unusedVariables false

/-- Alike variables of the scope have alike values in the tuple. -/
def agB (sc y : List Int) (i j : Nat) : Bool := !(decide (sc.getD j 0 = sc.getD i 0) && !decide (y.getD j 0 = y.getD i 0))
def wholeB (sc y : List Int) : Bool := (List.range sc.length).all (fun i => (List.range i).all (agB sc y i))
theorem wholeB_not {sc y : List Int} {i j : Nat} (hi : i < sc.length) (hj : j < i) (h : agB sc y i j = false) : wholeB sc y = false := by
  unfold wholeB
  rw [List.all_eq_false]
  refine ⟨i, List.mem_range.2 hi, ?_⟩
  rw [Bool.not_eq_true, List.all_eq_false]
  exact ⟨j, List.mem_range.2 hj, by rw [h]; decide⟩
theorem wholeB_of {sc y : List Int} (h : ∀ i, i < sc.length → ∀ j, j < i → agB sc y i j = true) : wholeB sc y = true := by
  unfold wholeB
  rw [List.all_eq_true]
  intro i hi
  rw [List.all_eq_true]
  exact fun j hj => h i (List.mem_range.1 hi) j (List.mem_range.1 hj)
set_option maxRecDepth 100000 in
set_option maxHeartbeats 4000000 in
theorem agrees_c (c : OpT) (y : List Int) (v0 v1 vy : Value) (w : World) (hc : Rd w [v0, v1] c) (hy : Rd w [vy] y) (hl : y.length = c.2.length) :
    Calls Tryz.prog 81 #[.agg #[v0, v1], vy] w fun e w' => e = .returned (.bool (wholeB c.2 y)) ∧ Below w.heap.size w w' := by
  obtain ⟨ci, sc⟩ := c
  obtain ⟨ay, cy, rfl, hyr⟩ := rd_list hy
  have hb := (rdSl_len hyr).2
  unfold maxLen at hb
  have HY := Lib.hid hy
  have HL := Lib.hid hl
  simp only at hl
  clear hy hyr
  have HC := Lib.hid hc
  have z1 := rd_cons rfl hc
  obtain ⟨rfl, hIci⟩ := rd_i1 z1.1
  obtain ⟨a, c, rfl, hRsc⟩ := rd_list z1.2
  clear hc z1
  have HSC := Lib.hid hRsc
  clear hRsc
  have hs2 := (St.start w).alloc #[.int .i64 ci, .slice a sc.length c] 60 (n := w.heap.size) (by simp)
  have k0_0 := hs2.cellAt 0 rfl 0 rfl
  have k0_1 := hs2.cellAt 0 rfl 1 rfl
  have HS0 := Lib.hid hs2
  go_enter Tryz.func81, Tryz.ntmps81
  go_wp2_with fail
  go_loopw [11] (fun i wl => ∃ k : Nat, k ≤ sc.length ∧ i = .int .i64 k ∧ Hid (St w (w.heap.size + 1) wl [(w.heap.size, #[.int .i64 ci, .slice a sc.length c], 60)]) ∧ Hid (∀ i, i < k → ∀ j, j < i → agB sc y i j = true)) (fun i _ => sc.length - (intOf i).toNat)
  case atStart => exact ⟨0, Nat.zero_le _, rfl, HS0.out, fun i hi => absurd hi (Nat.not_lt_zero _)⟩
  case round =>
    clear HS0
    obtain ⟨k, hk, rfl, hst, hr⟩ := hrel
    have hsr := hst.out
    have k0_0 := hsr.cellAt 0 rfl 0 rfl
    have k0_1 := hsr.cellAt 0 rfl 1 rfl
    by_cases hlt : k < sc.length
    · have hkl : (k : Int) < sc.length := by omega
      obtain ⟨b, o, rfl, qk, _⟩ := rd_int_at (mk_rd (rdSl_mono hsr.bel HSC.out)) k hlt
      have hky : k < y.length := by omega
      obtain ⟨b2, o2, rfl, qy, _⟩ := rd_int_at (Rd.mono HY.out hsr.bel) k hky
      have HAG := Lib.hid (fun (j : Nat) (hj : j < sc.length) (hj2 : j < y.length) => show agB sc y k j = !(decide (sc[j] = sc[k]) && !decide (y[j] = y[k])) by simp [agB, List.getD, hj, hj2, hlt, hky])
      generalize sc[k] = A at *
      generalize y[k] = B at *
      have hkyI : (k : Int) < y.length := by omega
      obtain ⟨w1, rfl⟩ : ∃ x, x = wr := ⟨_, rfl⟩
      go_wp2_with fail
      go_loopw [17] (fun i wl => ∃ j : Nat, j ≤ k ∧ i = .int .i64 j ∧ Hid (Below w1.heap.size w1 wl) ∧ Hid (∀ i, i < j → agB sc y k i = true)) (fun i _ => k - (intOf i).toNat)
      case atStart => exact ⟨0, Nat.zero_le _, rfl, Below.refl _ _, fun i hi => absurd hi (Nat.not_lt_zero _)⟩
      case round =>
        obtain ⟨j, hj, rfl, hbl, hr2⟩ := hrel
        have hs2 := hsr.step hbl.out
        have hqy := cellL hbl.out qy
        have k0_0 := hs2.cellAt 0 rfl 0 rfl
        have k0_1 := hs2.cellAt 0 rfl 1 rfl
        by_cases hjl : j < k
        · have hjI : (j : Int) < k := by omega
          have hj3 : (j : Int) < sc.length := by omega
          have hj4 : (j : Int) < y.length := by omega
          have hj5 : j < sc.length := by omega
          have hj6 : j < y.length := by omega
          obtain ⟨b', o', e1, qj, _⟩ := rd_int_at (mk_rd (rdSl_mono hs2.bel HSC.out)) j hj5
          simp only [Option.some.injEq, Addr.mk.injEq, and_true] at e1
          obtain ⟨rfl, rfl⟩ := e1
          obtain ⟨b', o', e1, qz, _⟩ := rd_int_at (Rd.mono HY.out hs2.bel) j hj6
          simp only [Option.some.injEq, Addr.mk.injEq, and_true] at e1
          obtain ⟨rfl, rfl⟩ := e1
          have HAJ := Lib.hid (HAG.out j hj5 hj6)
          have HNX := Lib.hid (fun (h : agB sc y k j = true) => show ∀ i, i < j + 1 → agB sc y k i = true from fun i hi => by
            rcases Nat.lt_or_ge i j with h1 | h1
            · exact hr2.out i h1
            · obtain rfl : i = j := by omega
              exact h)
          generalize sc[j] = D at *
          generalize y[j] = E at *
          by_cases hd : D = A
          · have hde : (D == A) = true := by simp [hd]
            by_cases he : E = B
            · have hee : (E != B) = false := by simp [he]
              have H1 := Lib.hid (HNX.out (by rw [HAJ.out, decide_eq_true he]; simp))
              have HBL := Lib.hid (hs2).bel
              clear hd he
              have HB := hbl
              go_upto_region 7 with fail
              refine wp_region_noPanic (wp_region_tree4 (fun w' => w'.cell? ⟨w.heap.size, 0, none⟩ = some (.int .i64 ci) ∧ w'.cell? ⟨w.heap.size, 1, none⟩ = some (.slice (some ⟨b, o, none⟩) sc.length c) ∧ w'.cell? ⟨b2, o2 + k, none⟩ = some (.int .i64 B) ∧ w'.cell? ⟨b, o + j, none⟩ = some (.int .i64 D) ∧ w'.cell? ⟨b2, o2 + j, none⟩ = some (.int .i64 E)) (.float 0 (.float 1 (.float 2 (.float 3 (.float 4 (.float 5 (.float 6 (.float 7 (.float 8 (.float 9 (.float 10 (.float 11 (.float 12 (.float 13 (.float 14 (.float 15 (.float 16 (.float 17 .nil)))))))))))))))))) (by kernel_rfl) (by kernel_rfl) (by kernel_rfl) rfl ?_ (fun _ _ _ _ _ h => h) ?_)
              · exact ⟨(hs2.drew).cellAt 0 rfl 0 rfl, (hs2.drew).cellAt 0 rfl 1 rfl, cellL (belowD _) hqy, cellL (belowD _) qj, cellL (belowD _) qz⟩
              have hs3 := hs2.drew
              have hqy_4 := cellL (belowD _) hqy
              clear hqy
              have qj_5 := cellL (belowD _) qj
              clear qj
              have qz_6 := cellL (belowD _) qz
              clear qz
              have HB_7 := Lib.hid (HB.out.trans (((belowD _)).mono HB.out.size))
              clear HB
              clear k0_0 k0_1
              have hz_wd8 : wr.heap.size ≤ (wr.drew).heap.size := by simp
              generalize hgen_wd8 : wr.drew = wd8 at *
              have HG_wd8 := Lib.hid hgen_wd8
              clear hgen_wd8
              (repeat (first | (apply t4_skip rfl (by rfl); try simp only [Act.put, List.setIfInBounds_toArray, List.set_cons_zero, List.set_cons_succ]) | (apply t4_float rfl (by rfl); (· (intro w' hS; go_simp <;> with_reducible rfl)); (try simp only [Act.put, List.setIfInBounds_toArray, List.set_cons_zero, List.set_cons_succ]))))
              have k0_0 := hs3.cellAt 0 rfl 0 rfl
              have k0_1 := hs3.cellAt 0 rfl 1 rfl
              refine t4_nil (NoPanic.normal ?_)
              go_wp2_with fail
              go_roundw
              case rel => exact ⟨j + 1, by omega, by go_num, HB_7.out, H1.out⟩
              case measure => simp [intOf]; omega
            · have hee : (E != B) = true := by simp [he]
              have H1 := Lib.hid (wholeB_not hlt hjl (by rw [HAJ.out, decide_eq_true hd, decide_eq_false he]; rfl))
              clear hd he
              go_upto_region 7 with fail
              refine wp_region_noPanic (wp_region_tree4 (fun w' => w'.cell? ⟨w.heap.size, 0, none⟩ = some (.int .i64 ci) ∧ w'.cell? ⟨w.heap.size, 1, none⟩ = some (.slice (some ⟨b, o, none⟩) sc.length c) ∧ w'.cell? ⟨b2, o2 + k, none⟩ = some (.int .i64 B) ∧ w'.cell? ⟨b, o + j, none⟩ = some (.int .i64 D) ∧ w'.cell? ⟨b2, o2 + j, none⟩ = some (.int .i64 E)) (.float 0 (.float 1 (.float 2 (.float 3 (.float 4 (.float 5 (.float 6 (.float 7 (.float 8 (.float 9 (.float 10 (.float 11 (.float 12 (.float 13 (.float 14 (.float 15 (.float 16 (.float 17 .nil)))))))))))))))))) (by kernel_rfl) (by kernel_rfl) (by kernel_rfl) rfl ?_ (fun _ _ _ _ _ h => h) ?_)
              · exact ⟨(hs2.drew).cellAt 0 rfl 0 rfl, (hs2.drew).cellAt 0 rfl 1 rfl, cellL (belowD _) hqy, cellL (belowD _) qj, cellL (belowD _) qz⟩
              have hs9 := hs2.drew
              have hqy_10 := cellL (belowD _) hqy
              clear hqy
              have qj_11 := cellL (belowD _) qj
              clear qj
              have qz_12 := cellL (belowD _) qz
              clear qz
              clear k0_0 k0_1
              have hz_wd13 : wr.heap.size ≤ (wr.drew).heap.size := by simp
              generalize hgen_wd13 : wr.drew = wd13 at *
              have HG_wd13 := Lib.hid hgen_wd13
              clear hgen_wd13
              (repeat (first | (apply t4_skip rfl (by rfl); try simp only [Act.put, List.setIfInBounds_toArray, List.set_cons_zero, List.set_cons_succ]) | (apply t4_float rfl (by rfl); (· (intro w' hS; go_simp <;> with_reducible rfl)); (try simp only [Act.put, List.setIfInBounds_toArray, List.set_cons_zero, List.set_cons_succ]))))
              have k0_0 := hs9.cellAt 0 rfl 0 rfl
              have k0_1 := hs9.cellAt 0 rfl 1 rfl
              refine t4_nil (NoPanic.normal ?_)
              go_wp2_with fail
              go_ret
              exact ⟨ret_bool H1.out.symm, hs9.bel⟩
          · have hde : (D == A) = false := by simp [hd]
            have H1 := Lib.hid (HNX.out (by rw [HAJ.out, decide_eq_false hd]; simp))
            clear hd
            have HB := hbl
            go_upto_region 7 with fail
            refine wp_region_noPanic (wp_region_tree4 (fun w' => w'.cell? ⟨w.heap.size, 0, none⟩ = some (.int .i64 ci) ∧ w'.cell? ⟨w.heap.size, 1, none⟩ = some (.slice (some ⟨b, o, none⟩) sc.length c) ∧ w'.cell? ⟨b2, o2 + k, none⟩ = some (.int .i64 B) ∧ w'.cell? ⟨b, o + j, none⟩ = some (.int .i64 D) ∧ w'.cell? ⟨b2, o2 + j, none⟩ = some (.int .i64 E)) (.float 0 (.float 1 (.float 2 (.float 3 (.float 4 (.float 5 (.float 6 (.float 7 (.float 8 (.float 9 (.float 10 (.float 11 (.float 12 (.float 13 (.float 14 (.float 15 (.float 16 (.float 17 .nil)))))))))))))))))) (by kernel_rfl) (by kernel_rfl) (by kernel_rfl) rfl ?_ (fun _ _ _ _ _ h => h) ?_)
            · exact ⟨(hs2.drew).cellAt 0 rfl 0 rfl, (hs2.drew).cellAt 0 rfl 1 rfl, cellL (belowD _) hqy, cellL (belowD _) qj, cellL (belowD _) qz⟩
            have hs14 := hs2.drew
            have hqy_15 := cellL (belowD _) hqy
            clear hqy
            have qj_16 := cellL (belowD _) qj
            clear qj
            have qz_17 := cellL (belowD _) qz
            clear qz
            have HB_18 := Lib.hid (HB.out.trans (((belowD _)).mono HB.out.size))
            clear HB
            clear k0_0 k0_1
            have hz_wd19 : wr.heap.size ≤ (wr.drew).heap.size := by simp
            generalize hgen_wd19 : wr.drew = wd19 at *
            have HG_wd19 := Lib.hid hgen_wd19
            clear hgen_wd19
            (repeat (first | (apply t4_skip rfl (by rfl); try simp only [Act.put, List.setIfInBounds_toArray, List.set_cons_zero, List.set_cons_succ]) | (apply t4_float rfl (by rfl); (· (intro w' hS; go_simp <;> with_reducible rfl)); (try simp only [Act.put, List.setIfInBounds_toArray, List.set_cons_zero, List.set_cons_succ]))))
            have k0_0 := hs14.cellAt 0 rfl 0 rfl
            have k0_1 := hs14.cellAt 0 rfl 1 rfl
            refine t4_nil (NoPanic.normal ?_)
            go_wp2_with fail
            go_roundw
            case rel => exact ⟨j + 1, by omega, by go_num, HB_18.out, H1.out⟩
            case measure => simp [intOf]; omega
        · obtain rfl : j = k := by omega
          have hnk : ¬ ((j : Int) < j) := by omega
          have H1 := Lib.hid (show ∀ i, i < j + 1 → ∀ q, q < i → agB sc y i q = true from fun i hi q hq => by
            rcases Nat.lt_or_ge i j with h1 | h1
            · exact hr.out i h1 q hq
            · obtain rfl : i = j := by omega
              exact hr2.out q hq)
          have HS2 := Lib.hid hs2
          go_wp2_with fail
          go_roundw
          case rel => exact ⟨j + 1, by omega, by go_num, HS2.out, H1.out⟩
          case measure => simp [intOf]; omega
    · obtain rfl : k = sc.length := by omega
      have hnl : ¬ ((sc.length : Int) < sc.length) := by omega
      have H1 := Lib.hid (wholeB_of hr.out)
      go_wp2_with fail
      go_ret
      exact ⟨ret_bool H1.out.symm, hsr.bel⟩
set_option maxRecDepth 100000 in
set_option maxHeartbeats 4000000 in
theorem l05Whole_c (ci : Int) (sc y : List Int) (pb po : Nat) (v1 vy : Value) (w : World) (hc : Rd w [v1] sc) (hp : w.cell? ⟨pb, po + 1, none⟩ = some v1) (hy : Rd w [vy] y) (hl : y.length = sc.length) :
    Calls Tryz.prog 98 #[.pointer (some ⟨pb, po, none⟩), vy] w fun e w' => e = .returned (.bool (wholeB sc y)) ∧ Below w.heap.size w w' := by
  obtain ⟨ay, cy, rfl, hyr⟩ := rd_list hy
  have hb := (rdSl_len hyr).2
  unfold maxLen at hb
  obtain ⟨a, c, rfl, _⟩ := rd_list hc
  have HY := Lib.hid hy
  have HC := Lib.hid hc
  clear hy hyr hc
  have hp_ := cellL (St.start w).bel hp
  go_enter Tryz.func98, Tryz.ntmps98
  go_wp2_with fail
  go_loopw [5] (fun i wl => ∃ k : Nat, k ≤ sc.length ∧ i = .int .i64 k ∧ Hid (Below w.heap.size w wl) ∧ Hid (∀ i, i < k → ∀ j, j < i → agB sc y i j = true)) (fun i _ => sc.length - (intOf i).toNat)
  case atStart => exact ⟨0, Nat.zero_le _, rfl, Below.refl _ _, fun i hi => absurd hi (Nat.not_lt_zero _)⟩
  case round =>
    obtain ⟨k, hk, rfl, hbl0, hr⟩ := hrel
    have hsr := (St.start w).step hbl0.out
    have hp_ := cellL hsr.bel hp
    by_cases hlt : k < sc.length
    · have hkl : (k : Int) < sc.length := by omega
      obtain ⟨b, o, rfl, qk, _⟩ := rd_int_at (Rd.mono HC.out hsr.bel) k hlt
      have hky : k < y.length := by omega
      obtain ⟨b2, o2, rfl, qy, _⟩ := rd_int_at (Rd.mono HY.out hsr.bel) k hky
      have HAG := Lib.hid (fun (j : Nat) (hj : j < sc.length) (hj2 : j < y.length) => show agB sc y k j = !(decide (sc[j] = sc[k]) && !decide (y[j] = y[k])) by simp [agB, List.getD, hj, hj2, hlt, hky])
      generalize sc[k] = A at *
      generalize y[k] = B at *
      have hkyI : (k : Int) < y.length := by omega
      obtain ⟨w1, rfl⟩ : ∃ x, x = wr := ⟨_, rfl⟩
      go_wp2_with fail
      go_loopw [6] (fun i wl => ∃ j : Nat, j ≤ k ∧ i = .int .i64 j ∧ Hid (Below w1.heap.size w1 wl) ∧ Hid (∀ i, i < j → agB sc y k i = true)) (fun i _ => k - (intOf i).toNat)
      case atStart => exact ⟨0, Nat.zero_le _, rfl, Below.refl _ _, fun i hi => absurd hi (Nat.not_lt_zero _)⟩
      case round =>
        obtain ⟨j, hj, rfl, hbl, hr2⟩ := hrel
        have hs2 := hsr.step hbl.out
        have hqy := cellL hbl.out qy
        have hqk := cellL hbl.out qk
        have hp_ := cellL hs2.bel hp
        by_cases hjl : j < k
        · have hjI : (j : Int) < k := by omega
          have hj3 : (j : Int) < sc.length := by omega
          have hj4 : (j : Int) < y.length := by omega
          have hj5 : j < sc.length := by omega
          have hj6 : j < y.length := by omega
          obtain ⟨b', o', e1, qj, _⟩ := rd_int_at (Rd.mono HC.out hs2.bel) j hj5
          simp only [Option.some.injEq, Addr.mk.injEq, and_true] at e1
          obtain ⟨rfl, rfl⟩ := e1
          obtain ⟨b', o', e1, qz, _⟩ := rd_int_at (Rd.mono HY.out hs2.bel) j hj6
          simp only [Option.some.injEq, Addr.mk.injEq, and_true] at e1
          obtain ⟨rfl, rfl⟩ := e1
          have HAJ := Lib.hid (HAG.out j hj5 hj6)
          have HNX := Lib.hid (fun (h : agB sc y k j = true) => show ∀ i, i < j + 1 → agB sc y k i = true from fun i hi => by
            rcases Nat.lt_or_ge i j with h1 | h1
            · exact hr2.out i h1
            · obtain rfl : i = j := by omega
              exact h)
          generalize sc[j] = D at *
          generalize y[j] = E at *
          by_cases hd : D = A
          · have hde : (A == D) = true := by simp [hd]
            by_cases he : E = B
            · have hee : (B != E) = false := by simp [he]
              have H1 := Lib.hid (HNX.out (by rw [HAJ.out, decide_eq_true he]; simp))
              clear hd he
              have HB := hbl
              go_upto_region 7 with fail
              refine wp_region_noPanic (wp_region_tree4 (fun w' => w'.cell? ⟨pb, po + 1, none⟩ = some (.slice (some ⟨b, o, none⟩) sc.length c) ∧ w'.cell? ⟨b2, o2 + k, none⟩ = some (.int .i64 B) ∧ w'.cell? ⟨b, o + k, none⟩ = some (.int .i64 A) ∧ w'.cell? ⟨b, o + j, none⟩ = some (.int .i64 D) ∧ w'.cell? ⟨b2, o2 + j, none⟩ = some (.int .i64 E)) (.float 0 (.float 1 (.float 2 (.float 3 (.float 4 (.float 5 (.float 6 (.float 7 (.float 8 (.float 9 (.float 10 (.float 11 (.float 12 (.float 13 (.float 14 (.float 15 (.float 16 (.float 17 (.float 18 (.float 19 (.float 20 (.float 21 (.float 22 (.float 23 (.float 24 (.float 25 .nil)))))))))))))))))))))))))) (by kernel_rfl) (by kernel_rfl) (by kernel_rfl) rfl ?_ (fun _ _ _ _ _ h => h) ?_)
              · exact ⟨cellL (hs2.drew).bel hp, cellL (belowD _) hqy, cellL (belowD _) hqk, cellL (belowD _) qj, cellL (belowD _) qz⟩
              have hs20 := hs2.drew
              have hqy_21 := cellL (belowD _) hqy
              clear hqy
              have hqk_22 := cellL (belowD _) hqk
              clear hqk
              have qj_23 := cellL (belowD _) qj
              clear qj
              have qz_24 := cellL (belowD _) qz
              clear qz
              have HB_25 := Lib.hid (HB.out.trans (((belowD _)).mono HB.out.size))
              clear HB
              clear hp_
              have hz_wd26 : wr.heap.size ≤ (wr.drew).heap.size := by simp
              generalize hgen_wd26 : wr.drew = wd26 at *
              have HG_wd26 := Lib.hid hgen_wd26
              clear hgen_wd26
              (repeat (first | (apply t4_skip rfl (by rfl); try simp only [Act.put, List.setIfInBounds_toArray, List.set_cons_zero, List.set_cons_succ]) | (apply t4_float rfl (by rfl); (· (intro w' hS; go_simp <;> with_reducible rfl)); (try simp only [Act.put, List.setIfInBounds_toArray, List.set_cons_zero, List.set_cons_succ]))))
              have hp_ := cellL hs20.bel hp
              refine t4_nil (NoPanic.normal ?_)
              go_wp2_with fail
              go_roundw
              case rel => exact ⟨j + 1, by omega, by go_num, HB_25.out, H1.out⟩
              case measure => simp [intOf]; omega
            · have hee : (B != E) = true := by simp; exact fun h => he h.symm
              have H1 := Lib.hid (wholeB_not hlt hjl (by rw [HAJ.out, decide_eq_true hd, decide_eq_false he]; rfl))
              clear hd he
              go_upto_region 7 with fail
              refine wp_region_noPanic (wp_region_tree4 (fun w' => w'.cell? ⟨pb, po + 1, none⟩ = some (.slice (some ⟨b, o, none⟩) sc.length c) ∧ w'.cell? ⟨b2, o2 + k, none⟩ = some (.int .i64 B) ∧ w'.cell? ⟨b, o + k, none⟩ = some (.int .i64 A) ∧ w'.cell? ⟨b, o + j, none⟩ = some (.int .i64 D) ∧ w'.cell? ⟨b2, o2 + j, none⟩ = some (.int .i64 E)) (.float 0 (.float 1 (.float 2 (.float 3 (.float 4 (.float 5 (.float 6 (.float 7 (.float 8 (.float 9 (.float 10 (.float 11 (.float 12 (.float 13 (.float 14 (.float 15 (.float 16 (.float 17 (.float 18 (.float 19 (.float 20 (.float 21 (.float 22 (.float 23 (.float 24 (.float 25 .nil)))))))))))))))))))))))))) (by kernel_rfl) (by kernel_rfl) (by kernel_rfl) rfl ?_ (fun _ _ _ _ _ h => h) ?_)
              · exact ⟨cellL (hs2.drew).bel hp, cellL (belowD _) hqy, cellL (belowD _) hqk, cellL (belowD _) qj, cellL (belowD _) qz⟩
              have hs27 := hs2.drew
              have hqy_28 := cellL (belowD _) hqy
              clear hqy
              have hqk_29 := cellL (belowD _) hqk
              clear hqk
              have qj_30 := cellL (belowD _) qj
              clear qj
              have qz_31 := cellL (belowD _) qz
              clear qz
              clear hp_
              have hz_wd32 : wr.heap.size ≤ (wr.drew).heap.size := by simp
              generalize hgen_wd32 : wr.drew = wd32 at *
              have HG_wd32 := Lib.hid hgen_wd32
              clear hgen_wd32
              (repeat (first | (apply t4_skip rfl (by rfl); try simp only [Act.put, List.setIfInBounds_toArray, List.set_cons_zero, List.set_cons_succ]) | (apply t4_float rfl (by rfl); (· (intro w' hS; go_simp <;> with_reducible rfl)); (try simp only [Act.put, List.setIfInBounds_toArray, List.set_cons_zero, List.set_cons_succ]))))
              have hp_ := cellL hs27.bel hp
              refine t4_nil (NoPanic.normal ?_)
              go_wp2_with fail
              go_ret
              exact ⟨ret_bool H1.out.symm, hs27.bel⟩
          · have hde : (A == D) = false := by simp; exact fun h => hd h.symm
            have H1 := Lib.hid (HNX.out (by rw [HAJ.out, decide_eq_false hd]; simp))
            clear hd
            have HB := hbl
            go_upto_region 7 with fail
            refine wp_region_noPanic (wp_region_tree4 (fun w' => w'.cell? ⟨pb, po + 1, none⟩ = some (.slice (some ⟨b, o, none⟩) sc.length c) ∧ w'.cell? ⟨b2, o2 + k, none⟩ = some (.int .i64 B) ∧ w'.cell? ⟨b, o + k, none⟩ = some (.int .i64 A) ∧ w'.cell? ⟨b, o + j, none⟩ = some (.int .i64 D) ∧ w'.cell? ⟨b2, o2 + j, none⟩ = some (.int .i64 E)) (.float 0 (.float 1 (.float 2 (.float 3 (.float 4 (.float 5 (.float 6 (.float 7 (.float 8 (.float 9 (.float 10 (.float 11 (.float 12 (.float 13 (.float 14 (.float 15 (.float 16 (.float 17 (.float 18 (.float 19 (.float 20 (.float 21 (.float 22 (.float 23 (.float 24 (.float 25 .nil)))))))))))))))))))))))))) (by kernel_rfl) (by kernel_rfl) (by kernel_rfl) rfl ?_ (fun _ _ _ _ _ h => h) ?_)
            · exact ⟨cellL (hs2.drew).bel hp, cellL (belowD _) hqy, cellL (belowD _) hqk, cellL (belowD _) qj, cellL (belowD _) qz⟩
            have hs33 := hs2.drew
            have hqy_34 := cellL (belowD _) hqy
            clear hqy
            have hqk_35 := cellL (belowD _) hqk
            clear hqk
            have qj_36 := cellL (belowD _) qj
            clear qj
            have qz_37 := cellL (belowD _) qz
            clear qz
            have HB_38 := Lib.hid (HB.out.trans (((belowD _)).mono HB.out.size))
            clear HB
            clear hp_
            have hz_wd39 : wr.heap.size ≤ (wr.drew).heap.size := by simp
            generalize hgen_wd39 : wr.drew = wd39 at *
            have HG_wd39 := Lib.hid hgen_wd39
            clear hgen_wd39
            (repeat (first | (apply t4_skip rfl (by rfl); try simp only [Act.put, List.setIfInBounds_toArray, List.set_cons_zero, List.set_cons_succ]) | (apply t4_float rfl (by rfl); (· (intro w' hS; go_simp <;> with_reducible rfl)); (try simp only [Act.put, List.setIfInBounds_toArray, List.set_cons_zero, List.set_cons_succ]))))
            have hp_ := cellL hs33.bel hp
            refine t4_nil (NoPanic.normal ?_)
            go_wp2_with fail
            go_roundw
            case rel => exact ⟨j + 1, by omega, by go_num, HB_38.out, H1.out⟩
            case measure => simp [intOf]; omega
        · obtain rfl : j = k := by omega
          have hnk : ¬ ((j : Int) < j) := by omega
          have H1 := Lib.hid (show ∀ i, i < j + 1 → ∀ q, q < i → agB sc y i q = true from fun i hi q hq => by
            rcases Nat.lt_or_ge i j with h1 | h1
            · exact hr.out i h1 q hq
            · obtain rfl : i = j := by omega
              exact hr2.out q hq)
          have HB2 := Lib.hid hs2.bel
          go_wp2_with fail
          go_roundw
          case rel => exact ⟨j + 1, by omega, by go_num, HB2.out, H1.out⟩
          case measure => simp [intOf]; omega
    · obtain rfl : k = sc.length := by omega
      have hnl : ¬ ((sc.length : Int) < y.length) := by omega
      have H1 := Lib.hid (wholeB_of hr.out)
      go_wp2_with fail
      go_ret
      exact ⟨ret_bool H1.out.symm, hsr.bel⟩
/-- Does the tuple support value a at place p over these domains? -/
def supAt (sc : List Int) (ds : List (List Int)) (y : List Int) (i : Nat) : Bool := hasI (ds.getD (sc.getD i 0).toNat []) (y.getD i 0)
def supY (sc : List Int) (ds : List (List Int)) (p : Nat) (a : Int) (y : List Int) : Bool := (decide (y.getD p 0 = a) && wholeB sc y) && (List.range sc.length).all (supAt sc ds y)
theorem supY_not {sc : List Int} {ds : List (List Int)} {p : Nat} {a : Int} {y : List Int} {i : Nat} (hi : i < sc.length) (h : supAt sc ds y i = false) : supY sc ds p a y = false := by
  unfold supY
  rw [show (List.range sc.length).all (supAt sc ds y) = false from by rw [List.all_eq_false]; exact ⟨i, List.mem_range.2 hi, by rw [h]; decide⟩, Bool.and_false]
theorem supY_of {sc : List Int} {ds : List (List Int)} {p : Nat} {a : Int} {y : List Int} (h0 : (decide (y.getD p 0 = a) && wholeB sc y) = true) (h : ∀ i, i < sc.length → supAt sc ds y i = true) : supY sc ds p a y = true := by
  unfold supY
  rw [h0, Bool.true_and, List.all_eq_true]
  exact fun i hi => h i (List.mem_range.1 hi)
set_option maxRecDepth 100000 in
set_option maxHeartbeats 8000000 in
theorem hasSupport1_by (ci : Int) (sc : List Int) (ds : List (List Int)) (p : Nat) (a : Int) (bp ba bc bd : Nat) (v1 vd : Value) (ts : List (List Int)) (w : World) (hIc : I64 ci) (hsc : Rd w [v1] sc) (hds : Rd w [vd] ds)
    (hp : w.cell? ⟨bp, 0, none⟩ = some (.int .i64 p)) (ha : w.cell? ⟨ba, 0, none⟩ = some (.int .i64 a)) (hc0 : w.cell? ⟨bc, 0, none⟩ = some (.int .i64 ci)) (hc1 : w.cell? ⟨bc, 1, none⟩ = some v1) (hd : w.cell? ⟨bd, 0, none⟩ = some vd)
    (hps : p < sc.length) (hts : ∀ y, y ∈ ts → y.length = sc.length) (hscv : ∀ v, v ∈ sc → 0 ≤ v ∧ v < ds.length) :
    PredL 80 #[.pointer (some ⟨bp, 0, none⟩), .pointer (some ⟨ba, 0, none⟩), .pointer (some ⟨bc, 0, none⟩), .pointer (some ⟨bd, 0, none⟩)] w ts (supY sc ds p a) := by
  intro W y u0 hb hy hmem
  have hyl := hts y hmem
  have HYL := Lib.hid hyl
  have gp := cellL hb hp
  have ga := cellL hb ha
  have gc0 := cellL hb hc0
  have gc1 := cellL hb hc1
  have gd := cellL hb hd
  have HSC := Lib.hid (Rd.mono hsc hb)
  have HDS := Lib.hid (Rd.mono hds hb)
  have HV := Lib.hid hscv
  have HIC := Lib.hid hIc
  show Calls Tryz.prog 80 #[u0, .pointer (some ⟨bp, 0, none⟩), .pointer (some ⟨ba, 0, none⟩), .pointer (some ⟨bc, 0, none⟩), .pointer (some ⟨bd, 0, none⟩)] W _
  have HY := Lib.hid hy
  obtain ⟨ay, cy, rfl, hyr⟩ := rd_list hy
  have hby := (rdSl_len hyr).2
  unfold maxLen at hby
  obtain ⟨asc, csc, rfl, _⟩ := rd_list hsc
  obtain ⟨ad, cd, rfl, _⟩ := rd_list hds
  have hpy : p < y.length := by omega
  have hpI : (p : Int) < y.length := by omega
  have hbs : sc.length ≤ 2 ^ 63 - 1 := by omega
  clear hy hyr hb hp ha hc0 hc1 hd hsc hds hts hscv hmem hIc hyl
  obtain ⟨by1, oy, rfl, qp, _⟩ := rd_int_at HY.out p hpy
  have HPA := Lib.hid (show y.getD p 0 = y[p] by simp [List.getD, hpy])
  generalize y[p] = YP at *
  have ejp : IntKind.i64.wrap (p : Int) = (p : Int) := i64_in _ (by omega)
  have gp_ := cellL (St.start W).bel gp
  clear gp_
  have gp_ := cellL (St.start W).bel gp
  have ga_ := cellL (St.start W).bel ga
  clear gp_ ga_
  have gp_ := cellL (St.start W).bel gp
  have ga_ := cellL (St.start W).bel ga
  have gc0_ := cellL (St.start W).bel gc0
  clear gp_ ga_ gc0_
  have gp_ := cellL (St.start W).bel gp
  have ga_ := cellL (St.start W).bel ga
  have gc0_ := cellL (St.start W).bel gc0
  have gc1_ := cellL (St.start W).bel gc1
  clear gp_ ga_ gc0_ gc1_
  have gp_ := cellL (St.start W).bel gp
  have ga_ := cellL (St.start W).bel ga
  have gc0_ := cellL (St.start W).bel gc0
  have gc1_ := cellL (St.start W).bel gc1
  have gd_ := cellL (St.start W).bel gd
  clear gp_ ga_ gc0_ gc1_ gd_
  have gp_ := cellL (St.start W).bel gp
  have ga_ := cellL (St.start W).bel ga
  have gc0_ := cellL (St.start W).bel gc0
  have gc1_ := cellL (St.start W).bel gc1
  have gd_ := cellL (St.start W).bel gd
  have qp_ := cellL (St.start W).bel qp
  have HCR := Lib.hid (show Rd W [.int .i64 ci, .slice asc sc.length csc] (ci, sc) from ⟨[_], [_], rfl, ⟨rfl, HIC.out⟩, HSC.out⟩)
  go_enter Tryz.func80, Tryz.ntmps80
  by_cases h1 : YP = a
  · have h1b : (YP != a) = false := by simp [h1]
    cases h2 : wholeB sc y with
    | false =>
      have H1 := Lib.hid (show supY sc ds p a y = false by unfold supY; rw [h2, Bool.and_false, Bool.false_and])
      have HE := Lib.hid h2
      clear h1 h2
      go_upto_region 1 with fail
      refine wp_region_noPanic (wp_region_tree4 (fun w' => w'.cell? ⟨bp, 0, none⟩ = some (.int .i64 p) ∧ w'.cell? ⟨ba, 0, none⟩ = some (.int .i64 a) ∧ w'.cell? ⟨bc, 0, none⟩ = some (.int .i64 ci) ∧ w'.cell? ⟨bc, 1, none⟩ = some (.slice asc sc.length csc) ∧ w'.cell? ⟨bd, 0, none⟩ = some (.slice ad ds.length cd) ∧ w'.cell? ⟨by1, oy + p, none⟩ = some (.int .i64 YP)) (.float 0 (.float 1 (.float 2 (.float 3 (.float 4 (.float 5 (.float 6 (.float 7 (.float 8 (.hard 9 (.float 10 (.float 11 .nil)))))))))))) (by kernel_rfl) (by kernel_rfl) (by kernel_rfl) rfl ?_ (fun _ _ _ _ _ h => h) ?_)
      · exact ⟨cellL ((St.start W).drew).bel gp, cellL ((St.start W).drew).bel ga, cellL ((St.start W).drew).bel gc0, cellL ((St.start W).drew).bel gc1, cellL ((St.start W).drew).bel gd, cellL ((St.start W).drew).bel qp⟩
      have hs40 := (St.start W).drew
      clear gp_ ga_ gc0_ gc1_ gd_ qp_
      have hz_wd41 : W.heap.size ≤ (W.drew).heap.size := by simp
      generalize hgen_wd41 : W.drew = wd41 at *
      have HG_wd41 := Lib.hid hgen_wd41
      clear hgen_wd41
      (repeat (first | (apply t4_skip rfl (by rfl); try simp only [Act.put, List.setIfInBounds_toArray, List.set_cons_zero, List.set_cons_succ]) | (apply t4_float rfl (by rfl); (· (intro w' hS; go_simp <;> with_reducible rfl)); (try simp only [Act.put, List.setIfInBounds_toArray, List.set_cons_zero, List.set_cons_succ]))))
      refine t4_hard rfl (by rfl) (fun K hK => ?_)
      go_wp2_with (go_at_call 81; refine (agrees_c (ci, sc) y _ _ _ _ (Rd.mono HCR.out hs40.bel) (Rd.mono HY.out hs40.bel) HYL.out).mono ?_; rintro e w42 ⟨rfl, hbw42⟩)
      have hz_w42 : wd41.heap.size ≤ w42.heap.size := by have h9 := hbw42.size; (try simp at h9); omega
      have hs43 := hs40.step hbw42
      rw [HE.out]
      refine ⟨⟨cellL hs43.bel gp, cellL hs43.bel ga, cellL hs43.bel gc0, cellL hs43.bel gc1, cellL hs43.bel gd, cellL hs43.bel qp⟩, ?_⟩
      (repeat (first | (apply t4_skip rfl (by rfl); try simp only [Act.put, List.setIfInBounds_toArray, List.set_cons_zero, List.set_cons_succ]) | (apply t4_float rfl (by rfl); (· (intro w' hS; go_simp <;> with_reducible rfl)); (try simp only [Act.put, List.setIfInBounds_toArray, List.set_cons_zero, List.set_cons_succ]))))
      have gp_ := cellL hs43.bel gp
      have ga_ := cellL hs43.bel ga
      have gc0_ := cellL hs43.bel gc0
      have gc1_ := cellL hs43.bel gc1
      have gd_ := cellL hs43.bel gd
      have qp_ := cellL hs43.bel qp
      refine t4_nil (NoPanic.normal ?_)
      go_wp2_with fail
      go_ret
      exact ⟨ret_bool H1.out.symm, hs43.bel⟩
    | true =>
      have H0 := Lib.hid (show (decide (y.getD p 0 = a) && wholeB sc y) = true by rw [HPA.out, decide_eq_true h1, h2]; rfl)
      have HE := Lib.hid h2
      clear h1 h2
      go_upto_region 1 with fail
      refine wp_region_noPanic (wp_region_tree4 (fun w' => w'.cell? ⟨bp, 0, none⟩ = some (.int .i64 p) ∧ w'.cell? ⟨ba, 0, none⟩ = some (.int .i64 a) ∧ w'.cell? ⟨bc, 0, none⟩ = some (.int .i64 ci) ∧ w'.cell? ⟨bc, 1, none⟩ = some (.slice asc sc.length csc) ∧ w'.cell? ⟨bd, 0, none⟩ = some (.slice ad ds.length cd) ∧ w'.cell? ⟨by1, oy + p, none⟩ = some (.int .i64 YP)) (.float 0 (.float 1 (.float 2 (.float 3 (.float 4 (.float 5 (.float 6 (.float 7 (.float 8 (.hard 9 (.float 10 (.float 11 .nil)))))))))))) (by kernel_rfl) (by kernel_rfl) (by kernel_rfl) rfl ?_ (fun _ _ _ _ _ h => h) ?_)
      · exact ⟨cellL ((St.start W).drew).bel gp, cellL ((St.start W).drew).bel ga, cellL ((St.start W).drew).bel gc0, cellL ((St.start W).drew).bel gc1, cellL ((St.start W).drew).bel gd, cellL ((St.start W).drew).bel qp⟩
      have hs44 := (St.start W).drew
      clear gp_ ga_ gc0_ gc1_ gd_ qp_
      have hz_wd45 : W.heap.size ≤ (W.drew).heap.size := by simp
      generalize hgen_wd45 : W.drew = wd45 at *
      have HG_wd45 := Lib.hid hgen_wd45
      clear hgen_wd45
      (repeat (first | (apply t4_skip rfl (by rfl); try simp only [Act.put, List.setIfInBounds_toArray, List.set_cons_zero, List.set_cons_succ]) | (apply t4_float rfl (by rfl); (· (intro w' hS; go_simp <;> with_reducible rfl)); (try simp only [Act.put, List.setIfInBounds_toArray, List.set_cons_zero, List.set_cons_succ]))))
      refine t4_hard rfl (by rfl) (fun K hK => ?_)
      go_wp2_with (go_at_call 81; refine (agrees_c (ci, sc) y _ _ _ _ (Rd.mono HCR.out hs44.bel) (Rd.mono HY.out hs44.bel) HYL.out).mono ?_; rintro e w46 ⟨rfl, hbw46⟩)
      have hz_w46 : wd45.heap.size ≤ w46.heap.size := by have h9 := hbw46.size; (try simp at h9); omega
      have hs47 := hs44.step hbw46
      rw [HE.out]
      refine ⟨⟨cellL hs47.bel gp, cellL hs47.bel ga, cellL hs47.bel gc0, cellL hs47.bel gc1, cellL hs47.bel gd, cellL hs47.bel qp⟩, ?_⟩
      (repeat (first | (apply t4_skip rfl (by rfl); try simp only [Act.put, List.setIfInBounds_toArray, List.set_cons_zero, List.set_cons_succ]) | (apply t4_float rfl (by rfl); (· (intro w' hS; go_simp <;> with_reducible rfl)); (try simp only [Act.put, List.setIfInBounds_toArray, List.set_cons_zero, List.set_cons_succ]))))
      have gp_ := cellL hs47.bel gp
      have ga_ := cellL hs47.bel ga
      have gc0_ := cellL hs47.bel gc0
      have gc1_ := cellL hs47.bel gc1
      have gd_ := cellL hs47.bel gd
      have qp_ := cellL hs47.bel qp
      refine t4_nil (NoPanic.normal ?_)
      obtain ⟨wA, rfl⟩ : ∃ x, x = w46 := ⟨_, rfl⟩
      have HBA := Lib.hid hs47.bel
      go_wp2_with fail
      go_loopw [24] (fun i wl => ∃ k : Nat, k ≤ sc.length ∧ i = .int .i64 k ∧ Hid (Below wA.heap.size wA wl) ∧ Hid (∀ i, i < k → supAt sc ds y i = true)) (fun i _ => sc.length - (intOf i).toNat)
      case atStart => exact ⟨0, Nat.zero_le _, rfl, Below.refl _ _, fun i hi => absurd hi (Nat.not_lt_zero _)⟩
      case round =>
        obtain ⟨k, hk, rfl, hbl, hr⟩ := hrel
        have hs2 := (St.start W).step (HBA.out.trans (hbl.out.mono HBA.out.size))
        have gp_ := cellL hs2.bel gp
        have ga_ := cellL hs2.bel ga
        have gc0_ := cellL hs2.bel gc0
        have gc1_ := cellL hs2.bel gc1
        have gd_ := cellL hs2.bel gd
        have qp_ := cellL hs2.bel qp
        by_cases hlt : k < sc.length
        · have hkl : (k : Int) < sc.length := by omega
          have hky : k < y.length := by have := HYL.out; omega
          have hkyI : (k : Int) < y.length := by omega
          obtain ⟨b, o, rfl, qk, _⟩ := rd_int_at (Rd.mono HSC.out hs2.bel) k hlt
          obtain ⟨b', o', e1, qy, _⟩ := rd_int_at (Rd.mono HY.out hs2.bel) k hky
          simp only [Option.some.injEq, Addr.mk.injEq, and_true] at e1
          obtain ⟨rfl, rfl⟩ := e1
          have hv := HV.out _ (List.getElem_mem hlt)
          have HSA := Lib.hid (show supAt sc ds y k = hasI (ds.getD (sc[k]).toNat []) y[k] by simp [supAt, List.getD, hlt, hky])
          obtain ⟨n, hn⟩ : ∃ n : Nat, sc[k] = (n : Int) := ⟨(sc[k]).toNat, by omega⟩
          rw [hn] at hv qk HSA
          rw [Int.toNat_natCast] at HSA
          have hnd : n < ds.length := by omega
          have hndI : (n : Int) < ds.length := by omega
          clear hn
          obtain ⟨ad2, cd2, ed, hdr⟩ := rd_list (Rd.mono HDS.out hs2.bel)
          simp only [Value.slice.injEq, true_and] at ed
          obtain ⟨rfl, rfl⟩ := ed
          obtain ⟨b3, o3, u3, rfl, qd, hdn⟩ := rdSl_one rfl hdr n hnd
          obtain ⟨a3, c3, rfl, _⟩ := rd_list hdn
          have HDN := Lib.hid hdn
          rw [show ds.getD n [] = ds[n] by simp [List.getD, hnd]] at HSA
          have HNX := Lib.hid (fun (h : supAt sc ds y k = true) => show ∀ i, i < k + 1 → supAt sc ds y i = true from fun i hi => by
            rcases Nat.lt_or_ge i k with h1 | h1
            · exact hr.out i h1
            · obtain rfl : i = k := by omega
              exact h)
          clear hdr hdn
          generalize ds[n] = D at *
          generalize y[k] = YK at *
          have HB := hbl
          have ejk : IntKind.i64.wrap (k : Int) = (k : Int) := i64_in _ (by omega)
          cases h3 : hasI D YK with
          | true =>
            have H1 := Lib.hid (HNX.out (by rw [HSA.out, h3]))
            have HE3 := Lib.hid h3
            clear h3
            go_upto_region 6 with fail
            refine wp_region_noPanic (wp_region_tree4 (fun w' => w'.cell? ⟨bp, 0, none⟩ = some (.int .i64 p) ∧ w'.cell? ⟨ba, 0, none⟩ = some (.int .i64 a) ∧ w'.cell? ⟨bc, 0, none⟩ = some (.int .i64 ci) ∧ w'.cell? ⟨bc, 1, none⟩ = some (.slice (some ⟨b, o, none⟩) sc.length csc) ∧ w'.cell? ⟨bd, 0, none⟩ = some (.slice (some ⟨b3, o3, none⟩) ds.length cd) ∧ w'.cell? ⟨by1, oy + p, none⟩ = some (.int .i64 YP) ∧ w'.cell? ⟨b, o + k, none⟩ = some (.int .i64 n) ∧ w'.cell? ⟨by1, oy + k, none⟩ = some (.int .i64 YK) ∧ w'.cell? ⟨b3, o3 + n, none⟩ = some (.slice a3 D.length c3)) (.float 0 (.float 1 (.float 2 (.float 3 (.float 4 (.float 5 (.float 6 (.float 7 (.hard 8 (.float 9 .nil)))))))))) (by kernel_rfl) (by kernel_rfl) (by kernel_rfl) rfl ?_ (fun _ _ _ _ _ h => h) ?_)
            · exact ⟨cellL (hs2.drew).bel gp, cellL (hs2.drew).bel ga, cellL (hs2.drew).bel gc0, cellL (hs2.drew).bel gc1, cellL (hs2.drew).bel gd, cellL (hs2.drew).bel qp, cellL (belowD _) qk, cellL (belowD _) qy, cellL (belowD _) qd⟩
            have hs48 := hs2.drew
            have qk_49 := cellL (belowD _) qk
            clear qk
            have qy_50 := cellL (belowD _) qy
            clear qy
            have qd_51 := cellL (belowD _) qd
            clear qd
            have HDN_52 := Lib.hid (Rd.mono HDN.out (belowD _))
            clear HDN
            have HB_53 := Lib.hid (HB.out.trans (((belowD _)).mono HB.out.size))
            clear HB
            clear gp_ ga_ gc0_ gc1_ gd_ qp_
            have hz_wd54 : wr.heap.size ≤ (wr.drew).heap.size := by simp
            generalize hgen_wd54 : wr.drew = wd54 at *
            have HG_wd54 := Lib.hid hgen_wd54
            clear hgen_wd54
            (repeat (first | (apply t4_skip rfl (by rfl); try simp only [Act.put, List.setIfInBounds_toArray, List.set_cons_zero, List.set_cons_succ]) | (apply t4_float rfl (by rfl); (· (intro w' hS; go_simp <;> with_reducible rfl)); (try simp only [Act.put, List.setIfInBounds_toArray, List.set_cons_zero, List.set_cons_succ]))))
            refine t4_hard rfl (by rfl) (fun K hK => ?_)
            go_wp2_with (go_at_call 62; refine (containsInt_c D _ YK _ HDN_52.out).mono ?_; rintro e w55 ⟨rfl, hbw55⟩)
            have hz_w55 : wd54.heap.size ≤ w55.heap.size := by have h9 := hbw55.size; (try simp at h9); omega
            have hs56 := hs48.step hbw55
            have qk_57 := cellL hbw55 qk_49
            clear qk_49
            have qy_58 := cellL hbw55 qy_50
            clear qy_50
            have qd_59 := cellL hbw55 qd_51
            clear qd_51
            have HDN_60 := Lib.hid (Rd.mono HDN_52.out hbw55)
            clear HDN_52
            have HB_61 := Lib.hid (HB_53.out.trans ((hbw55).mono HB_53.out.size))
            clear HB_53
            rw [HE3.out]
            refine ⟨⟨cellL hs56.bel gp, cellL hs56.bel ga, cellL hs56.bel gc0, cellL hs56.bel gc1, cellL hs56.bel gd, cellL hs56.bel qp, qk_57, qy_58, qd_59⟩, ?_⟩
            (repeat (first | (apply t4_skip rfl (by rfl); try simp only [Act.put, List.setIfInBounds_toArray, List.set_cons_zero, List.set_cons_succ]) | (apply t4_float rfl (by rfl); (· (intro w' hS; go_simp <;> with_reducible rfl)); (try simp only [Act.put, List.setIfInBounds_toArray, List.set_cons_zero, List.set_cons_succ]))))
            have gp_ := cellL hs56.bel gp
            have ga_ := cellL hs56.bel ga
            have gc0_ := cellL hs56.bel gc0
            have gc1_ := cellL hs56.bel gc1
            have gd_ := cellL hs56.bel gd
            have qp_ := cellL hs56.bel qp
            refine t4_nil (NoPanic.normal ?_)
            go_wp2_with fail
            go_roundw
            case rel => exact ⟨k + 1, by omega, by go_num, HB_61.out, H1.out⟩
            case measure => simp [intOf]; omega
          | false =>
            have H1 := Lib.hid (supY_not (p := p) (a := a) hlt (by rw [HSA.out, h3]))
            have HE3 := Lib.hid h3
            clear h3
            go_upto_region 6 with fail
            refine wp_region_noPanic (wp_region_tree4 (fun w' => w'.cell? ⟨bp, 0, none⟩ = some (.int .i64 p) ∧ w'.cell? ⟨ba, 0, none⟩ = some (.int .i64 a) ∧ w'.cell? ⟨bc, 0, none⟩ = some (.int .i64 ci) ∧ w'.cell? ⟨bc, 1, none⟩ = some (.slice (some ⟨b, o, none⟩) sc.length csc) ∧ w'.cell? ⟨bd, 0, none⟩ = some (.slice (some ⟨b3, o3, none⟩) ds.length cd) ∧ w'.cell? ⟨by1, oy + p, none⟩ = some (.int .i64 YP) ∧ w'.cell? ⟨b, o + k, none⟩ = some (.int .i64 n) ∧ w'.cell? ⟨by1, oy + k, none⟩ = some (.int .i64 YK) ∧ w'.cell? ⟨b3, o3 + n, none⟩ = some (.slice a3 D.length c3)) (.float 0 (.float 1 (.float 2 (.float 3 (.float 4 (.float 5 (.float 6 (.float 7 (.hard 8 (.float 9 .nil)))))))))) (by kernel_rfl) (by kernel_rfl) (by kernel_rfl) rfl ?_ (fun _ _ _ _ _ h => h) ?_)
            · exact ⟨cellL (hs2.drew).bel gp, cellL (hs2.drew).bel ga, cellL (hs2.drew).bel gc0, cellL (hs2.drew).bel gc1, cellL (hs2.drew).bel gd, cellL (hs2.drew).bel qp, cellL (belowD _) qk, cellL (belowD _) qy, cellL (belowD _) qd⟩
            have hs62 := hs2.drew
            have qk_63 := cellL (belowD _) qk
            clear qk
            have qy_64 := cellL (belowD _) qy
            clear qy
            have qd_65 := cellL (belowD _) qd
            clear qd
            have HDN_66 := Lib.hid (Rd.mono HDN.out (belowD _))
            clear HDN
            have HB_67 := Lib.hid (HB.out.trans (((belowD _)).mono HB.out.size))
            clear HB
            clear gp_ ga_ gc0_ gc1_ gd_ qp_
            have hz_wd68 : wr.heap.size ≤ (wr.drew).heap.size := by simp
            generalize hgen_wd68 : wr.drew = wd68 at *
            have HG_wd68 := Lib.hid hgen_wd68
            clear hgen_wd68
            (repeat (first | (apply t4_skip rfl (by rfl); try simp only [Act.put, List.setIfInBounds_toArray, List.set_cons_zero, List.set_cons_succ]) | (apply t4_float rfl (by rfl); (· (intro w' hS; go_simp <;> with_reducible rfl)); (try simp only [Act.put, List.setIfInBounds_toArray, List.set_cons_zero, List.set_cons_succ]))))
            refine t4_hard rfl (by rfl) (fun K hK => ?_)
            go_wp2_with (go_at_call 62; refine (containsInt_c D _ YK _ HDN_66.out).mono ?_; rintro e w69 ⟨rfl, hbw69⟩)
            have hz_w69 : wd68.heap.size ≤ w69.heap.size := by have h9 := hbw69.size; (try simp at h9); omega
            have hs70 := hs62.step hbw69
            have qk_71 := cellL hbw69 qk_63
            clear qk_63
            have qy_72 := cellL hbw69 qy_64
            clear qy_64
            have qd_73 := cellL hbw69 qd_65
            clear qd_65
            have HDN_74 := Lib.hid (Rd.mono HDN_66.out hbw69)
            clear HDN_66
            have HB_75 := Lib.hid (HB_67.out.trans ((hbw69).mono HB_67.out.size))
            clear HB_67
            rw [HE3.out]
            refine ⟨⟨cellL hs70.bel gp, cellL hs70.bel ga, cellL hs70.bel gc0, cellL hs70.bel gc1, cellL hs70.bel gd, cellL hs70.bel qp, qk_71, qy_72, qd_73⟩, ?_⟩
            (repeat (first | (apply t4_skip rfl (by rfl); try simp only [Act.put, List.setIfInBounds_toArray, List.set_cons_zero, List.set_cons_succ]) | (apply t4_float rfl (by rfl); (· (intro w' hS; go_simp <;> with_reducible rfl)); (try simp only [Act.put, List.setIfInBounds_toArray, List.set_cons_zero, List.set_cons_succ]))))
            have gp_ := cellL hs70.bel gp
            have ga_ := cellL hs70.bel ga
            have gc0_ := cellL hs70.bel gc0
            have gc1_ := cellL hs70.bel gc1
            have gd_ := cellL hs70.bel gd
            have qp_ := cellL hs70.bel qp
            refine t4_nil (NoPanic.normal ?_)
            go_wp2_with fail
            go_ret
            exact ⟨ret_bool H1.out.symm, hs70.bel⟩
        · obtain rfl : k = sc.length := by omega
          have hnl : ¬ ((sc.length : Int) < sc.length) := by omega
          have H1 := Lib.hid (supY_of H0.out hr.out)
          go_wp2_with fail
          go_ret
          exact ⟨ret_bool H1.out.symm, hs2.bel⟩
  · have h1b : (YP != a) = true := by simp [h1]
    have H1 := Lib.hid (show supY sc ds p a y = false by unfold supY; rw [HPA.out, decide_eq_false h1, Bool.false_and, Bool.false_and])
    clear h1
    go_upto_region 1 with fail
    refine wp_region_noPanic (wp_region_tree4 (fun w' => w'.cell? ⟨bp, 0, none⟩ = some (.int .i64 p) ∧ w'.cell? ⟨ba, 0, none⟩ = some (.int .i64 a) ∧ w'.cell? ⟨bc, 0, none⟩ = some (.int .i64 ci) ∧ w'.cell? ⟨bc, 1, none⟩ = some (.slice asc sc.length csc) ∧ w'.cell? ⟨bd, 0, none⟩ = some (.slice ad ds.length cd) ∧ w'.cell? ⟨by1, oy + p, none⟩ = some (.int .i64 YP)) (.float 0 (.float 1 (.float 2 (.float 3 (.float 4 (.float 5 (.float 6 (.float 7 (.float 8 (.hard 9 (.float 10 (.float 11 .nil)))))))))))) (by kernel_rfl) (by kernel_rfl) (by kernel_rfl) rfl ?_ (fun _ _ _ _ _ h => h) ?_)
    · exact ⟨cellL ((St.start W).drew).bel gp, cellL ((St.start W).drew).bel ga, cellL ((St.start W).drew).bel gc0, cellL ((St.start W).drew).bel gc1, cellL ((St.start W).drew).bel gd, cellL ((St.start W).drew).bel qp⟩
    have hs76 := (St.start W).drew
    clear gp_ ga_ gc0_ gc1_ gd_ qp_
    have hz_wd77 : W.heap.size ≤ (W.drew).heap.size := by simp
    generalize hgen_wd77 : W.drew = wd77 at *
    have HG_wd77 := Lib.hid hgen_wd77
    clear hgen_wd77
    (repeat (first | (apply t4_skip rfl (by rfl); try simp only [Act.put, List.setIfInBounds_toArray, List.set_cons_zero, List.set_cons_succ]) | (apply t4_float rfl (by rfl); (· (intro w' hS; go_simp <;> with_reducible rfl)); (try simp only [Act.put, List.setIfInBounds_toArray, List.set_cons_zero, List.set_cons_succ]))))
    refine t4_hskip rfl (by rfl) ?_ ?_
    · exact ⟨cellL hs76.bel gp, cellL hs76.bel ga, cellL hs76.bel gc0, cellL hs76.bel gc1, cellL hs76.bel gd, cellL hs76.bel qp⟩
    (try simp only [Act.put, List.setIfInBounds_toArray, List.set_cons_zero, List.set_cons_succ])
    (repeat (first | (apply t4_skip rfl (by rfl); try simp only [Act.put, List.setIfInBounds_toArray, List.set_cons_zero, List.set_cons_succ]) | (apply t4_float rfl (by rfl); (· (intro w' hS; go_simp <;> with_reducible rfl)); (try simp only [Act.put, List.setIfInBounds_toArray, List.set_cons_zero, List.set_cons_succ]))))
    have gp_ := cellL hs76.bel gp
    have ga_ := cellL hs76.bel ga
    have gc0_ := cellL hs76.bel gc0
    have gc1_ := cellL hs76.bel gc1
    have gd_ := cellL hs76.bel gd
    have qp_ := cellL hs76.bel qp
    refine t4_nil (NoPanic.normal ?_)
    go_wp2_with fail
    go_ret
    exact ⟨ret_bool H1.out.symm, hs76.bel⟩
def supB (ts : List (List Int)) (sc : List Int) (ds : List (List Int)) (p : Nat) (a : Int) : Bool := ts.any (supY sc ds p a)
set_option maxRecDepth 100000 in
set_option maxHeartbeats 4000000 in
theorem hasSupport_c (t : Tmpl) (c : OpT) (ds : List (List Int)) (p : Nat) (a : Int) (n : Nat) (t0 t1 c0 c1 vd : Value) (w : World) (ht : Rd w [t0, t1] t) (hc : Rd w [c0, c1] c) (hd : Rd w [vd] ds)
    (hn : c.1 = (n : Int)) (hnl : n < t.2.length) (hps : p < c.2.length) (hts : ∀ y, y ∈ (t.2.getD n (0, [])).2 → y.length = c.2.length) (hscv : ∀ v, v ∈ c.2 → 0 ≤ v ∧ v < ds.length) :
    Calls Tryz.prog 52 #[.agg #[t0, t1], .agg #[c0, c1], vd, .int .i64 p, .int .i64 a] w fun e w' => e = .returned (.bool (supB (t.2.getD n (0, [])).2 c.2 ds p a)) ∧ Below w.heap.size w w' := by
  obtain ⟨size, rs⟩ := t
  obtain ⟨ci, sc⟩ := c
  simp only at hn hnl hps hts hscv ⊢
  subst hn
  have zt := rd_cons rfl ht
  obtain ⟨rfl, _⟩ := rd_i1 zt.1
  obtain ⟨at0, ct0, rfl, hrs⟩ := rd_list zt.2
  have zc := rd_cons rfl hc
  obtain ⟨rfl, hIc⟩ := rd_i1 zc.1
  obtain ⟨asc, csc, rfl, _⟩ := rd_list zc.2
  obtain ⟨ad, cd, rfl, _⟩ := rd_list hd
  have HSC := Lib.hid zc.2
  have HDS := Lib.hid hd
  have HRS := Lib.hid hrs
  have eg : ∀ args w, (callFunc 80 args).run Tryz.prog w = .ok (.enter 80 args) w := enters_of Tryz.func80 (by kernel_rfl) rfl
  have hnI : (n : Int) < rs.length := by omega
  obtain ⟨b, o, u0, u1, rfl, q0, q1, hy⟩ := rdSl_two rfl hrs n hnl
  have hyz := rd_cons rfl hy
  obtain ⟨a1, c1, rfl, _⟩ := rd_list hyz.2
  have HTS := Lib.hid hyz.2
  have hgd : rs.getD n (0, []) = rs[n] := by simp [List.getD, hnl]
  rw [hgd] at hts ⊢
  have HTL := Lib.hid hts
  have HV := Lib.hid hscv
  have HIC := Lib.hid hIc
  have HPS := Lib.hid hps
  clear ht hc hd zt zc hrs hy hyz hgd hts hscv hIc q0 hps
  generalize rs[n].2 = ts at *
  have q1_ := cellL (St.start w).bel q1
  have hs78 := (St.start w).alloc #[.int .i64 size, .slice (some ⟨b, o, none⟩) rs.length ct0] 26 (n := w.heap.size) (by simp)
  clear q1_
  have k0_0 := hs78.cellAt 0 rfl 0 rfl
  have k0_1 := hs78.cellAt 0 rfl 1 rfl
  have q1_ := cellL hs78.bel q1
  have hs79 := hs78.alloc #[.int .i64 n, .slice asc sc.length csc] 60 (n := w.heap.size + 1) (by simp)
  clear k0_0 k0_1 q1_
  have k0_0 := hs79.cellAt 0 rfl 0 rfl
  have k0_1 := hs79.cellAt 0 rfl 1 rfl
  have k1_0 := hs79.cellAt 1 rfl 0 rfl
  have k1_1 := hs79.cellAt 1 rfl 1 rfl
  have q1_ := cellL hs79.bel q1
  have hs80 := hs79.alloc #[.slice ad ds.length cd] 32 (n := w.heap.size + 1 + 1) (by simp)
  clear k0_0 k0_1 k1_0 k1_1 q1_
  have k0_0 := hs80.cellAt 0 rfl 0 rfl
  have k0_1 := hs80.cellAt 0 rfl 1 rfl
  have k1_0 := hs80.cellAt 1 rfl 0 rfl
  have k1_1 := hs80.cellAt 1 rfl 1 rfl
  have k2_0 := hs80.cellAt 2 rfl 0 rfl
  have q1_ := cellL hs80.bel q1
  have hs81 := hs80.alloc #[.int .i64 p] 3 (n := w.heap.size + 1 + 1 + 1) (by simp)
  clear k0_0 k0_1 k1_0 k1_1 k2_0 q1_
  have k0_0 := hs81.cellAt 0 rfl 0 rfl
  have k0_1 := hs81.cellAt 0 rfl 1 rfl
  have k1_0 := hs81.cellAt 1 rfl 0 rfl
  have k1_1 := hs81.cellAt 1 rfl 1 rfl
  have k2_0 := hs81.cellAt 2 rfl 0 rfl
  have k3_0 := hs81.cellAt 3 rfl 0 rfl
  have q1_ := cellL hs81.bel q1
  have hs82 := hs81.alloc #[.int .i64 a] 2 (n := w.heap.size + 1 + 1 + 1 + 1) (by simp)
  clear k0_0 k0_1 k1_0 k1_1 k2_0 k3_0 q1_
  have k0_0 := hs82.cellAt 0 rfl 0 rfl
  have k0_1 := hs82.cellAt 0 rfl 1 rfl
  have k1_0 := hs82.cellAt 1 rfl 0 rfl
  have k1_1 := hs82.cellAt 1 rfl 1 rfl
  have k2_0 := hs82.cellAt 2 rfl 0 rfl
  have k3_0 := hs82.cellAt 3 rfl 0 rfl
  have k4_0 := hs82.cellAt 4 rfl 0 rfl
  have q1_ := cellL hs82.bel q1
  go_enter Tryz.func52, Tryz.ntmps52
  go_wp2_with fail
  refine (containsLists_c ts _ 80 _ (supY sc ds p a) _ (Rd.mono HTS.out hs82.bel) eg (hasSupport1_by n sc ds p a _ _ _ _ _ _ ts _ HIC.out (Rd.mono HSC.out hs82.bel) (Rd.mono HDS.out hs82.bel) (hs82.cellAt 3 rfl 0 rfl) (hs82.cellAt 4 rfl 0 rfl) (hs82.cellAt 1 rfl 0 rfl) (hs82.cellAt 1 rfl 1 rfl) (hs82.cellAt 2 rfl 0 rfl) HPS.out HTL.out HV.out)).mono ?_
  rintro e w9 ⟨rfl, hb9⟩
  have HB := Lib.hid (hs82.bel.trans (hb9.mono hs82.bel.size))
  clear hb9
  go_wp2_with fail
  go_ret
  exact ⟨rfl, HB.out⟩
set_option maxRecDepth 100000 in
set_option maxHeartbeats 4000000 in
theorem l05Without_c (l : List Int) (v : Value) (a : Int) (w : World) (r : Rd w [v] l) (hl : l.length ≤ 1048576) :
    Calls Tryz.prog 84 #[v, .int .i64 a] w fun e w' => ∃ v', e = .returned v' ∧ Acc w.heap.size w'.heap.size 2 w' v' (l.filter (fun x => x != a)) ∧ Below w.heap.size w w' := by
  obtain ⟨ad, c, rfl, h⟩ := rd_list r
  have HR := Lib.hid r
  clear r h
  have HM := Lib.hid (acc_made (α := Int) w 2)
  go_enter Tryz.func84, Tryz.ntmps84
  go_wp2_with fail
  go_loopw [5, 6] (fun oo i wl => ∃ (k : Nat) (ao : Option Addr) (m co : Nat), k ≤ l.length ∧ i = .int .i64 k ∧ oo = .slice ao m co ∧ Hid (((l.take k).filter (fun x => x != a)).length = m) ∧ Hid (Below w.heap.size w wl) ∧ Hid (Acc w.heap.size wl.heap.size 2 wl (.slice ao m co) ((l.take k).filter (fun x => x != a)))) (fun _ i _ => l.length - (intOf i).toNat)
  case atStart => exact ⟨0, _, 0, _, Nat.zero_le _, rfl, rfl, rfl, belowA _ _, by simpa [Hid] using HM.out⟩
  case round =>
    clear HM
    obtain ⟨k, ao, m, co, hk, rfl, rfl, hm, hbl, hac⟩ := hrel
    have hsr := (St.start w).step hbl.out
    have HAC := hac
    have hb0 := hbl.out.size
    by_cases hlt : k < l.length
    · have hkl : (k : Int) < l.length := by omega
      obtain ⟨b, o, rfl, qk, hI⟩ := rd_int_at (Rd.mono HR.out hsr.bel) k hlt
      have hmk : m ≤ k := by rw [← hm.out]; exact Nat.le_trans (List.length_filter_le _ _) (by rw [List.length_take]; omega)
      have HTK := Lib.hid (show (l.take (k + 1)).filter (fun x => x != a) = (l.take k).filter (fun x => x != a) ++ (if l[k] != a then [l[k]] else []) by
        rw [List.take_succ_eq_append_getElem hlt, List.filter_append]
        congr 1
        simp only [List.filter_cons, List.filter_nil])
      have HI := Lib.hid hI
      have HBL := Lib.hid hbl.out
      generalize l[k] = X at *
      clear hI
      cases hx : X != a with
      | true =>
        have HX := Lib.hid hx
        rw [hx] at HTK
        simp only [if_true] at HTK
        go_wp2_with (at_builtin; go_loud (refine wpList_append_ints _ rfl _ _ _ rfl E_ints rfl (Acc.mono HAC.out (belowA _ (.cells #[.int .i64 X] 2))) (by omega) (by simp) ⟨wr.heap.size, 0, none⟩ 1 rfl (ns := [X]) (news1 (cell_at_block (heap_alloc_new _ _))) (fun b hb => by simp at hb; subst hb; exact HI.out) (by rw [hm.out]; simp; omega) ?_); simp only [hm.out, ← HTK.out]; intro a9 c9 w9 hA9 hB9 hK9)
        have HA9 := Lib.hid hA9
        have HB9 := Lib.hid (HBL.out.trans ((belowA wr (.cells #[.int .i64 X] 2)).mono HBL.out.size) |>.trans hB9)
        have HM9 := Lib.hid (show ((l.take (k + 1)).filter (fun x => x != a)).length = m + 1 by rw [HTK.out, List.length_append, hm.out]; rfl)
        clear hA9 hB9 hK9
        go_wp2_with fail
        go_roundw
        case rel => exact ⟨k + 1, a9, m + 1, c9, hlt, by go_num, rfl, HM9.out, HB9.out, HA9.out⟩
        case measure => simp [intOf]; omega
      | false =>
        have HX := Lib.hid hx
        rw [hx] at HTK
        simp only [Bool.false_eq_true, if_false, List.append_nil] at HTK
        have HA9 := Lib.hid (show Acc w.heap.size wr.heap.size 2 wr (.slice ao m co) ((l.take (k + 1)).filter (fun x => x != a)) by rw [HTK.out]; exact HAC.out)
        have HM9 := Lib.hid (show ((l.take (k + 1)).filter (fun x => x != a)).length = m by rw [HTK.out]; exact hm.out)
        go_wp2_with fail
        go_roundw
        case rel => exact ⟨k + 1, ao, m, co, hlt, by go_num, rfl, HM9.out, HBL.out, HA9.out⟩
        case measure => simp [intOf]; omega
    · obtain rfl : k = l.length := by omega
      have hnl : ¬ ((l.length : Int) < l.length) := by omega
      have HBF := Lib.hid hbl.out
      have HAF := Lib.hid (show Acc w.heap.size wr.heap.size 2 wr (.slice ao m co) (l.filter (fun x => x != a)) by have h := hac.out; rwa [List.take_length] at h)
      go_wp2_with fail
      go_ret
      exact ⟨_, rfl, HAF.out, HBF.out⟩
set_option maxRecDepth 100000 in
set_option maxHeartbeats 8000000 in
theorem l05Support_c (rs : List RelT) (sc : List Int) (ds : List (List Int)) (p : Nat) (a : Int) (n tb cb co : Nat) (vr vs vd : Value) (w : World) (hrs : Rd w [vr] rs) (hsc : Rd w [vs] sc) (hd : Rd w [vd] ds)
    (ht1 : w.cell? ⟨tb, 1, none⟩ = some vr) (hc0 : w.cell? ⟨cb, co, none⟩ = some (.int .i64 n)) (hc1 : w.cell? ⟨cb, co + 1, none⟩ = some vs)
    (hnl : n < rs.length) (hps : p < sc.length) (hts : ∀ y, y ∈ (rs.getD n (0, [])).2 → y.length = sc.length) (hscv : ∀ v, v ∈ sc → 0 ≤ v ∧ v < ds.length) :
    Calls Tryz.prog 83 #[.pointer (some ⟨tb, 0, none⟩), .pointer (some ⟨cb, co, none⟩), vd, .int .i64 p, .int .i64 a] w fun e w' => e = .returned (.bool (supB (rs.getD n (0, [])).2 sc ds p a)) ∧ Below w.heap.size w w' := by
  obtain ⟨ar, cr, rfl, hrr⟩ := rd_list hrs
  obtain ⟨asc, csc, rfl, hscr⟩ := rd_list hsc
  obtain ⟨ad, cd, rfl, hdr⟩ := rd_list hd
  have hbs := (rdSl_len hscr).2
  unfold maxLen at hbs
  have HSC := Lib.hid hsc
  have HDS := Lib.hid hd
  have HDR := Lib.hid hdr
  have hnI : (n : Int) < rs.length := by omega
  obtain ⟨b, o, u0, u1, rfl, q0, q1, hy⟩ := rdSl_two rfl hrr n hnl
  have hyz := rd_cons rfl hy
  obtain ⟨a1, c1, rfl, htr⟩ := rd_list hyz.2
  have hbt := (rdSl_len htr).2
  unfold maxLen at hbt
  have HTR := Lib.hid htr
  have hgd : rs.getD n (0, []) = rs[n] := by simp [List.getD, hnl]
  rw [hgd] at hts ⊢
  have HTL := Lib.hid hts
  have HV := Lib.hid hscv
  have HPS := Lib.hid hps
  clear hrs hsc hd hrr hscr hdr hy hyz hgd hts hscv q0 hps htr
  generalize rs[n].2 = ts at *
  have ht1_ := cellL (St.start w).bel ht1
  clear ht1_
  have ht1_ := cellL (St.start w).bel ht1
  have hc0_ := cellL (St.start w).bel hc0
  clear ht1_ hc0_
  have ht1_ := cellL (St.start w).bel ht1
  have hc0_ := cellL (St.start w).bel hc0
  have hc1_ := cellL (St.start w).bel hc1
  clear ht1_ hc0_ hc1_
  have ht1_ := cellL (St.start w).bel ht1
  have hc0_ := cellL (St.start w).bel hc0
  have hc1_ := cellL (St.start w).bel hc1
  have q1_ := cellL (St.start w).bel q1
  go_enter Tryz.func83, Tryz.ntmps83
  go_upto_region 1 with fail
  refine wp_region_noPanic (wp_region_tree4 (fun w' => w'.cell? ⟨tb, 1, none⟩ = some (.slice (some ⟨b, o, none⟩) rs.length cr) ∧ w'.cell? ⟨cb, co, none⟩ = some (.int .i64 n) ∧ w'.cell? ⟨cb, co + 1, none⟩ = some (.slice asc sc.length csc) ∧ w'.cell? ⟨b, o + n * 2 + 1, none⟩ = some (.slice a1 ts.length c1)) (.float 0 (.float 1 (.float 2 (.float 3 (.float 4 (.float 5 (.float 6 (.float 7 (.float 8 (.float 9 .nil)))))))))) (by kernel_rfl) (by kernel_rfl) (by kernel_rfl) rfl ?_ (fun _ _ _ _ _ h => h) ?_)
  · exact ⟨cellL ((St.start w).drew).bel ht1, cellL ((St.start w).drew).bel hc0, cellL ((St.start w).drew).bel hc1, cellL ((St.start w).drew).bel q1⟩
  have hs83 := (St.start w).drew
  clear ht1_ hc0_ hc1_ q1_
  have hz_wd84 : w.heap.size ≤ (w.drew).heap.size := by simp
  generalize hgen_wd84 : w.drew = wd84 at *
  have HG_wd84 := Lib.hid hgen_wd84
  clear hgen_wd84
  (repeat (first | (apply t4_skip rfl (by rfl); try simp only [Act.put, List.setIfInBounds_toArray, List.set_cons_zero, List.set_cons_succ]) | (apply t4_float rfl (by rfl); (· (intro w' hS; go_simp <;> with_reducible rfl)); (try simp only [Act.put, List.setIfInBounds_toArray, List.set_cons_zero, List.set_cons_succ]))))
  have ht1_ := cellL hs83.bel ht1
  have hc0_ := cellL hs83.bel hc0
  have hc1_ := cellL hs83.bel hc1
  have q1_ := cellL hs83.bel q1
  refine t4_nil (NoPanic.normal ?_)
  obtain ⟨wB, rfl⟩ : ∃ x, x = wd84 := ⟨_, rfl⟩
  have HBB := Lib.hid hs83.bel
  go_wp2_with fail
  go_loopw [12] (fun i wl => ∃ k : Nat, k ≤ ts.length ∧ i = .int .i64 k ∧ Hid (Below wB.heap.size wB wl) ∧ Hid (∀ j (hj : j < ts.length), j < k → supY sc ds p a ts[j] = false)) (fun i _ => ts.length - (intOf i).toNat)
  case atStart => exact ⟨0, Nat.zero_le _, rfl, Below.refl _ _, fun j _ hj => absurd hj (Nat.not_lt_zero _)⟩
  case round =>
    obtain ⟨k, hk, rfl, hbl, hr⟩ := hrel
    have hs1 := (St.start w).step (HBB.out.trans (hbl.out.mono HBB.out.size))
    have HBK := Lib.hid hbl.out
    have ht1_ := cellL hs1.bel ht1
    have hc0_ := cellL hs1.bel hc0
    have hc1_ := cellL hs1.bel hc1
    have q1_ := cellL hs1.bel q1
    by_cases hlt : k < ts.length
    · have hkl : (k : Int) < ts.length := by omega
      obtain ⟨b2, o2, u2, rfl, qt, hyy⟩ := rdSl_one rfl (rdSl_mono hs1.bel HTR.out) k hlt
      have hyl := HTL.out _ (List.getElem_mem hlt)
      have hbk : b2 < w.heap.size ∨ True := .inr trivial
      have HYK := Lib.hid hyy
      have HANY := Lib.hid (fun (h : supY sc ds p a ts[k] = true) => show supB ts sc ds p a = true from List.any_eq_true.2 ⟨ts[k], List.getElem_mem hlt, h⟩)
      have HNO := Lib.hid (fun (h : supY sc ds p a ts[k] = false) => show ∀ j (hj : j < ts.length), j < k + 1 → supY sc ds p a ts[j] = false from fun j hj hjk => by
        rcases Nat.lt_or_ge j k with h1 | h1
        · exact hr.out j hj h1
        · obtain rfl : j = k := by omega
          exact h)
      generalize ts[k] = y at *
      obtain ⟨ay, cy, rfl, _⟩ := rd_list hyy
      have hpy : p < y.length := by have := HPS.out; omega
      have hpI : (p : Int) < y.length := by omega
      obtain ⟨by1, oy, rfl, qp, _⟩ := rd_int_at hyy p hpy
      have HPA := Lib.hid (show y.getD p 0 = y[p] by simp [List.getD, hpy])
      have HYL := Lib.hid hyl
      have hbyl : y.length ≤ 2 ^ 63 - 1 := by omega
      clear hyy hyl hbk
      generalize y[p] = YP at *
      have HBY := HYK
      have HBKX := HBK
      clear ht1_ hc0_ hc1_ q1_
      have ht1_ := cellL hs1.bel ht1
      have hc0_ := cellL hs1.bel hc0
      have hc1_ := cellL hs1.bel hc1
      have q1_ := cellL hs1.bel q1
      by_cases h1 : YP = a
      · have h1b : (YP == a) = true := by simp [h1]
        obtain ⟨B0, e0⟩ : ∃ B, wholeB sc y = B := ⟨_, rfl⟩
        have HB0 := Lib.hid (show B0 = (decide (y.getD p 0 = a) && wholeB sc y) by rw [HPA.out, decide_eq_true h1, Bool.true_and, e0])
        have HE0 := Lib.hid e0
        clear h1 e0
        go_wp2_with fail
        refine (l05Whole_c n sc y cb co _ _ _ (Rd.mono HSC.out hs1.bel) (cellL hs1.bel hc1) HYK.out HYL.out).mono ?_
        rintro e w85 ⟨rfl, hbw85⟩
        have hz_w85 : wr.heap.size ≤ w85.heap.size := by have h9 := hbw85.size; (try simp at h9); omega
        have hs86 := hs1.step hbw85
        have qt_87 := cellL hbw85 qt
        clear qt
        have qp_88 := cellL hbw85 qp
        clear qp
        have HYK_89 := Lib.hid (Rd.mono HYK.out hbw85)
        clear HYK
        have HBKX_90 := Lib.hid (HBKX.out.trans ((hbw85).mono HBKX.out.size))
        clear HBKX
        clear ht1_ hc0_ hc1_ q1_
        have ht1_ := cellL hs86.bel ht1
        have hc0_ := cellL hs86.bel hc0
        have hc1_ := cellL hs86.bel hc1
        have q1_ := cellL hs86.bel q1
        rw [HE0.out]
        obtain ⟨wC, rfl⟩ : ∃ x, x = w85 := ⟨_, rfl⟩
        have HWC := Lib.hid hs86.bel
        have HKC := Lib.hid HBKX_90.out
        have HYC := Lib.hid HYK_89.out
        go_wp2_with fail
        go_loopw [14, 15] (fun ok i wl => ∃ (q : Nat) (B : Bool), q ≤ sc.length ∧ i = .int .i64 q ∧ ok = .bool B ∧ Hid (Below wC.heap.size wC wl) ∧ Hid ((B = true → (decide (y.getD p 0 = a) && wholeB sc y) = true ∧ ∀ i, i < q → supAt sc ds y i = true) ∧ (B = false → supY sc ds p a y = false))) (fun _ i _ => sc.length - (intOf i).toNat)
        case atStart => exact ⟨0, B0, Nat.zero_le _, rfl, rfl, Below.refl _ _, ⟨fun h => ⟨by rw [← HB0.out]; exact h, fun i hi => absurd hi (Nat.not_lt_zero _)⟩, fun h => by unfold supY; rw [← HB0.out, h, Bool.false_and]⟩⟩
        case round =>
          obtain ⟨q, B, hq, rfl, rfl, hblq, hB⟩ := hrel
          have hs2 := (St.start w).step (HWC.out.trans (hblq.out.mono HWC.out.size))
          have HKQ := Lib.hid (HKC.out.trans (hblq.out.mono HKC.out.size))
          have ht1_ := cellL hs2.bel ht1
          have hc0_ := cellL hs2.bel hc0
          have hc1_ := cellL hs2.bel hc1
          have q1_ := cellL hs2.bel q1
          by_cases hql : q < sc.length
          · have hqI : (q : Int) < sc.length := by omega
            have hqy : q < y.length := by have := HYL.out; omega
            have hqyI : (q : Int) < y.length := by omega
            cases B with
            | true =>
              obtain ⟨b5, o5, rfl, qk, _⟩ := rd_int_at (Rd.mono HSC.out hs2.bel) q hql
              obtain ⟨b', o', e1, qy, _⟩ := rd_int_at (Rd.mono HYC.out hblq.out) q hqy
              simp only [Option.some.injEq, Addr.mk.injEq, and_true] at e1
              obtain ⟨rfl, rfl⟩ := e1
              have hv := HV.out _ (List.getElem_mem hql)
              have HSA := Lib.hid (show supAt sc ds y q = hasI (ds.getD (sc[q]).toNat []) y[q] by simp [supAt, List.getD, hql, hqy])
              obtain ⟨m, hm⟩ : ∃ m : Nat, sc[q] = (m : Int) := ⟨(sc[q]).toNat, by omega⟩
              rw [hm] at hv qk HSA
              rw [Int.toNat_natCast] at HSA
              have hmd : m < ds.length := by omega
              have hmdI : (m : Int) < ds.length := by omega
              clear hm
              obtain ⟨b3, o3, u3, rfl, qd, hdn⟩ := rdSl_one rfl (rdSl_mono hs2.bel HDR.out) m hmd
              obtain ⟨a3, c3, rfl, _⟩ := rd_list hdn
              have HDN := Lib.hid hdn
              rw [show ds.getD m [] = ds[m] by simp [List.getD, hmd]] at HSA
              clear hdn
              generalize ds[m] = D at *
              generalize y[q] = YQ at *
              have HBQ := hblq
              have HBB2 := Lib.hid hB.out
              go_upto_region 10 with fail
              refine wp_region_noPanic (wp_region_tree4 (fun w' => w'.cell? ⟨tb, 1, none⟩ = some (.slice (some ⟨b, o, none⟩) rs.length cr) ∧ w'.cell? ⟨cb, co, none⟩ = some (.int .i64 n) ∧ w'.cell? ⟨cb, co + 1, none⟩ = some (.slice (some ⟨b5, o5, none⟩) sc.length csc) ∧ w'.cell? ⟨b, o + n * 2 + 1, none⟩ = some (.slice (some ⟨b2, o2, none⟩) ts.length c1) ∧ w'.cell? ⟨b5, o5 + q, none⟩ = some (.int .i64 m) ∧ w'.cell? ⟨by1, oy + q, none⟩ = some (.int .i64 YQ) ∧ w'.cell? ⟨b3, o3 + m, none⟩ = some (.slice a3 D.length c3)) (.float 0 (.float 1 (.float 2 (.float 3 (.float 4 (.float 5 (.float 6 (.float 7 (.float 8 (.float 9 (.float 10 (.float 11 (.float 12 (.float 13 (.hard 14 (.float 15 .nil)))))))))))))))) (by kernel_rfl) (by kernel_rfl) (by kernel_rfl) rfl ?_ (fun _ _ _ _ _ h => h) ?_)
              · exact ⟨cellL (hs2.drew).bel ht1, cellL (hs2.drew).bel hc0, cellL (hs2.drew).bel hc1, cellL (hs2.drew).bel q1, cellL (belowD _) qk, cellL (belowD _) qy, cellL (belowD _) qd⟩
              have hs91 := hs2.drew
              have qk_92 := cellL (belowD _) qk
              clear qk
              have qy_93 := cellL (belowD _) qy
              clear qy
              have qd_94 := cellL (belowD _) qd
              clear qd
              have HDN_95 := Lib.hid (Rd.mono HDN.out (belowD _))
              clear HDN
              have HBQ_96 := Lib.hid (HBQ.out.trans (((belowD _)).mono HBQ.out.size))
              clear HBQ
              clear ht1_ hc0_ hc1_ q1_
              have hz_wd97 : wr.heap.size ≤ (wr.drew).heap.size := by simp
              generalize hgen_wd97 : wr.drew = wd97 at *
              have HG_wd97 := Lib.hid hgen_wd97
              clear hgen_wd97
              (repeat (first | (apply t4_skip rfl (by rfl); try simp only [Act.put, List.setIfInBounds_toArray, List.set_cons_zero, List.set_cons_succ]) | (apply t4_float rfl (by rfl); (· (intro w' hS; go_simp <;> with_reducible rfl)); (try simp only [Act.put, List.setIfInBounds_toArray, List.set_cons_zero, List.set_cons_succ]))))
              refine t4_hard rfl (by rfl) (fun K hK => ?_)
              go_wp2_with (go_at_call 37; refine (l00Has_c D _ YQ _ HDN_95.out).mono ?_; rintro e w98 ⟨rfl, hbw98⟩)
              have hz_w98 : wd97.heap.size ≤ w98.heap.size := by have h9 := hbw98.size; (try simp at h9); omega
              have hs99 := hs91.step hbw98
              have qk_100 := cellL hbw98 qk_92
              clear qk_92
              have qy_101 := cellL hbw98 qy_93
              clear qy_93
              have qd_102 := cellL hbw98 qd_94
              clear qd_94
              have HDN_103 := Lib.hid (Rd.mono HDN_95.out hbw98)
              clear HDN_95
              have HBQ_104 := Lib.hid (HBQ_96.out.trans ((hbw98).mono HBQ_96.out.size))
              clear HBQ_96
              refine ⟨⟨cellL hs99.bel ht1, cellL hs99.bel hc0, cellL hs99.bel hc1, cellL hs99.bel q1, qk_100, qy_101, qd_102⟩, ?_⟩
              (repeat (first | (apply t4_skip rfl (by rfl); try simp only [Act.put, List.setIfInBounds_toArray, List.set_cons_zero, List.set_cons_succ]) | (apply t4_float rfl (by rfl); (· (intro w' hS; go_simp <;> with_reducible rfl)); (try simp only [Act.put, List.setIfInBounds_toArray, List.set_cons_zero, List.set_cons_succ]))))
              have ht1_ := cellL hs99.bel ht1
              have hc0_ := cellL hs99.bel hc0
              have hc1_ := cellL hs99.bel hc1
              have q1_ := cellL hs99.bel q1
              refine t4_nil (NoPanic.normal ?_)
              go_wp2_with fail
              go_roundw
              case rel =>
                refine ⟨q + 1, hasI D YQ, by omega, by go_num, rfl, HBQ_104.out, ⟨fun h => ⟨((HBB2.out).1 (by first | rfl | trivial)).1, fun i hi => ?_⟩, fun h => supY_not hql (by rw [HSA.out]; exact h)⟩⟩
                rcases Nat.lt_or_ge i q with h1 | h1
                · exact ((HBB2.out).1 (by first | rfl | trivial)).2 i h1
                · obtain rfl : i = q := by omega
                  rw [HSA.out]; exact h
              case measure => simp [intOf]; omega
            | false =>
              have H1 := Lib.hid (HNO.out (hB.out.2 rfl))
              go_wp2_with fail
              go_roundw
              case rel => exact ⟨k + 1, by omega, by go_num, HKQ.out, H1.out⟩
              case measure => simp [intOf]; omega
          · obtain rfl : q = sc.length := by omega
            have hqyI : ¬ ((sc.length : Int) < y.length) := by have := HYL.out; omega
            cases B with
            | true =>
              have H1 := Lib.hid (HANY.out (supY_of ((hB.out).1 rfl).1 ((hB.out).1 rfl).2))
              go_wp2_with fail
              go_ret
              exact ⟨ret_bool H1.out.symm, hs2.bel⟩
            | false =>
              have H1 := Lib.hid (HNO.out (hB.out.2 rfl))
              go_wp2_with fail
              go_roundw
              case rel => exact ⟨k + 1, by omega, by go_num, HKQ.out, H1.out⟩
              case measure => simp [intOf]; omega
      · have h1b : (YP == a) = false := by simp [h1]
        obtain ⟨B0, hB0⟩ : ∃ B : Bool, B = false := ⟨_, rfl⟩
        have HB0 := Lib.hid (show B0 = (decide (y.getD p 0 = a) && wholeB sc y) by rw [HPA.out, decide_eq_false h1, Bool.false_and, hB0])
        subst hB0
        clear h1
        obtain ⟨wC, rfl⟩ : ∃ x, x = wr := ⟨_, rfl⟩
        have HWC := Lib.hid hs1.bel
        have HKC := Lib.hid HBKX.out
        have HYC := Lib.hid HYK.out
        go_wp2_with fail
        go_loopw [14, 15] (fun ok i wl => ∃ (q : Nat) (B : Bool), q ≤ sc.length ∧ i = .int .i64 q ∧ ok = .bool B ∧ Hid (Below wC.heap.size wC wl) ∧ Hid ((B = true → (decide (y.getD p 0 = a) && wholeB sc y) = true ∧ ∀ i, i < q → supAt sc ds y i = true) ∧ (B = false → supY sc ds p a y = false))) (fun _ i _ => sc.length - (intOf i).toNat)
        case atStart => exact ⟨0, false, Nat.zero_le _, rfl, rfl, Below.refl _ _, ⟨fun h => ⟨by rw [← HB0.out]; exact h, fun i hi => absurd hi (Nat.not_lt_zero _)⟩, fun h => by unfold supY; rw [← HB0.out, h, Bool.false_and]⟩⟩
        case round =>
          obtain ⟨q, B, hq, rfl, rfl, hblq, hB⟩ := hrel
          have hs2 := (St.start w).step (HWC.out.trans (hblq.out.mono HWC.out.size))
          have HKQ := Lib.hid (HKC.out.trans (hblq.out.mono HKC.out.size))
          have ht1_ := cellL hs2.bel ht1
          have hc0_ := cellL hs2.bel hc0
          have hc1_ := cellL hs2.bel hc1
          have q1_ := cellL hs2.bel q1
          by_cases hql : q < sc.length
          · have hqI : (q : Int) < sc.length := by omega
            have hqy : q < y.length := by have := HYL.out; omega
            have hqyI : (q : Int) < y.length := by omega
            cases B with
            | true =>
              obtain ⟨b5, o5, rfl, qk, _⟩ := rd_int_at (Rd.mono HSC.out hs2.bel) q hql
              obtain ⟨b', o', e1, qy, _⟩ := rd_int_at (Rd.mono HYC.out hblq.out) q hqy
              simp only [Option.some.injEq, Addr.mk.injEq, and_true] at e1
              obtain ⟨rfl, rfl⟩ := e1
              have hv := HV.out _ (List.getElem_mem hql)
              have HSA := Lib.hid (show supAt sc ds y q = hasI (ds.getD (sc[q]).toNat []) y[q] by simp [supAt, List.getD, hql, hqy])
              obtain ⟨m, hm⟩ : ∃ m : Nat, sc[q] = (m : Int) := ⟨(sc[q]).toNat, by omega⟩
              rw [hm] at hv qk HSA
              rw [Int.toNat_natCast] at HSA
              have hmd : m < ds.length := by omega
              have hmdI : (m : Int) < ds.length := by omega
              clear hm
              obtain ⟨b3, o3, u3, rfl, qd, hdn⟩ := rdSl_one rfl (rdSl_mono hs2.bel HDR.out) m hmd
              obtain ⟨a3, c3, rfl, _⟩ := rd_list hdn
              have HDN := Lib.hid hdn
              rw [show ds.getD m [] = ds[m] by simp [List.getD, hmd]] at HSA
              clear hdn
              generalize ds[m] = D at *
              generalize y[q] = YQ at *
              have HBQ := hblq
              have HBB2 := Lib.hid hB.out
              go_upto_region 10 with fail
              refine wp_region_noPanic (wp_region_tree4 (fun w' => w'.cell? ⟨tb, 1, none⟩ = some (.slice (some ⟨b, o, none⟩) rs.length cr) ∧ w'.cell? ⟨cb, co, none⟩ = some (.int .i64 n) ∧ w'.cell? ⟨cb, co + 1, none⟩ = some (.slice (some ⟨b5, o5, none⟩) sc.length csc) ∧ w'.cell? ⟨b, o + n * 2 + 1, none⟩ = some (.slice (some ⟨b2, o2, none⟩) ts.length c1) ∧ w'.cell? ⟨b5, o5 + q, none⟩ = some (.int .i64 m) ∧ w'.cell? ⟨by1, oy + q, none⟩ = some (.int .i64 YQ) ∧ w'.cell? ⟨b3, o3 + m, none⟩ = some (.slice a3 D.length c3)) (.float 0 (.float 1 (.float 2 (.float 3 (.float 4 (.float 5 (.float 6 (.float 7 (.float 8 (.float 9 (.float 10 (.float 11 (.float 12 (.float 13 (.hard 14 (.float 15 .nil)))))))))))))))) (by kernel_rfl) (by kernel_rfl) (by kernel_rfl) rfl ?_ (fun _ _ _ _ _ h => h) ?_)
              · exact ⟨cellL (hs2.drew).bel ht1, cellL (hs2.drew).bel hc0, cellL (hs2.drew).bel hc1, cellL (hs2.drew).bel q1, cellL (belowD _) qk, cellL (belowD _) qy, cellL (belowD _) qd⟩
              have hs105 := hs2.drew
              have qk_106 := cellL (belowD _) qk
              clear qk
              have qy_107 := cellL (belowD _) qy
              clear qy
              have qd_108 := cellL (belowD _) qd
              clear qd
              have HDN_109 := Lib.hid (Rd.mono HDN.out (belowD _))
              clear HDN
              have HBQ_110 := Lib.hid (HBQ.out.trans (((belowD _)).mono HBQ.out.size))
              clear HBQ
              clear ht1_ hc0_ hc1_ q1_
              have hz_wd111 : wr.heap.size ≤ (wr.drew).heap.size := by simp
              generalize hgen_wd111 : wr.drew = wd111 at *
              have HG_wd111 := Lib.hid hgen_wd111
              clear hgen_wd111
              (repeat (first | (apply t4_skip rfl (by rfl); try simp only [Act.put, List.setIfInBounds_toArray, List.set_cons_zero, List.set_cons_succ]) | (apply t4_float rfl (by rfl); (· (intro w' hS; go_simp <;> with_reducible rfl)); (try simp only [Act.put, List.setIfInBounds_toArray, List.set_cons_zero, List.set_cons_succ]))))
              refine t4_hard rfl (by rfl) (fun K hK => ?_)
              go_wp2_with (go_at_call 37; refine (l00Has_c D _ YQ _ HDN_109.out).mono ?_; rintro e w112 ⟨rfl, hbw112⟩)
              have hz_w112 : wd111.heap.size ≤ w112.heap.size := by have h9 := hbw112.size; (try simp at h9); omega
              have hs113 := hs105.step hbw112
              have qk_114 := cellL hbw112 qk_106
              clear qk_106
              have qy_115 := cellL hbw112 qy_107
              clear qy_107
              have qd_116 := cellL hbw112 qd_108
              clear qd_108
              have HDN_117 := Lib.hid (Rd.mono HDN_109.out hbw112)
              clear HDN_109
              have HBQ_118 := Lib.hid (HBQ_110.out.trans ((hbw112).mono HBQ_110.out.size))
              clear HBQ_110
              refine ⟨⟨cellL hs113.bel ht1, cellL hs113.bel hc0, cellL hs113.bel hc1, cellL hs113.bel q1, qk_114, qy_115, qd_116⟩, ?_⟩
              (repeat (first | (apply t4_skip rfl (by rfl); try simp only [Act.put, List.setIfInBounds_toArray, List.set_cons_zero, List.set_cons_succ]) | (apply t4_float rfl (by rfl); (· (intro w' hS; go_simp <;> with_reducible rfl)); (try simp only [Act.put, List.setIfInBounds_toArray, List.set_cons_zero, List.set_cons_succ]))))
              have ht1_ := cellL hs113.bel ht1
              have hc0_ := cellL hs113.bel hc0
              have hc1_ := cellL hs113.bel hc1
              have q1_ := cellL hs113.bel q1
              refine t4_nil (NoPanic.normal ?_)
              go_wp2_with fail
              go_roundw
              case rel =>
                refine ⟨q + 1, hasI D YQ, by omega, by go_num, rfl, HBQ_118.out, ⟨fun h => ⟨((HBB2.out).1 (by first | rfl | trivial)).1, fun i hi => ?_⟩, fun h => supY_not hql (by rw [HSA.out]; exact h)⟩⟩
                rcases Nat.lt_or_ge i q with h1 | h1
                · exact ((HBB2.out).1 (by first | rfl | trivial)).2 i h1
                · obtain rfl : i = q := by omega
                  rw [HSA.out]; exact h
              case measure => simp [intOf]; omega
            | false =>
              have H1 := Lib.hid (HNO.out (hB.out.2 rfl))
              go_wp2_with fail
              go_roundw
              case rel => exact ⟨k + 1, by omega, by go_num, HKQ.out, H1.out⟩
              case measure => simp [intOf]; omega
          · obtain rfl : q = sc.length := by omega
            have hqyI : ¬ ((sc.length : Int) < y.length) := by have := HYL.out; omega
            cases B with
            | true =>
              have H1 := Lib.hid (HANY.out (supY_of ((hB.out).1 rfl).1 ((hB.out).1 rfl).2))
              go_wp2_with fail
              go_ret
              exact ⟨ret_bool H1.out.symm, hs2.bel⟩
            | false =>
              have H1 := Lib.hid (HNO.out (hB.out.2 rfl))
              go_wp2_with fail
              go_roundw
              case rel => exact ⟨k + 1, by omega, by go_num, HKQ.out, H1.out⟩
              case measure => simp [intOf]; omega
    · obtain rfl : k = ts.length := by omega
      have hnk : ¬ ((ts.length : Int) < ts.length) := by omega
      have H1 := Lib.hid (show supB ts sc ds p a = false from by
        unfold supB
        rw [List.any_eq_false]
        intro x hx
        obtain ⟨j, hj, rfl⟩ := List.getElem_of_mem hx
        rw [hr.out j hj hj]; decide)
      go_wp2_with fail
      go_ret
      exact ⟨ret_bool H1.out.symm, hs1.bel⟩

end Go.Proofs.YtamkfnkikiekaaaGreat

