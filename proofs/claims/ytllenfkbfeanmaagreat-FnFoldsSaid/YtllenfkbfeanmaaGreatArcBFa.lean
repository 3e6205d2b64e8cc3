/-
  CONTRACTS: is a number in a list; does a tuple agree with itself over a scope.
-/
import Derived.Test.YtllenfkbfeanmaaGreatDomBFa
import Derived.Test.YtllenfkbfeanmaaGreatRowBFa
import Derived.Test.YtllenfkbfeanmaaGreatRowsBFa
namespace Go.Proofs.YtllenfkbfeanmaaGreat
open Go.RowKit Go.Shelf Go.IntWalk
open Rep (Rd Own sz)
set_option linter.unusedSimpArgs false
set_option linter.unusedVariables false

/-- Alike variables of the scope have alike values in the tuple. -/
def agB (sc y : List Int) (i j : Nat) : Bool := !(decide (sc.getD j 0 = sc.getD i 0) && !decide (y.getD j 0 = y.getD i 0))
def wholeB (sc y : List Int) : Bool := (List.range sc.length).all (fun i => (List.range i).all (agB sc y i))
theorem wholeB_not {sc y : List Int} {i j : Nat} (hi : i < sc.length) (hj : j < i) (h : agB sc y i j = false) : wholeB sc y = false := by
  unfold wholeB
  rw [List.all_eq_false]
  refine ⟨i, List.mem_range.2 hi, ?_⟩
  rw [Bool.not_eq_true, List.all_eq_false]
  exact ⟨j, List.mem_range.2 hj, by rw [h]; decide⟩
theorem wholeB_of {sc y : List Int} (h : ∀ i, i < sc.length → ∀ j, j < i → agB sc y i j = true) : wholeB sc y = true := by
  unfold wholeB
  rw [List.all_eq_true]
  intro i hi
  rw [List.all_eq_true]
  exact fun j hj => h i (List.mem_range.1 hi) j (List.mem_range.1 hj)
set_option maxRecDepth 100000 in
set_option maxHeartbeats 4000000 in
theorem l05Whole_c (ci : Int) (sc y : List Int) (pb po : Nat) (v1 vy : Value) (w : World) (hc : Rd w [v1] sc) (hp : w.cell? ⟨pb, po + 1, none⟩ = some v1) (hy : Rd w [vy] y) (hl : y.length = sc.length) :
    Calls Tryz.prog 147 #[.pointer (some ⟨pb, po, none⟩), vy] w fun e w' => e = .returned (.bool (wholeB sc y)) ∧ Below w.heap.size w w' := by
  obtain ⟨ay, cy, rfl, hyr⟩ := rd_list hy
  have hb := (rdSl_len hyr).2
  unfold maxLen at hb
  obtain ⟨a, c, rfl, _⟩ := rd_list hc
  have HY := Lib.hid hy
  have HC := Lib.hid hc
  clear hy hyr hc
  have hp_ := cellL (St.start w).bel hp
  go_enter Tryz.func147, Tryz.ntmps147
  go_wp2_with fail
  go_loopw [5] (fun i wl => ∃ k : Nat, k ≤ sc.length ∧ i = .int .i64 k ∧ Hid (Below w.heap.size w wl) ∧ Hid (∀ i, i < k → ∀ j, j < i → agB sc y i j = true)) (fun i _ => sc.length - (intOf i).toNat)
  case atStart => exact ⟨0, Nat.zero_le _, rfl, Below.refl _ _, fun i hi => absurd hi (Nat.not_lt_zero _)⟩
  case round =>
    obtain ⟨k, hk, rfl, hbl0, hr⟩ := hrel
    have hsr := (St.start w).step hbl0.out
    have hp_ := cellL hsr.bel hp
    by_cases hlt : k < sc.length
    · have hkl : (k : Int) < sc.length := by omega
      obtain ⟨b, o, rfl, qk, _⟩ := rd_int_at (Rd.mono HC.out hsr.bel) k hlt
      have hky : k < y.length := by omega
      obtain ⟨b2, o2, rfl, qy, _⟩ := rd_int_at (Rd.mono HY.out hsr.bel) k hky
      have HAG := Lib.hid (fun (j : Nat) (hj : j < sc.length) (hj2 : j < y.length) => show agB sc y k j = !(decide (sc[j] = sc[k]) && !decide (y[j] = y[k])) by simp [agB, List.getD, hj, hj2, hlt, hky])
      generalize sc[k] = A at *
      generalize y[k] = B at *
      have hkyI : (k : Int) < y.length := by omega
      obtain ⟨w1, rfl⟩ : ∃ x, x = wr := ⟨_, rfl⟩
      go_wp2_with fail
      go_loopw [6] (fun i wl => ∃ j : Nat, j ≤ k ∧ i = .int .i64 j ∧ Hid (Below w1.heap.size w1 wl) ∧ Hid (∀ i, i < j → agB sc y k i = true)) (fun i _ => k - (intOf i).toNat)
      case atStart => exact ⟨0, Nat.zero_le _, rfl, Below.refl _ _, fun i hi => absurd hi (Nat.not_lt_zero _)⟩
      case round =>
        obtain ⟨j, hj, rfl, hbl, hr2⟩ := hrel
        have hs2 := hsr.step hbl.out
        have hqy := cellL hbl.out qy
        have hqk := cellL hbl.out qk
        have hp_ := cellL hs2.bel hp
        by_cases hjl : j < k
        · have hjI : (j : Int) < k := by omega
          have hj3 : (j : Int) < sc.length := by omega
          have hj4 : (j : Int) < y.length := by omega
          have hj5 : j < sc.length := by omega
          have hj6 : j < y.length := by omega
          obtain ⟨b', o', e1, qj, _⟩ := rd_int_at (Rd.mono HC.out hs2.bel) j hj5
          simp only [Option.some.injEq, Addr.mk.injEq, and_true] at e1
          obtain ⟨rfl, rfl⟩ := e1
          obtain ⟨b', o', e1, qz, _⟩ := rd_int_at (Rd.mono HY.out hs2.bel) j hj6
          simp only [Option.some.injEq, Addr.mk.injEq, and_true] at e1
          obtain ⟨rfl, rfl⟩ := e1
          have HAJ := Lib.hid (HAG.out j hj5 hj6)
          have HNX := Lib.hid (fun (h : agB sc y k j = true) => show ∀ i, i < j + 1 → agB sc y k i = true from fun i hi => by
            rcases Nat.lt_or_ge i j with h1 | h1
            · exact hr2.out i h1
            · obtain rfl : i = j := by omega
              exact h)
          generalize sc[j] = D at *
          generalize y[j] = E at *
          by_cases hd : D = A
          · have hde : (A == D) = true := by simp [hd]
            by_cases he : E = B
            · have hee : (B != E) = false := by simp [he]
              have H1 := Lib.hid (HNX.out (by rw [HAJ.out, decide_eq_true he]; simp))
              clear hd he
              have HB := hbl
              go_upto_region 7 with fail
              refine wp_region_noPanic (wp_region_tree4 (fun w' => w'.cell? ⟨pb, po + 1, none⟩ = some (.slice (some ⟨b, o, none⟩) sc.length c) ∧ w'.cell? ⟨b2, o2 + k, none⟩ = some (.int .i64 B) ∧ w'.cell? ⟨b, o + k, none⟩ = some (.int .i64 A) ∧ w'.cell? ⟨b, o + j, none⟩ = some (.int .i64 D) ∧ w'.cell? ⟨b2, o2 + j, none⟩ = some (.int .i64 E)) (.float 0 (.float 1 (.float 2 (.float 3 (.float 4 (.float 5 (.float 6 (.float 7 (.float 8 (.float 9 (.float 10 (.float 11 (.float 12 (.float 13 (.float 14 (.float 15 (.float 16 (.float 17 (.float 18 (.float 19 (.float 20 (.float 21 (.float 22 (.float 23 (.float 24 (.float 25 .nil)))))))))))))))))))))))))) (by kernel_rfl) (by kernel_rfl) (by kernel_rfl) rfl ?_ (fun _ _ _ _ _ h => h) ?_)
              · exact ⟨cellL (hs2.drew).bel hp, cellL (belowD _) hqy, cellL (belowD _) hqk, cellL (belowD _) qj, cellL (belowD _) qz⟩
              have hs1 := hs2.drew
              have hqy_2 := cellL (belowD _) hqy
              clear hqy
              have hqk_3 := cellL (belowD _) hqk
              clear hqk
              have qj_4 := cellL (belowD _) qj
              clear qj
              have qz_5 := cellL (belowD _) qz
              clear qz
              have HB_6 := Lib.hid (HB.out.trans (((belowD _)).mono HB.out.size))
              clear HB
              clear hp_
              have hz_wd7 : wr.heap.size ≤ (wr.drew).heap.size := by simp
              generalize hgen_wd7 : wr.drew = wd7 at *
              have HG_wd7 := Lib.hid hgen_wd7
              clear hgen_wd7
              (repeat (first | (apply t4_skip rfl (by rfl); try simp only [Act.put, List.setIfInBounds_toArray, List.set_cons_zero, List.set_cons_succ]) | (apply t4_float rfl (by rfl); (· (intro w' hS; go_simp <;> with_reducible rfl)); (try simp only [Act.put, List.setIfInBounds_toArray, List.set_cons_zero, List.set_cons_succ]))))
              have hp_ := cellL hs1.bel hp
              refine t4_nil (NoPanic.normal ?_)
              go_wp2_with fail
              go_roundw
              case rel => exact ⟨j + 1, by omega, by go_num, HB_6.out, H1.out⟩
              case measure => simp [intOf]; omega
            · have hee : (B != E) = true := by simp; exact fun h => he h.symm
              have H1 := Lib.hid (wholeB_not hlt hjl (by rw [HAJ.out, decide_eq_true hd, decide_eq_false he]; rfl))
              clear hd he
              go_upto_region 7 with fail
              refine wp_region_noPanic (wp_region_tree4 (fun w' => w'.cell? ⟨pb, po + 1, none⟩ = some (.slice (some ⟨b, o, none⟩) sc.length c) ∧ w'.cell? ⟨b2, o2 + k, none⟩ = some (.int .i64 B) ∧ w'.cell? ⟨b, o + k, none⟩ = some (.int .i64 A) ∧ w'.cell? ⟨b, o + j, none⟩ = some (.int .i64 D) ∧ w'.cell? ⟨b2, o2 + j, none⟩ = some (.int .i64 E)) (.float 0 (.float 1 (.float 2 (.float 3 (.float 4 (.float 5 (.float 6 (.float 7 (.float 8 (.float 9 (.float 10 (.float 11 (.float 12 (.float 13 (.float 14 (.float 15 (.float 16 (.float 17 (.float 18 (.float 19 (.float 20 (.float 21 (.float 22 (.float 23 (.float 24 (.float 25 .nil)))))))))))))))))))))))))) (by kernel_rfl) (by kernel_rfl) (by kernel_rfl) rfl ?_ (fun _ _ _ _ _ h => h) ?_)
              · exact ⟨cellL (hs2.drew).bel hp, cellL (belowD _) hqy, cellL (belowD _) hqk, cellL (belowD _) qj, cellL (belowD _) qz⟩
              have hs8 := hs2.drew
              have hqy_9 := cellL (belowD _) hqy
              clear hqy
              have hqk_10 := cellL (belowD _) hqk
              clear hqk
              have qj_11 := cellL (belowD _) qj
              clear qj
              have qz_12 := cellL (belowD _) qz
              clear qz
              clear hp_
              have hz_wd13 : wr.heap.size ≤ (wr.drew).heap.size := by simp
              generalize hgen_wd13 : wr.drew = wd13 at *
              have HG_wd13 := Lib.hid hgen_wd13
              clear hgen_wd13
              (repeat (first | (apply t4_skip rfl (by rfl); try simp only [Act.put, List.setIfInBounds_toArray, List.set_cons_zero, List.set_cons_succ]) | (apply t4_float rfl (by rfl); (· (intro w' hS; go_simp <;> with_reducible rfl)); (try simp only [Act.put, List.setIfInBounds_toArray, List.set_cons_zero, List.set_cons_succ]))))
              have hp_ := cellL hs8.bel hp
              refine t4_nil (NoPanic.normal ?_)
              go_wp2_with fail
              go_ret
              exact ⟨ret_bool H1.out.symm, hs8.bel⟩
          · have hde : (A == D) = false := by simp; exact fun h => hd h.symm
            have H1 := Lib.hid (HNX.out (by rw [HAJ.out, decide_eq_false hd]; simp))
            clear hd
            have HB := hbl
            go_upto_region 7 with fail
            refine wp_region_noPanic (wp_region_tree4 (fun w' => w'.cell? ⟨pb, po + 1, none⟩ = some (.slice (some ⟨b, o, none⟩) sc.length c) ∧ w'.cell? ⟨b2, o2 + k, none⟩ = some (.int .i64 B) ∧ w'.cell? ⟨b, o + k, none⟩ = some (.int .i64 A) ∧ w'.cell? ⟨b, o + j, none⟩ = some (.int .i64 D) ∧ w'.cell? ⟨b2, o2 + j, none⟩ = some (.int .i64 E)) (.float 0 (.float 1 (.float 2 (.float 3 (.float 4 (.float 5 (.float 6 (.float 7 (.float 8 (.float 9 (.float 10 (.float 11 (.float 12 (.float 13 (.float 14 (.float 15 (.float 16 (.float 17 (.float 18 (.float 19 (.float 20 (.float 21 (.float 22 (.float 23 (.float 24 (.float 25 .nil)))))))))))))))))))))))))) (by kernel_rfl) (by kernel_rfl) (by kernel_rfl) rfl ?_ (fun _ _ _ _ _ h => h) ?_)
            · exact ⟨cellL (hs2.drew).bel hp, cellL (belowD _) hqy, cellL (belowD _) hqk, cellL (belowD _) qj, cellL (belowD _) qz⟩
            have hs14 := hs2.drew
            have hqy_15 := cellL (belowD _) hqy
            clear hqy
            have hqk_16 := cellL (belowD _) hqk
            clear hqk
            have qj_17 := cellL (belowD _) qj
            clear qj
            have qz_18 := cellL (belowD _) qz
            clear qz
            have HB_19 := Lib.hid (HB.out.trans (((belowD _)).mono HB.out.size))
            clear HB
            clear hp_
            have hz_wd20 : wr.heap.size ≤ (wr.drew).heap.size := by simp
            generalize hgen_wd20 : wr.drew = wd20 at *
            have HG_wd20 := Lib.hid hgen_wd20
            clear hgen_wd20
            (repeat (first | (apply t4_skip rfl (by rfl); try simp only [Act.put, List.setIfInBounds_toArray, List.set_cons_zero, List.set_cons_succ]) | (apply t4_float rfl (by rfl); (· (intro w' hS; go_simp <;> with_reducible rfl)); (try simp only [Act.put, List.setIfInBounds_toArray, List.set_cons_zero, List.set_cons_succ]))))
            have hp_ := cellL hs14.bel hp
            refine t4_nil (NoPanic.normal ?_)
            go_wp2_with fail
            go_roundw
            case rel => exact ⟨j + 1, by omega, by go_num, HB_19.out, H1.out⟩
            case measure => simp [intOf]; omega
        · obtain rfl : j = k := by omega
          have hnk : ¬ ((j : Int) < j) := by omega
          have H1 := Lib.hid (show ∀ i, i < j + 1 → ∀ q, q < i → agB sc y i q = true from fun i hi q hq => by
            rcases Nat.lt_or_ge i j with h1 | h1
            · exact hr.out i h1 q hq
            · obtain rfl : i = j := by omega
              exact hr2.out q hq)
          have HB2 := Lib.hid hs2.bel
          go_wp2_with fail
          go_roundw
          case rel => exact ⟨j + 1, by omega, by go_num, HB2.out, H1.out⟩
          case measure => simp [intOf]; omega
    · obtain rfl : k = sc.length := by omega
      have hnl : ¬ ((sc.length : Int) < y.length) := by omega
      have H1 := Lib.hid (wholeB_of hr.out)
      go_wp2_with fail
      go_ret
      exact ⟨ret_bool H1.out.symm, hsr.bel⟩
/-- Does the tuple support value a at place p over these domains? -/
def supAt (sc : List Int) (ds : List (List Int)) (y : List Int) (i : Nat) : Bool := hasI (ds.getD (sc.getD i 0).toNat []) (y.getD i 0)
def supY (sc : List Int) (ds : List (List Int)) (p : Nat) (a : Int) (y : List Int) : Bool := (decide (y.getD p 0 = a) && wholeB sc y) && (List.range sc.length).all (supAt sc ds y)
def supB (ts : List (List Int)) (sc : List Int) (ds : List (List Int)) (p : Nat) (a : Int) : Bool := ts.any (supY sc ds p a)

end Go.Proofs.YtllenfkbfeanmaaGreat

