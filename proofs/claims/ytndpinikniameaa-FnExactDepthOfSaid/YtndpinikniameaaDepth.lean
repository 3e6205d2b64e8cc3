/-
  CONTRACTS: DepthOf of the program and of the reference.
-/
import Derived.Test.YtndpinikniameaaNum
import Derived.Test.YtndpinikniameaaSz
namespace Go.Proofs.Ytndpinikniameaa
open Go.RowKit
open Rep (Rd Own sz)
set_option linter.unusedSimpArgs false
set_option linter.unusedVariables false

theorem max_ite (a b : Int) : (if a < b then b else a) = max a b := by split <;> omega
abbrev LineT := Int × Int × Int × Int
def depF : List LineT → Int → Int → Int × Int
  | [], _, most => (most, 0)
  | x :: xs, level, most =>
    if level < 0 then (0, 4)
    else
      let l' := if x.1 = 1 then level + 1 else if x.1 = 3 then level - 1 else level
      depF xs l' (max most l')
def depthOf (l : List LineT) : Int × Int := if 4000 < l.length then (0, 3) else depF l 0 0
theorem depF_drop {l : List LineT} {j : Nat} (h : j < l.length) (level most : Int) : depF (l.drop j) level most =
    if level < 0 then (0, 4)
    else
      let l' := if l[j].1 = 1 then level + 1 else if l[j].1 = 3 then level - 1 else level
      depF (l.drop (j + 1)) l' (max most l') := by
  rw [List.drop_eq_getElem_cons h]; rfl
def dLev (k level : Int) : Int := if k = 1 then level + 1 else if k = 3 then level - 1 else level
theorem dLev_1 (level : Int) : dLev 1 level = level + 1 := rfl
theorem dLev_3 (level : Int) : dLev 3 level = level - 1 := rfl
theorem dLev_no {k level : Int} (h1 : ¬ k = 1) (h3 : ¬ k = 3) : dLev k level = level := by unfold dLev; rw [if_neg h1, if_neg h3]
theorem depF_step {l : List LineT} {j : Nat} (h : j < l.length) {level most : Int} (h0 : 0 ≤ level) : depF (l.drop j) level most = depF (l.drop (j + 1)) (dLev l[j].1 level) (max most (dLev l[j].1 level)) := by
  rw [depF_drop h, if_neg (by omega)]; rfl
theorem depF_neg {l : List LineT} {j : Nat} (h : j < l.length) {level most : Int} (h0 : level < 0) : depF (l.drop j) level most = (0, 4) := by
  rw [depF_drop h, if_pos h0]

set_option maxRecDepth 100000 in
set_option maxHeartbeats 1000000 in
theorem sDepthOf_c (l : List LineT) (v : Value) (w : World) (r : Rd w [v] l) :
    Calls Try.prog 9 #[v] w fun e w' => e = .returned (.tuple #[.int .i64 (depthOf l).1, .int .i64 (depthOf l).2]) ∧ Below w.heap.size w w' := by
  obtain ⟨a, c, rfl, h⟩ := rd_list r
  have hb := (rdSl_len h).2
  unfold maxLen at hb
  clear r
  by_cases hbig : 4000 < l.length
  · go_enter Try.func9, Try.ntmps9
    go_wp2_with fail
    refine bodyPost_ret (v := .tuple #[.int .i64 (0), .int .i64 (3)]) (by simp [results, Try.results9, go_sem]) rfl ⟨?_, Below.refl _ _⟩
    unfold depthOf; rw [if_pos hbig]
  · have HD : Hid (depthOf l = depF l 0 0) := by show depthOf l = _; unfold depthOf; rw [if_neg hbig]
    generalize hR : depthOf l = R at *
    generalize hn : l.length = n at *
    have HN := Lib.hid hn
    have HH := Lib.hid h
    clear hn h hR
    go_enter Try.func9, Try.ntmps9
    go_wp2_with fail
    go_loopw [4, 5, 6] (fun lv mo i wr => ∃ (j : Nat) (level most : Int), j ≤ n ∧ lv = .int .i64 level ∧ mo = .int .i64 most ∧ i = .int .i64 j ∧ -1 ≤ level ∧ level ≤ j ∧ 0 ≤ most ∧ most ≤ j ∧ Hid (R = depF (l.drop j) level most) ∧ Hid (Below w.heap.size w wr)) (fun _ _ i _ => n - (intOf i).toNat)
    case atStart => exact ⟨0, 0, 0, Nat.zero_le _, rfl, rfl, rfl, by omega, by omega, by omega, by omega, HD.out, Below.refl _ _⟩
    case round =>
      obtain ⟨j, level, most, hj, rfl, rfl, rfl, l0, l1, m0, m1, hd, hbl⟩ := hrel
      by_cases hlt : j < n
      · have hjl : j < l.length := by rw [HN.out]; exact hlt
        by_cases hneg : level < 0
        · go_wp2_with fail
          refine bodyPost_ret (v := .tuple #[.int .i64 (0), .int .i64 (4)]) (by simp [results, Try.results9, go_sem]) rfl ⟨?_, hbl.out⟩
          rw [hd.out, depF_neg hjl hneg]
        · obtain ⟨b, o, v0, v1, v2, v3, rfl, q0, q1, q2, q3, hx⟩ := rdSl_four rfl (rdSl_mono hbl.out HH.out) j hjl
          have hd' := Lib.hid (hd.out.trans (depF_step hjl (by omega)))
          obtain ⟨rfl, _⟩ := rd_i1 (rd_cons rfl hx).1
          generalize l[j].1 = k at *
          clear hx hd q1 q2 q3
          have fin : ∀ (wz : World) (lev : Int), lev = dLev k level → Below w.heap.size w wz → -1 ≤ lev → lev ≤ (j : Int) + 1 → ∃ (j' : Nat) (level' most' : Int), j' ≤ n ∧ Value.int .i64 lev = .int .i64 level' ∧ Value.int .i64 (max most lev) = .int .i64 most' ∧ Value.int .i64 ((j : Int) + 1) = .int .i64 j' ∧ -1 ≤ level' ∧ level' ≤ j' ∧ 0 ≤ most' ∧ most' ≤ j' ∧ Hid (R = depF (l.drop j') level' most') ∧ Hid (Below w.heap.size w wz) :=
            fun wz lev hlev hbz b1 b2 => ⟨j + 1, lev, max most lev, by omega, rfl, rfl, by simp, b1, by simp; omega, by omega, by simp; omega, by show R = _; rw [hd'.out, hlev], hbz⟩
          have FIN := Lib.hid fin
          clear fin
          by_cases h1 : (k == 1) = true
          · have e1 : k = 1 := by simpa using h1
            subst e1
            go_wp2_with fail
            refine (l00Max_c _ _ _).mono ?_
            rintro e w1 ⟨rfl, rfl⟩
            go_wp2_with fail
            go_roundw
            case rel => exact FIN.out _ _ (dLev_1 level).symm hbl.out (by omega) (by omega)
            case measure => simp [intOf]; omega
          · have h1 : (k == 1) = false := by simpa using h1
            have n1 : ¬ k = 1 := by simpa using h1
            by_cases h3 : (k == 3) = true
            · have e3 : k = 3 := by simpa using h3
              subst e3
              go_wp2_with fail
              refine (l00Max_c _ _ _).mono ?_
              rintro e w1 ⟨rfl, rfl⟩
              go_wp2_with fail
              go_roundw
              case rel => exact FIN.out _ _ (dLev_3 level).symm hbl.out (by omega) (by omega)
              case measure => simp [intOf]; omega
            · have h3 : (k == 3) = false := by simpa using h3
              have n3 : ¬ k = 3 := by simpa using h3
              go_wp2_with fail
              refine (l00Max_c _ _ _).mono ?_
              rintro e w1 ⟨rfl, rfl⟩
              go_wp2_with fail
              go_roundw
              case rel => exact FIN.out _ _ (dLev_no n1 n3).symm hbl.out (by omega) (by omega)
              case measure => simp [intOf]; omega
      · obtain rfl : j = n := by omega
        go_wp2_with fail
        refine bodyPost_ret (v := .tuple #[.int .i64 (most), .int .i64 (0)]) (by simp [results, Try.results9, go_sem]) rfl ⟨?_, hbl.out⟩
        rw [hd.out, List.drop_of_length_le (by rw [HN.out]; exact Nat.le_refl _)]
        rfl

set_option maxRecDepth 100000 in
set_option maxHeartbeats 1000000 in
theorem DepthOf_c (l : List LineT) (v : Value) (w : World) (r : Rd w [v] l) :
    Calls Try.prog 11 #[v] w fun e w' => e = .returned (.tuple #[.int .i64 (depthOf l).1, .int .i64 (depthOf l).2]) ∧ Below w.heap.size w w' := by
  obtain ⟨a, c, rfl, h⟩ := rd_list r
  have hb := (rdSl_len h).2
  unfold maxLen at hb
  clear r
  by_cases hbig : 4000 < l.length
  · go_enter Try.func11, Try.ntmps11
    go_wp2_with fail
    refine bodyPost_ret (v := .tuple #[.int .i64 (0), .int .i64 (3)]) (by simp [results, Try.results11, go_sem]) rfl ⟨?_, Below.refl _ _⟩
    unfold depthOf; rw [if_pos hbig]
  · have HD : Hid (depthOf l = depF l 0 0) := by show depthOf l = _; unfold depthOf; rw [if_neg hbig]
    generalize hR : depthOf l = R at *
    generalize hn : l.length = n at *
    have HN := Lib.hid hn
    have HH := Lib.hid h
    clear hn h hR
    go_enter Try.func11, Try.ntmps11
    go_wp2_with fail
    go_loopw [4, 5, 13] (fun lv mo i wr => ∃ (j : Nat) (level most : Int), j ≤ n ∧ lv = .int .i64 level ∧ mo = .int .i64 most ∧ i = .int .i64 j ∧ -1 ≤ level ∧ level ≤ j ∧ 0 ≤ most ∧ most ≤ j ∧ Hid (R = depF (l.drop j) level most) ∧ Hid (Below w.heap.size w wr)) (fun _ _ i _ => n - (intOf i).toNat)
    case atStart => exact ⟨0, 0, 0, Nat.zero_le _, rfl, rfl, rfl, by omega, by omega, by omega, by omega, HD.out, Below.refl _ _⟩
    case round =>
      obtain ⟨j, level, most, hj, rfl, rfl, rfl, l0, l1, m0, m1, hd, hbl⟩ := hrel
      by_cases hlt : j < n
      · have hjl : j < l.length := by rw [HN.out]; exact hlt
        obtain ⟨b, o, v0, v1, v2, v3, rfl, q0, q1, q2, q3, hx⟩ := rdSl_four rfl (rdSl_mono hbl.out HH.out) j hjl
        obtain ⟨rfl, _⟩ := rd_i1 (rd_cons rfl hx).1
        obtain ⟨rfl, _⟩ := rd_i1 (rd_cons rfl (rd_cons rfl hx).2).1
        obtain ⟨rfl, _⟩ := rd_i1 (rd_cons rfl (rd_cons rfl (rd_cons rfl hx).2).2).1
        obtain ⟨rfl, _⟩ := rd_i1 (rd_cons rfl (rd_cons rfl (rd_cons rfl hx).2).2).2
        clear hx
        generalize l[j].2.1 = k1 at *
        generalize l[j].2.2.1 = k2 at *
        generalize l[j].2.2.2 = k3 at *
        by_cases hneg : level < 0
        · go_wp2_with fail
          refine bodyPost_ret (v := .tuple #[.int .i64 (0), .int .i64 (4)]) (by simp [results, Try.results11, go_sem]) rfl ⟨?_, (hbl.out.alloc hbl.out.size _)⟩
          rw [hd.out, depF_neg hjl hneg]
        · have hd' := Lib.hid (hd.out.trans (depF_step hjl (by omega)))
          generalize l[j].1 = k at *
          clear hd
          have fin : ∀ (wz : World) (lev : Int), lev = dLev k level → Below w.heap.size w wz → -1 ≤ lev → lev ≤ (j : Int) + 1 → ∃ (j' : Nat) (level' most' : Int), j' ≤ n ∧ Value.int .i64 lev = .int .i64 level' ∧ Value.int .i64 (max most lev) = .int .i64 most' ∧ Value.int .i64 ((j : Int) + 1) = .int .i64 j' ∧ -1 ≤ level' ∧ level' ≤ j' ∧ 0 ≤ most' ∧ most' ≤ j' ∧ Hid (R = depF (l.drop j') level' most') ∧ Hid (Below w.heap.size w wz) :=
            fun wz lev hlev hbz b1 b2 => ⟨j + 1, lev, max most lev, by omega, rfl, rfl, by simp, b1, by simp; omega, by omega, by simp; omega, by show R = _; rw [hd'.out, hlev], hbz⟩
          have FIN := Lib.hid fin
          clear fin
          by_cases h1 : (k == 1) = true
          · have e1 : k = 1 := by simpa using h1
            subst e1
            go_wp2_with fail
            go_roundw
            case rel => simp only [max_ite]; exact FIN.out _ _ (dLev_1 level).symm (hbl.out.alloc hbl.out.size _) (by omega) (by omega)
            case measure => simp [intOf]; omega
          · have h1 : (k == 1) = false := by simpa using h1
            have n1 : ¬ k = 1 := by simpa using h1
            by_cases h3 : (k == 3) = true
            · have e3 : k = 3 := by simpa using h3
              subst e3
              go_wp2_with fail
              go_roundw
              case rel => simp only [max_ite]; exact FIN.out _ _ (dLev_3 level).symm (hbl.out.alloc hbl.out.size _) (by omega) (by omega)
              case measure => simp [intOf]; omega
            · have h3 : (k == 3) = false := by simpa using h3
              have n3 : ¬ k = 3 := by simpa using h3
              go_wp2_with fail
              go_roundw
              case rel => simp only [max_ite]; exact FIN.out _ _ (dLev_no n1 n3).symm (hbl.out.alloc hbl.out.size _) (by omega) (by omega)
              case measure => simp [intOf]; omega
      · obtain rfl : j = n := by omega
        go_wp2_with fail
        refine bodyPost_ret (v := .tuple #[.int .i64 (most), .int .i64 (0)]) (by simp [results, Try.results11, go_sem]) rfl ⟨?_, hbl.out⟩
        rw [hd.out, List.drop_of_length_le (by rw [HN.out]; exact Nat.le_refl _)]
        rfl

end Go.Proofs.Ytndpinikniameaa
