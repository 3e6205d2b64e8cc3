/-
  CONTRACTS: mark and held on slices of slices and of equations.
-/
import Derived.Test.YtkbeihkjhmillaaLens
import Derived.Test.YtkbeihkjhmillaaSz
namespace Go.Proofs.Ytkbeihkjhmillaa
open Go.RowKit
open Rep (Rd Own sz)
set_option linter.unusedSimpArgs false
set_option linter.unusedVariables false

theorem putArr_same {cur : Array Value} {o : Nat} {v : Value} (vs : List Value) (h : cur[o]? = some v) : putArr cur o (v :: vs) = putArr cur (o + 1) vs := by
  rw [putArr]
  congr 1
  apply Array.ext_getElem?
  intro i
  by_cases hi : o = i
  · subst hi
    have := (Array.getElem?_eq_some_iff.1 h).1
    rw [Array.getElem?_setIfInBounds_self_of_lt this, h]
  · rw [Array.getElem?_setIfInBounds_ne hi]
theorem set_mid {α : Type} {ys l : List α} {j : Nat} (hy : ys.length = j) (hj : j < l.length) (y : α) : (ys ++ l.drop j).set j y = (ys ++ [y]) ++ l.drop (j + 1) := by
  subst hy
  rw [List.set_append_right _ _ (Nat.le_refl _), Nat.sub_self, List.drop_eq_getElem_cons hj, List.set_cons_zero, List.append_assoc]; rfl
theorem get_mid {α : Type} {ys l : List α} {j : Nat} (hy : ys.length = j) (hj : j < l.length) (h : j < (ys ++ l.drop j).length) : (ys ++ l.drop j)[j] = l[j] := by
  subst hy
  rw [List.getElem_append_right (Nat.le_refl _)]
  simp
theorem len_mid {α : Type} {ys l : List α} {j : Nat} (hy : ys.length = j) (hj : j ≤ l.length) : (ys ++ l.drop j).length = l.length := by simp [hy]; omega

def heldLists : List (List Int) → Int → Int → Prop := heldL heldInts
set_option maxRecDepth 100000 in
set_option maxHeartbeats 1000000 in
theorem markInt64SS_h (l : List (List Int)) (v : Value) (ps : List Nat) (k : Int) (w : World) (r : Own ps w [v] l) (hn : ps.Nodup) (k0 : 0 ≤ k) (k1 : k + (l.map List.length).sum ≤ 1000000000) :
    Calls Try.prog 59 #[v, .int .i64 k] w fun e w' => ∃ y m, e = .returned (.int .i64 m) ∧ k ≤ m ∧ m ≤ k + (l.map List.length).sum ∧ Own ps w' [v] y ∧ heldLists y k m ∧ y.length = l.length ∧ But ps w w' := by
  have r' := own_list r
  obtain ⟨a, c, hv, hb⟩ := ownSl_len r'
  unfold maxLen at hb
  have HV := Lib.hid hv
  have R := Lib.hid r'
  have HN := Lib.hid hn
  rw [hv]
  clear hv r r' hn
  go_enter Try.func59, Try.ntmps59
  go_wp2_with fail
  go_loopw [1, 5] (fun kk i wr => ∃ (j : Nat) (ys : List (List Int)) (q : Int), j ≤ l.length ∧ i = .int .i64 j ∧ kk = .int .i64 q ∧ k ≤ q ∧ q ≤ k + (sumTo List.length l j : Nat) ∧ Hid (ys.length = j) ∧ Hid (heldLists ys k q) ∧ Hid (But ps w wr) ∧ Hid (OwnSl ps wr v (ys ++ l.drop j))) (fun _ i _ => l.length - (intOf i).toNat)
  case atStart => exact ⟨0, [], k, Nat.zero_le _, rfl, rfl, Int.le_refl _, by simp [sumTo], rfl, rfl, But.refl _ _, by simpa [Hid] using R.out⟩
  case round =>
    obtain ⟨j, ys, q, hj, rfl, rfl, q0, q1, hyl, hh, hbut, hown⟩ := hrel
    by_cases hlt : j < l.length
    · obtain ⟨g, o, c', cur, e, p, vs, hv2, hg, hO, hc, hgp, hgn, hpn, hpp, hput⟩ := own_elem hown.out HN.out j (by rw [len_mid hyl.out hj]; exact hlt)
      rw [get_mid hyl.out hlt] at hO
      rw [len_mid hyl.out hj] at hv2
      have hv3 := HV.out
      rw [hv2] at hv3
      simp only [Value.slice.injEq] at hv3
      obtain ⟨rfl, -, rfl⟩ := hv3
      have hvl := Rep.rd_len (Rep.own_rd hO)
      obtain ⟨u0, rfl⟩ := List.length_eq_one_iff.1 hvl
      have hs0 := sumTo_succ List.length l j hlt
      have hs1 := sumTo_le List.length l (j + 1)
      have hcell : wr.cell? ⟨g, o + j, none⟩ = some u0 := by
        have := hc 0 (by simp)
        rw [cell_at_block hg]
        simpa using this
      have HO := Lib.hid hO
      have HG := Lib.hid hg
      have HC := Lib.hid hc
      have HP := Lib.hid hput
      have HPP := Lib.hid hpp
      have HGN := Lib.hid hgn
      have HS := Lib.hid hs0
      have HS1 := Lib.hid hs1
      obtain ⟨a0, c0, rfl, _⟩ := rd_list (Rep.own_rd hO)
      clear hO hg hc hput hs0 hs1 hv2
      go_wp2_with fail
      refine (markInt64S_h l[j] _ p q _ HO.out (by omega) (by have := HS.out; have := HS1.out; omega)).mono ?_
      rintro e1 w1 ⟨y, m, rfl, m0, m1, hy, hh1, _, hb1⟩
      have HY := Lib.hid hy
      have HH1 := Lib.hid hh1
      clear hy hh1
      go_wp2_with fail
      go_roundw
      case rel =>
        refine ⟨j + 1, ys ++ [y], m, by omega, by go_num, rfl, by omega, by have := HS.out; omega, ?_, ?_, ?_, ?_⟩
        · simp [Hid, hyl.out]
        · exact heldL_snoc hh.out HH1.out m0
        · exact hbut.out.trans (hb1.mono HPP.out)
        · show OwnSl _ _ _ _
          rw [← set_mid hyl.out hlt]
          have hgl : g < wr.heap.size := (Array.getElem?_eq_some_iff.1 HG.out).1
          refine HP.out w1 _ y ?_ HY.out (fun z hz hzp _ => ?_)
          · rw [hb1.block g hgl HGN.out, HG.out, putArr_same _ (by simpa using HC.out 0 (by simp))]
            rfl
          · by_cases hzl : z < wr.heap.size
            · exact hb1.block z hzl hzp
            · have hO2 : Own ps wr [v] (ys ++ l.drop j) := ⟨v, rfl, hown.out⟩
              have := Rep.own_lt hO2 z hz
              omega
      case measure => simp [intOf]; omega
    · obtain rfl : j = l.length := by omega
      have hs := sumTo_all List.length l
      go_wp2_with fail
      go_ret
      have hfin := hown.out
      rw [List.drop_length, List.append_nil] at hfin
      rw [← HV.out]
      exact ⟨ys, q, rfl, q0, by rw [← hs]; exact q1, ⟨_, rfl, hfin⟩, hh.out, hyl.out, hbut.out⟩
set_option maxRecDepth 100000 in
set_option maxHeartbeats 1000000 in
theorem heldInt64SS_h (l : List (List Int)) (v : Value) (k m : Int) (w : World) (r : Rd w [v] l) (h : heldLists l k m) (k0 : 0 ≤ k) (k1 : m ≤ 1000000000) :
    Calls Try.prog 60 #[v, .int .i64 k] w fun e w' => e = .returned (.int .i64 m) ∧ w = w' := by
  obtain ⟨a, c, rfl, hr⟩ := rd_list r
  have hb := (rdSl_len hr).2
  unfold maxLen at hb
  have HR := Lib.hid hr
  have HH := Lib.hid h
  clear r hr h
  go_enter Try.func60, Try.ntmps60
  go_wp2_with fail
  go_loopw [1, 5] (fun kk i wr => ∃ (j : Nat) (q : Int), j ≤ l.length ∧ i = .int .i64 j ∧ kk = .int .i64 q ∧ 0 ≤ q ∧ Hid (heldLists (l.drop j) q m) ∧ wr = w) (fun _ i _ => l.length - (intOf i).toNat)
  case atStart => exact ⟨0, k, Nat.zero_le _, rfl, rfl, k0, by simpa [Hid] using HH.out, rfl⟩
  case round =>
    obtain ⟨j, q, hj, rfl, rfl, q0, hh, rfl⟩ := hrel
    by_cases hlt : j < l.length
    · obtain ⟨b, o, u0, rfl, f0, hx⟩ := rdSl_one rfl HR.out j hlt
      have HX := Lib.hid hx
      obtain ⟨a0, c0, rfl, _⟩ := rd_list hx
      clear hx
      obtain ⟨m', hE, hm, hrest⟩ := heldL_drop hlt hh.out
      have hle := heldL_le hrest
      have HE := Lib.hid hE
      have HT := Lib.hid hrest
      clear hE hrest
      go_wp2_with fail
      refine (heldInt64S_h l[j] _ q m' _ HX.out HE.out q0 (by omega)).mono ?_
      rintro e w1 ⟨rfl, rfl⟩
      go_wp2_with fail
      go_roundw
      case rel => exact ⟨j + 1, m', by omega, by go_num, rfl, by omega, HT.out, trivial⟩
      case measure => simp [intOf]; omega
    · obtain rfl : j = l.length := by omega
      go_wp2_with fail
      go_ret
      refine ⟨ret_int ?_, rfl⟩
      have := hh.out
      rw [List.drop_length] at this
      exact this

end Go.Proofs.Ytkbeihkjhmillaa
