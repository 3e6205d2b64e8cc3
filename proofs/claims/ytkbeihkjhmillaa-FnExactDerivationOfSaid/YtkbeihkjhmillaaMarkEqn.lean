/-
  CONTRACTS: mark and held on slices of equations.
-/
import Derived.Test.YtkbeihkjhmillaaMark
import Derived.Test.YtkbeihkjhmillaaOpen
import Derived.Test.YtkbeihkjhmillaaSz
namespace Go.Proofs.Ytkbeihkjhmillaa
open Go.RowKit
open Rep (Rd Own sz)
set_option linter.unusedSimpArgs false
set_option linter.unusedVariables false

def mcEqn (e : Eqn) : Nat := e.1.length + 1
def heldEqn (e : Eqn) (k m : Int) : Prop := ∃ a, heldInts e.1 k a ∧ k ≤ a ∧ e.2 = a ∧ m = a + 1
def heldEqns : List Eqn → Int → Int → Prop := heldL heldEqn
set_option maxRecDepth 100000 in
set_option maxHeartbeats 1000000 in
theorem markEquationS_h (l : List Eqn) (v : Value) (ps : List Nat) (k : Int) (w : World) (r : Own ps w [v] l) (hn : ps.Nodup) (k0 : 0 ≤ k) (k1 : k + (l.map mcEqn).sum ≤ 1000000000) :
    Calls Try.prog 87 #[v, .int .i64 k] w fun e w' => ∃ y m, e = .returned (.int .i64 m) ∧ k ≤ m ∧ m ≤ k + (l.map mcEqn).sum ∧ Own ps w' [v] y ∧ heldEqns y k m ∧ y.length = l.length ∧ But ps w w' := by
  have r' := own_list r
  obtain ⟨a, c, hv, hb⟩ := ownSl_len r'
  unfold maxLen at hb
  have HV := Lib.hid hv
  have R := Lib.hid r'
  have HN := Lib.hid hn
  rw [hv]
  clear hv r r' hn
  go_enter Try.func87, Try.ntmps87
  go_wp2_with fail
  go_loopw [1, 5] (fun kk i wr => ∃ (j : Nat) (ys : List Eqn) (q : Int), j ≤ l.length ∧ i = .int .i64 j ∧ kk = .int .i64 q ∧ k ≤ q ∧ q ≤ k + (sumTo mcEqn l j : Nat) ∧ Hid (ys.length = j) ∧ Hid (heldEqns ys k q) ∧ Hid (But ps w wr) ∧ Hid (OwnSl ps wr v (ys ++ l.drop j))) (fun _ i _ => l.length - (intOf i).toNat)
  case atStart => exact ⟨0, [], k, Nat.zero_le _, rfl, rfl, Int.le_refl _, by simp [sumTo], rfl, rfl, But.refl _ _, by simpa [Hid] using R.out⟩
  case round =>
    obtain ⟨j, ys, q, hj, rfl, rfl, q0, q1, hyl, hh, hbut, hown⟩ := hrel
    by_cases hlt : j < l.length
    · obtain ⟨g, o, c', cur, e, p, vs, hv2, hg, hO, hc, hgp, hgn, hpn, hpp, hput⟩ := own_elem hown.out HN.out j (by rw [len_mid hyl.out hj]; exact hlt)
      rw [get_mid hyl.out hlt] at hO
      rw [len_mid hyl.out hj] at hv2
      have hv3 := HV.out
      rw [hv2] at hv3
      simp only [Value.slice.injEq] at hv3
      obtain ⟨rfl, -, rfl⟩ := hv3
      have hvl := Rep.rd_len (Rep.own_rd hO)
      obtain ⟨u0, u1, rfl⟩ := len_2 hvl
      have hmc := Lib.hid (show mcEqn l[j] = l[j].1.length + 1 from rfl)
      have hs0 := sumTo_succ mcEqn l j hlt
      have hs1 := sumTo_le mcEqn l (j + 1)
      have hcell : wr.cell? ⟨g, o + j * 2, none⟩ = some u0 := by
        have := hc 0 (by simp)
        rw [cell_at_block hg]
        simpa using this
      have hfree : wr.frozen? ⟨g, o + j * 2 + 1, none⟩ = false := free_at_block hg
      have hcell1 : wr.cell? ⟨g, o + j * 2 + 1, none⟩ = some u1 := by
        have := hc 1 (by simp)
        rw [cell_at_block hg]
        simpa using this
      obtain ⟨p0, p1, rfl, hO0, hO1⟩ := own_cons rfl hO
      obtain ⟨rfl, rfl, hI⟩ := own_i1 hO1
      rw [List.append_nil] at hgn hpn hpp hput
      have HO := Lib.hid hO0
      have HG := Lib.hid hg
      have HC := Lib.hid hc
      have HP := Lib.hid hput
      have HPP := Lib.hid hpp
      have HGN := Lib.hid hgn
      have HS := Lib.hid hs0
      have HS1 := Lib.hid hs1
      obtain ⟨a0, c0, rfl, _⟩ := rd_list (Rep.own_rd hO0)
      clear hO hO0 hO1 hg hc hput hs0 hs1 hv2
      go_wp2_with fail
      refine (markInt64S_h l[j].1 _ p0 q _ HO.out (by omega) (by have := HS.out; have := HS1.out; have := hmc.out; omega)).mono ?_
      rintro e1 w1 ⟨y, m, rfl, m0, m1, hy, hh1, _, hb1⟩
      have HY := Lib.hid hy
      have HH1 := Lib.hid hh1
      clear hy hh1
      have hgl : g < wr.heap.size := (Array.getElem?_eq_some_iff.1 HG.out).1
      have hcells1 : w1.heap[g]? = some (.cells cur e (0, 0)) := by rw [hb1.block g hgl HGN.out, HG.out]
      have hfree1 : w1.frozen? ⟨g, o + j * 2 + 1, none⟩ = false := free_at_block hcells1
      have hc1 : w1.cell? ⟨g, o + j * 2 + 1, none⟩ = some (.int .i64 l[j].2) := by
        have := HC.out 1 (by simp)
        rw [cell_at_block hcells1]
        simpa using this
      have hmb : 0 ≤ m := by omega
      have hmu : m ≤ 1000000000 := by have := HS.out; have := HS1.out; have := hmc.out; omega
      have HC1 := Lib.hid hcells1
      clear hcells1
      go_wp2_with fail
      go_roundw
      case rel =>
        refine ⟨j + 1, ys ++ [(y, m)], m + 1, by omega, by go_num, rfl, by omega, by have := HS.out; have := hmc.out; omega, ?_, ?_, ?_, ?_⟩
        · simp [Hid, hyl.out]
        · exact heldL_snoc hh.out ⟨m, HH1.out, m0, rfl, rfl⟩ (by omega)
        · exact (hbut.out.trans (hb1.mono HPP.out)).trans (OnlyAt.but ((OnlyAt.refl ps w1).setCell (p := ⟨g, o + j * 2 + 1, none⟩) hgp _))
        · show OwnSl _ _ _ _
          rw [← set_mid hyl.out hlt]
          refine HP.out _ [_, .int .i64 m] (y, m) ?_ ⟨p0, [], [_], [_], by simp, rfl, Own.but HY.out (OnlyAt.but ((OnlyAt.refl [g] w1).setCell (p := ⟨g, o + j * 2 + 1, none⟩) (by simp) _)) (fun z hz hzg => HGN.out (by rw [List.mem_singleton] at hzg; exact hzg ▸ hz)), ⟨rfl, rfl, i64_of _ (by omega) (by have := HS.out; have := HS1.out; have := hmc.out; omega)⟩⟩ (fun z hz hzp hzg => ?_)
          · rw [heap_setCell_at w1 g _ _ cur e (0, 0) HC1.out, putArr_same _ (by simpa using HC.out 0 (by simp))]
            rfl
          · have hzl : z < wr.heap.size := by
              have hO2 : Own ps wr [v] (ys ++ l.drop j) := ⟨v, rfl, hown.out⟩
              exact Rep.own_lt hO2 z hz
            rw [Below.heap_setCell _ _ _ _ hzg]
            exact hb1.block z hzl hzp
      case measure => simp [intOf]; omega
    · obtain rfl : j = l.length := by omega
      have hs := sumTo_all mcEqn l
      go_wp2_with fail
      go_ret
      have hfin := hown.out
      rw [List.drop_length, List.append_nil] at hfin
      rw [← HV.out]
      exact ⟨ys, q, rfl, q0, by rw [← hs]; exact q1, ⟨_, rfl, hfin⟩, hh.out, hyl.out, hbut.out⟩
set_option maxRecDepth 100000 in
set_option maxHeartbeats 1000000 in
theorem heldEquationS_h (l : List Eqn) (v : Value) (k m : Int) (w : World) (r : Rd w [v] l) (h : heldEqns l k m) (k0 : 0 ≤ k) (k1 : m ≤ 1000000000) :
    Calls Try.prog 95 #[v, .int .i64 k] w fun e w' => e = .returned (.int .i64 m) ∧ w = w' := by
  obtain ⟨a, c, rfl, hr⟩ := rd_list r
  have hb := (rdSl_len hr).2
  unfold maxLen at hb
  have HR := Lib.hid hr
  have HH := Lib.hid h
  clear r hr h
  go_enter Try.func95, Try.ntmps95
  go_wp2_with fail
  go_loopw [1, 5] (fun kk i wr => ∃ (j : Nat) (q : Int), j ≤ l.length ∧ i = .int .i64 j ∧ kk = .int .i64 q ∧ 0 ≤ q ∧ Hid (heldEqns (l.drop j) q m) ∧ wr = w) (fun _ i _ => l.length - (intOf i).toNat)
  case atStart => exact ⟨0, k, Nat.zero_le _, rfl, rfl, k0, by simpa [Hid] using HH.out, rfl⟩
  case round =>
    obtain ⟨j, q, hj, rfl, rfl, q0, hh, rfl⟩ := hrel
    by_cases hlt : j < l.length
    · obtain ⟨b, o, u0, u1, rfl, f0, f1, hx⟩ := rdSl_two rfl HR.out j hlt
      have z := rd_cons rfl hx
      have HX := Lib.hid z.1
      obtain ⟨a0, c0, rfl, _⟩ := rd_list z.1
      obtain ⟨rfl, _⟩ := rd_i1 z.2
      clear hx z
      obtain ⟨m', ⟨a1, hE, ha1, he1, rfl⟩, hm, hrest⟩ := heldL_drop hlt hh.out
      have hne : (l[j].2 != a1) = false := by simp [he1]
      have HE1 := Lib.hid he1
      clear he1
      have hle := heldL_le hrest
      have HE := Lib.hid hE
      have HT := Lib.hid hrest
      clear hE hrest
      go_wp2_with fail
      refine (heldInt64S_h l[j].1 _ q a1 _ HX.out HE.out q0 (by omega)).mono ?_
      rintro e w1 ⟨rfl, rfl⟩
      go_wp2_with fail
      go_roundw
      case rel => exact ⟨j + 1, a1 + 1, by omega, by go_num, rfl, by omega, HT.out, trivial⟩
      case measure => simp [intOf]; omega
    · obtain rfl : j = l.length := by omega
      go_wp2_with fail
      go_ret
      refine ⟨ret_int ?_, rfl⟩
      have := hh.out
      rw [List.drop_length] at this
      exact this

end Go.Proofs.Ytkbeihkjhmillaa
