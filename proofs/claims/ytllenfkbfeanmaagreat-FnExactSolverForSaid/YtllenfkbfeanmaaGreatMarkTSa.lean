/-
  CONTRACTS: mark and held on relations, constraints, templates, instances, steps.
-/
import Derived.Test.YtllenfkbfeanmaaGreatKindsSa
namespace Go.Proofs.YtllenfkbfeanmaaGreat
open Go.RowKit
open Rep (Rd Own sz)
set_option linter.unusedSimpArgs false
set_option linter.unusedVariables false

def mcRelE (e : RelT) : Nat := (e.2.map List.length).sum + 1
def heldRelE (e : RelT) (k m : Int) : Prop := e.1 = k ∧ heldLists e.2 (k + 1) m ∧ k + 1 ≤ m
def heldRelsL : List RelT → Int → Int → Prop := heldL heldRelE
set_option maxRecDepth 100000 in
set_option maxHeartbeats 2000000 in
theorem markRelS_h (l : List RelT) (v : Value) (ps : List Nat) (k : Int) (w : World) (r : Own ps w [v] l) (hn : ps.Nodup) (k0 : 0 ≤ k) (k1 : k + (l.map mcRelE).sum ≤ 1000000000) :
    Calls Tryz.prog 69 #[v, .int .i64 k] w fun e w' => ∃ y m, e = .returned (.int .i64 m) ∧ k ≤ m ∧ m ≤ k + (l.map mcRelE).sum ∧ Own ps w' [v] y ∧ heldRelsL y k m ∧ y.length = l.length ∧ But ps w w' := by
  have r' := own_list r
  obtain ⟨a, c, hv, hb⟩ := ownSl_len r'
  unfold maxLen at hb
  have HV := Lib.hid hv
  have R := Lib.hid r'
  have HN := Lib.hid hn
  rw [hv]
  clear hv r r' hn
  go_enter Tryz.func69, Tryz.ntmps69
  go_wp2_with fail
  go_loopw [1, 5] (fun kk i wr => ∃ (j : Nat) (ys : List RelT) (q : Int), j ≤ l.length ∧ i = .int .i64 j ∧ kk = .int .i64 q ∧ k ≤ q ∧ q ≤ k + (sumTo mcRelE l j : Nat) ∧ Hid (ys.length = j) ∧ Hid (heldRelsL ys k q) ∧ Hid (But ps w wr) ∧ Hid (OwnSl ps wr v (ys ++ l.drop j))) (fun _ i _ => l.length - (intOf i).toNat)
  case atStart => exact ⟨0, [], k, Nat.zero_le _, rfl, rfl, Int.le_refl _, by simp [sumTo], rfl, rfl, But.refl _ _, by simpa [Hid] using R.out⟩
  case round =>
    obtain ⟨j, ys, q, hj, rfl, rfl, q0, q1, hyl, hh, hbut, hown⟩ := hrel
    by_cases hlt : j < l.length
    · obtain ⟨g, o, c', cur, e, p, vs, hv2, hg, hO, hc, hgp, hgn, hpn, hpp, hput⟩ := own_elem hown.out HN.out j (by rw [len_mid hyl.out hj]; exact hlt)
      rw [get_mid hyl.out hlt] at hO
      rw [len_mid hyl.out hj] at hv2
      have hv3 := HV.out
      rw [hv2] at hv3
      simp only [Value.slice.injEq] at hv3
      obtain ⟨rfl, -, rfl⟩ := hv3
      have hvl := Rep.rd_len (Rep.own_rd hO)
      obtain ⟨u0, u1, rfl⟩ := len_2 hvl
      have hs0 := sumTo_succ mcRelE l j hlt
      have hs1 := sumTo_le mcRelE l (j + 1)
      have hcu0 : cur[o + j * 2]? = some u0 := by simpa using hc 0 (by simp)
      have hcu1 : cur[o + j * 2 + 1]? = some u1 := by simpa using hc 1 (by simp)
      have hcell : wr.cell? ⟨g, o + j * 2, none⟩ = some u0 := by rw [cell_at_block hg]; exact hcu0
      have hfree : wr.frozen? ⟨g, o + j * 2, none⟩ = false := free_at_block hg
      have hcell1 : wr.cell? ⟨g, o + j * 2 + 1, none⟩ = some u1 := by rw [cell_at_block hg]; exact hcu1
      obtain ⟨p0, p1, rfl, hO0, hO1⟩ := own_cons rfl hO
      obtain ⟨rfl, rfl, hI⟩ := own_i1 hO0
      rw [List.nil_append] at hgn hpn hpp hput
      have hq9 : q ≤ 1000000000 := by omega
      obtain ⟨a0, c0, rfl, _⟩ := rd_list (Rep.own_rd hO1)
      have hbw2 : But [g] wr (wr.setCell ⟨g, o + j * 2, none⟩ (.int .i64 q)) := OnlyAt.but ((OnlyAt.refl [g] wr).setCell (p := ⟨g, o + j * 2, none⟩) (by simp) _)
      have hg2 : (wr.setCell ⟨g, o + j * 2, none⟩ (.int .i64 q)).heap[g]? = some (.cells (cur.setIfInBounds (o + j * 2) (.int .i64 q)) e (0, 0)) := heap_setCell_at wr g _ _ cur e (0, 0) hg
      have hO2 := Own.but hO1 hbw2 (fun z hz hzg => hgn (by rw [List.mem_singleton] at hzg; exact hzg ▸ hz))
      have HCU1 := Lib.hid (show (cur.setIfInBounds (o + j * 2) (.int .i64 q))[o + j * 2 + 1]? = some (.slice a0 l[j].2.length c0) by rw [Array.getElem?_setIfInBounds_ne (by omega)]; exact hcu1)
      have HB2 := Lib.hid hbw2
      have HO := Lib.hid hO2
      have HG2 := Lib.hid hg2
      have HP := Lib.hid hput
      have HPP := Lib.hid hpp
      have HGP := Lib.hid hgp
      have HGN := Lib.hid hgn
      have HPN := Lib.hid hpn
      have HS := Lib.hid hs0
      have HS1 := Lib.hid hs1
      have HMC := Lib.hid (show ∀ e : RelT, mcRelE e = (e.2.map List.length).sum + 1 from fun _ => rfl)
      clear hO hO0 hO1 hO2 hg hg2 hc hput hs0 hs1 hv2 hcu0 hcu1 hbw2 hpp hpn
      go_wp2_with fail
      refine (markInt64SS_h l[j].2 _ p1 (q + 1) _ HO.out HPN.out (by omega) (by have := HS.out; have := HS1.out; have := HMC.out l[j]; omega)).mono ?_
      rintro e1 w1 ⟨y, m, rfl, m0, m1, hy, hh1, _, hb1⟩
      have HY := Lib.hid hy
      have HH1 := Lib.hid hh1
      clear hy hh1
      go_wp2_with fail
      go_roundw
      case rel =>
        have hgl : g < wr.heap.size := by
          have := (Array.getElem?_eq_some_iff.1 HG2.out).1
          simpa [World.setCell] using this
        have hmc := HMC.out l[j]
        refine ⟨j + 1, ys ++ [(q, y)], m, by omega, by go_num, rfl, by omega, by have := HS.out; omega, ?_, ?_, ?_, ?_⟩
        · simp [Hid, hyl.out]
        · exact heldL_snoc hh.out ⟨rfl, HH1.out, m0⟩ (by omega)
        · exact (hbut.out.trans (HB2.out.mono (fun z hz => by rw [List.mem_singleton] at hz; exact hz ▸ HGP.out))).trans (hb1.mono HPP.out)
        · show OwnSl _ _ _ _
          rw [← set_mid hyl.out hlt]
          refine HP.out _ [.int .i64 q, .slice a0 l[j].2.length c0] (q, y) ?_ (mk_own (p := []) ⟨rfl, rfl, i64_of _ (by omega) (by omega)⟩ HY.out) (fun z hz hzp hzg => ?_)
          · rw [hb1.block g (by simpa [World.setCell] using hgl) HGN.out, HG2.out]
            rw [show sz (RelT) = 2 from rfl, putArr, putArr_same _ HCU1.out]
            rfl
          · have hzl : z < wr.heap.size := by
              have hO2 : Own ps wr [v] (ys ++ l.drop j) := ⟨v, rfl, hown.out⟩
              exact Rep.own_lt hO2 z hz
            rw [hb1.block z (by simpa [World.setCell] using hzl) hzp, Below.heap_setCell _ _ _ _ hzg]
      case measure => simp [intOf]; omega
    · obtain rfl : j = l.length := by omega
      have hs := sumTo_all mcRelE l
      go_wp2_with fail
      go_ret
      have hfin := hown.out
      rw [List.drop_length, List.append_nil] at hfin
      rw [← HV.out]
      exact ⟨ys, q, rfl, q0, by rw [← hs]; exact q1, ⟨_, rfl, hfin⟩, hh.out, hyl.out, hbut.out⟩
theorem mcl_le {α : Type} {c mc : α → Nat} (h : ∀ e, mc e ≤ c e + 1) (l : List α) : (l.map mc).sum ≤ cL c l := by
  unfold cL
  induction l with
  | nil => simp
  | cons a l ih =>
    have := h a
    simp only [List.map_cons, List.sum_cons, List.length_cons]; omega
def mc_Template (x : Tmpl) : Nat := (x.2.map mcRelE).sum
def held_Template (x : Tmpl) (k m : Int) : Prop := heldRelsL x.2 k m
theorem mcb_Template (x : Tmpl) : mc_Template x ≤ cost_Template x := mcl_le (fun e => by unfold mcRelE ; simp only [cost_Rel, cost_Con, cost_Int64SS, cL]; omega) x.2
set_option maxHeartbeats 400000 in
theorem markTemplate_g (x : Tmpl) (v0 v1 : Value) (ps : List Nat) (k : Int) (w : World) (hx : Own ps w [v0, v1] x) (hn : ps.Nodup) (k0 : 0 ≤ k) (k1 : k + mc_Template x ≤ 1000000000) :
    Calls Tryz.prog 23 #[.agg #[v0, v1], .int .i64 k] w fun e w' => ∃ (y : Tmpl) (m : Int), e = .returned (.int .i64 m) ∧ k ≤ m ∧ m ≤ k + mc_Template x ∧ Own ps w' [v0, v1] y ∧ held_Template y k m ∧ But ps w w' := by
  obtain ⟨x0, x2⟩ := x
  obtain ⟨p, q, rfl, h0, h3⟩ := own_cons rfl hx
  obtain ⟨rfl, rfl, hI⟩ := own_i1 h0
  obtain ⟨a, c, rfl, _⟩ := rd_list (Own.rd h3)
  have hs := (St.start w).alloc #[.int .i64 x0, .slice a x2.length c] 26 rfl
  have H := Lib.hid (Own.mono h3 hs.bel)
  have HI := Lib.hid hI
  have HN := Lib.hid hn
  clear hx h0 hI h3 hn
  go_enter Tryz.func23, Tryz.ntmps23
  go_wp2_with fail
  refine (markRelS_h x2 _ q k _ H.out (by simpa using HN.out) k0 k1).mono ?_
  rintro e w1 ⟨y, m, rfl, m0, m1, hO, hh, _, hb⟩
  have HH := Lib.hid hh
  clear hh
  go_wp2
  go_ret
  exact ⟨(x0, y), m, rfl, m0, m1, mk_own (p := []) ⟨rfl, rfl, HI.out⟩ hO, HH.out, ((but_of hs.bel).trans hb).mono (by simp)⟩
end Go.Proofs.YtllenfkbfeanmaaGreat

