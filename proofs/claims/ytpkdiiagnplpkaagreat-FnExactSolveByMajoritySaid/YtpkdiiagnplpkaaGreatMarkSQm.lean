import Derived.Test.YtpkdiiagnplpkaaGreatMarkTQm
set_option linter.unusedSimpArgs false
set_option linter.unusedVariables false
set_option maxHeartbeats 2000000
set_option maxRecDepth 100000
namespace Go.Proofs.YtpkdiiagnplpkaaGreat
open Go.RowKit
open Rep (Rd Own sz)
abbrev StepT := Int × Int × Int
def mcStepE (e : StepT) : Nat := 3
def heldStepE (e : StepT) (k m : Int) : Prop := e.1 = k ∧ e.2.1 = k + 1 ∧ e.2.2 = k + 2 ∧ m = k + 3
def heldStepsL : List StepT → Int → Int → Prop := heldL heldStepE
theorem own_step {ps : List Nat} {w : World} {u0 u1 u2 : Value} {x : StepT} (h : Own ps w [u0, u1, u2] x) : ps = [] ∧ u0 = .int .i64 x.1 ∧ u1 = .int .i64 x.2.1 ∧ u2 = .int .i64 x.2.2 := by
 obtain ⟨p, q, rfl, h0, h3⟩ := own_cons rfl h
 obtain ⟨p', q', rfl, h1, h2⟩ := own_cons rfl h3
 obtain ⟨rfl, rfl, _⟩ := own_i1 h0
 obtain ⟨rfl, rfl, _⟩ := own_i1 h1
 obtain ⟨rfl, rfl, _⟩ := own_i1 h2
 exact ⟨rfl, rfl, rfl, rfl⟩
theorem step_own (w : World) {a b c : Int} (h0 : I64 a) (h1 : I64 b) (h2 : I64 c) : Own [] w [.int .i64 a, .int .i64 b, .int .i64 c] ((a, b, c) : StepT) :=
 mk_own (p := []) ⟨rfl, rfl, h0⟩ (mk_own (p := []) ⟨rfl, rfl, h1⟩ (⟨rfl, rfl, h2⟩ : Own [] w [.int .i64 c] c))
def mc_ArcStepS (x : List StepT) : Nat := (x.map mcStepE).sum
def held_ArcStepS (x : List StepT) (k m : Int) : Prop := heldStepsL x k m
theorem mcb_ArcStepS (x : List StepT) : mc_ArcStepS x ≤ 3 * cost_ArcStepS x := by
 show (x.map mcStepE).sum ≤ 3 * x.length
 induction x with
 | nil => simp
 | cons a x ih =>
  have : mcStepE a = 3 := rfl
  simp only [List.map_cons, List.sum_cons, List.length_cons]; omega
theorem markArcStepS_g (l : List StepT) (v : Value) (ps : List Nat) (k : Int) (w : World) (r : Own ps w [v] l) (hn : ps.Nodup) (k0 : 0 ≤ k) (k1 : k + mc_ArcStepS l ≤ 1000000000) :
 Calls Tryz.prog 52 #[v, .int .i64 k] w fun e w' => ∃ (y : List StepT) (m : Int), e = .returned (.int .i64 m) ∧ k ≤ m ∧ m ≤ k + mc_ArcStepS l ∧ Own ps w' [v] y ∧ held_ArcStepS y k m ∧ But ps w w' := by
 have r' := own_list r
 obtain ⟨a, c, hv, hb⟩ := ownSl_len r'
 unfold maxLen at hb
 have HV := qH hv
 have R := qH r'
 have HN := qH hn
 rw [hv]
 clear hv r r' hn
 unfold mc_ArcStepS at *
 go_enter Tryz.func52, Tryz.ntmps52
 go_wp2_with fail
 go_loopw [1, 5] (fun kk i wr => ∃ (j : Nat) (ys : List StepT) (q : Int), j ≤ l.length ∧ i = .int .i64 j ∧ kk = .int .i64 q ∧ k ≤ q ∧ q ≤ k + (sumTo mcStepE l j : Nat) ∧ Hid (ys.length = j) ∧ Hid (heldStepsL ys k q) ∧ Hid (But ps w wr) ∧ Hid (OwnSl ps wr v (ys ++ l.drop j))) (fun _ i _ => l.length - (intOf i).toNat)
 case atStart => exact ⟨0, [], k, Nat.zero_le _, rfl, rfl, Int.le_refl _, by simp [sumTo], rfl, rfl, But.refl _ _, by simpa [Hid] using R.out⟩
 case round =>
  obtain ⟨j, ys, q, hj, rfl, rfl, q0, q1, hyl, hh, hbut, hown⟩ := hrel
  by_cases hlt : j < l.length
  · obtain ⟨g, o, c', cur, e, p, vs, hv2, hg, hO, hc, hgp, hgn, hpn, hpp, hput⟩ := own_elem hown.out HN.out j (by rw [len_mid hyl.out hj]; exact hlt)
    rw [get_mid hyl.out hlt] at hO
    rw [len_mid hyl.out hj] at hv2
    have hv3 := HV.out
    rw [hv2] at hv3
    simp only [Value.slice.injEq] at hv3
    obtain ⟨rfl, -, rfl⟩ := hv3
    have hvl := Rep.rd_len (Rep.own_rd hO)
    obtain ⟨u0, u1, u2, rfl⟩ := len_3 hvl
    have hs0 := sumTo_succ mcStepE l j hlt
    have hs1 := sumTo_le mcStepE l (j + 1)
    have hmc : mcStepE l[j] = 3 := rfl
    have hcu0 : cur[o + j * 3]? = some u0 := by simpa using hc 0 (by simp)
    have hcu1 : cur[o + j * 3 + 1]? = some u1 := by simpa using hc 1 (by simp)
    have hcu2 : cur[o + j * 3 + 2]? = some u2 := by simpa using hc 2 (by simp)
    have hcell : wr.cell? ⟨g, o + j * 3, none⟩ = some u0 := by rw [cell_at_block hg]; exact hcu0
    have hcell1 : wr.cell? ⟨g, o + j * 3 + 1, none⟩ = some u1 := by rw [cell_at_block hg]; exact hcu1
    have hcell2 : wr.cell? ⟨g, o + j * 3 + 2, none⟩ = some u2 := by rw [cell_at_block hg]; exact hcu2
    have hfree : wr.frozen? ⟨g, o + j * 3, none⟩ = false := free_at_block hg
    have hfree1 : wr.frozen? ⟨g, o + j * 3 + 1, none⟩ = false := free_at_block hg
    have hfree2 : wr.frozen? ⟨g, o + j * 3 + 2, none⟩ = false := free_at_block hg
    obtain ⟨rfl, rfl, rfl, rfl⟩ := own_step hO
    have hq9 : q + 3 ≤ 1000000000 := by omega
    have HB3 := qH (show But [g] wr (((wr.setCell ⟨g, o + j * 3, none⟩ (.int .i64 q)).setCell ⟨g, o + j * 3 + 1, none⟩ (.int .i64 (q + 1))).setCell ⟨g, o + j * 3 + 2, none⟩ (.int .i64 (q + 1 + 1))) from
     OnlyAt.but ((((OnlyAt.refl [g] wr).setCell (p := ⟨g, o + j * 3, none⟩) (by simp) _).setCell (p := ⟨g, o + j * 3 + 1, none⟩) (by simp) _).setCell (p := ⟨g, o + j * 3 + 2, none⟩) (by simp) _))
    have hg3 : (((wr.setCell ⟨g, o + j * 3, none⟩ (.int .i64 q)).setCell ⟨g, o + j * 3 + 1, none⟩ (.int .i64 (q + 1))).setCell ⟨g, o + j * 3 + 2, none⟩ (.int .i64 (q + 1 + 1))).heap[g]? = some (.cells (((cur.setIfInBounds (o + j * 3) (.int .i64 q)).setIfInBounds (o + j * 3 + 1) (.int .i64 (q + 1))).setIfInBounds (o + j * 3 + 2) (.int .i64 (q + 1 + 1))) e (0, 0)) :=
     heap_setCell_at _ g _ _ _ e (0, 0) (heap_setCell_at _ g _ _ _ e (0, 0) (heap_setCell_at wr g _ _ cur e (0, 0) hg))
    have HX := qH (hput _ [.int .i64 q, .int .i64 (q + 1), .int .i64 (q + 1 + 1)] ((q, q + 1, q + 1 + 1) : StepT) hg3 (step_own _ (i64_of _ (by omega) (by omega)) (i64_of _ (by omega) (by omega)) (i64_of _ (by omega) (by omega))) (fun z hz hzp hzg => HB3.out.block z (Rep.own_lt (show Own ps wr [v] (ys ++ l.drop j) from ⟨v, rfl, hown.out⟩) z hz) (by simpa using hzg)))
    have HGP := qH hgp
    have HS := qH hs0
    clear hO hg hg3 hc hput hs0 hs1 hv2 hcu0 hcu1 hcu2 hpp hpn hgn hgp
    go_wp2_with fail
    go_roundw
    case rel =>
     refine ⟨j + 1, ys ++ [(q, q + 1, q + 1 + 1)], q + 3, by omega, by go_num, by go_num, by omega, by have := HS.out; omega, ?_, ?_, ?_, ?_⟩
     · simp [Hid, hyl.out]
     · exact heldL_snoc hh.out ⟨rfl, rfl, (by show q + 1 + 1 = q + 2; omega), rfl⟩ (by omega)
     · exact hbut.out.trans (HB3.out.mono (fun z hz => by rw [List.mem_singleton] at hz; exact hz ▸ HGP.out))
     · show OwnSl _ _ _ _
       rw [← set_mid hyl.out hlt]
       exact HX.out
    case measure => simp [intOf]; omega
  · obtain rfl : j = l.length := by omega
    have hs := sumTo_all mcStepE l
    go_wp2_with fail
    go_ret
    have hfin := hown.out
    rw [List.drop_length, List.append_nil] at hfin
    rw [← HV.out]
    exact ⟨ys, q, rfl, q0, by rw [← hs]; exact q1, ⟨_, rfl, hfin⟩, hh.out, hbut.out⟩
def mc_PairStepS (x : List StepT) : Nat := (x.map mcStepE).sum
def held_PairStepS (x : List StepT) (k m : Int) : Prop := heldStepsL x k m
theorem mcb_PairStepS (x : List StepT) : mc_PairStepS x ≤ 3 * cost_PairStepS x := by
 show (x.map mcStepE).sum ≤ 3 * x.length
 induction x with
 | nil => simp
 | cons a x ih =>
  have : mcStepE a = 3 := rfl
  simp only [List.map_cons, List.sum_cons, List.length_cons]; omega
theorem markPairStepS_g (l : List StepT) (v : Value) (ps : List Nat) (k : Int) (w : World) (r : Own ps w [v] l) (hn : ps.Nodup) (k0 : 0 ≤ k) (k1 : k + mc_PairStepS l ≤ 1000000000) :
 Calls Tryz.prog 53 #[v, .int .i64 k] w fun e w' => ∃ (y : List StepT) (m : Int), e = .returned (.int .i64 m) ∧ k ≤ m ∧ m ≤ k + mc_PairStepS l ∧ Own ps w' [v] y ∧ held_PairStepS y k m ∧ But ps w w' := by
 have r' := own_list r
 obtain ⟨a, c, hv, hb⟩ := ownSl_len r'
 unfold maxLen at hb
 have HV := qH hv
 have R := qH r'
 have HN := qH hn
 rw [hv]
 clear hv r r' hn
 unfold mc_PairStepS at *
 go_enter Tryz.func53, Tryz.ntmps53
 go_wp2_with fail
 go_loopw [1, 5] (fun kk i wr => ∃ (j : Nat) (ys : List StepT) (q : Int), j ≤ l.length ∧ i = .int .i64 j ∧ kk = .int .i64 q ∧ k ≤ q ∧ q ≤ k + (sumTo mcStepE l j : Nat) ∧ Hid (ys.length = j) ∧ Hid (heldStepsL ys k q) ∧ Hid (But ps w wr) ∧ Hid (OwnSl ps wr v (ys ++ l.drop j))) (fun _ i _ => l.length - (intOf i).toNat)
 case atStart => exact ⟨0, [], k, Nat.zero_le _, rfl, rfl, Int.le_refl _, by simp [sumTo], rfl, rfl, But.refl _ _, by simpa [Hid] using R.out⟩
 case round =>
  obtain ⟨j, ys, q, hj, rfl, rfl, q0, q1, hyl, hh, hbut, hown⟩ := hrel
  by_cases hlt : j < l.length
  · obtain ⟨g, o, c', cur, e, p, vs, hv2, hg, hO, hc, hgp, hgn, hpn, hpp, hput⟩ := own_elem hown.out HN.out j (by rw [len_mid hyl.out hj]; exact hlt)
    rw [get_mid hyl.out hlt] at hO
    rw [len_mid hyl.out hj] at hv2
    have hv3 := HV.out
    rw [hv2] at hv3
    simp only [Value.slice.injEq] at hv3
    obtain ⟨rfl, -, rfl⟩ := hv3
    have hvl := Rep.rd_len (Rep.own_rd hO)
    obtain ⟨u0, u1, u2, rfl⟩ := len_3 hvl
    have hs0 := sumTo_succ mcStepE l j hlt
    have hs1 := sumTo_le mcStepE l (j + 1)
    have hmc : mcStepE l[j] = 3 := rfl
    have hcu0 : cur[o + j * 3]? = some u0 := by simpa using hc 0 (by simp)
    have hcu1 : cur[o + j * 3 + 1]? = some u1 := by simpa using hc 1 (by simp)
    have hcu2 : cur[o + j * 3 + 2]? = some u2 := by simpa using hc 2 (by simp)
    have hcell : wr.cell? ⟨g, o + j * 3, none⟩ = some u0 := by rw [cell_at_block hg]; exact hcu0
    have hcell1 : wr.cell? ⟨g, o + j * 3 + 1, none⟩ = some u1 := by rw [cell_at_block hg]; exact hcu1
    have hcell2 : wr.cell? ⟨g, o + j * 3 + 2, none⟩ = some u2 := by rw [cell_at_block hg]; exact hcu2
    have hfree : wr.frozen? ⟨g, o + j * 3, none⟩ = false := free_at_block hg
    have hfree1 : wr.frozen? ⟨g, o + j * 3 + 1, none⟩ = false := free_at_block hg
    have hfree2 : wr.frozen? ⟨g, o + j * 3 + 2, none⟩ = false := free_at_block hg
    obtain ⟨rfl, rfl, rfl, rfl⟩ := own_step hO
    have hq9 : q + 3 ≤ 1000000000 := by omega
    have HB3 := qH (show But [g] wr (((wr.setCell ⟨g, o + j * 3, none⟩ (.int .i64 q)).setCell ⟨g, o + j * 3 + 1, none⟩ (.int .i64 (q + 1))).setCell ⟨g, o + j * 3 + 2, none⟩ (.int .i64 (q + 1 + 1))) from
     OnlyAt.but ((((OnlyAt.refl [g] wr).setCell (p := ⟨g, o + j * 3, none⟩) (by simp) _).setCell (p := ⟨g, o + j * 3 + 1, none⟩) (by simp) _).setCell (p := ⟨g, o + j * 3 + 2, none⟩) (by simp) _))
    have hg3 : (((wr.setCell ⟨g, o + j * 3, none⟩ (.int .i64 q)).setCell ⟨g, o + j * 3 + 1, none⟩ (.int .i64 (q + 1))).setCell ⟨g, o + j * 3 + 2, none⟩ (.int .i64 (q + 1 + 1))).heap[g]? = some (.cells (((cur.setIfInBounds (o + j * 3) (.int .i64 q)).setIfInBounds (o + j * 3 + 1) (.int .i64 (q + 1))).setIfInBounds (o + j * 3 + 2) (.int .i64 (q + 1 + 1))) e (0, 0)) :=
     heap_setCell_at _ g _ _ _ e (0, 0) (heap_setCell_at _ g _ _ _ e (0, 0) (heap_setCell_at wr g _ _ cur e (0, 0) hg))
    have HX := qH (hput _ [.int .i64 q, .int .i64 (q + 1), .int .i64 (q + 1 + 1)] ((q, q + 1, q + 1 + 1) : StepT) hg3 (step_own _ (i64_of _ (by omega) (by omega)) (i64_of _ (by omega) (by omega)) (i64_of _ (by omega) (by omega))) (fun z hz hzp hzg => HB3.out.block z (Rep.own_lt (show Own ps wr [v] (ys ++ l.drop j) from ⟨v, rfl, hown.out⟩) z hz) (by simpa using hzg)))
    have HGP := qH hgp
    have HS := qH hs0
    clear hO hg hg3 hc hput hs0 hs1 hv2 hcu0 hcu1 hcu2 hpp hpn hgn hgp
    go_wp2_with fail
    go_roundw
    case rel =>
     refine ⟨j + 1, ys ++ [(q, q + 1, q + 1 + 1)], q + 3, by omega, by go_num, by go_num, by omega, by have := HS.out; omega, ?_, ?_, ?_, ?_⟩
     · simp [Hid, hyl.out]
     · exact heldL_snoc hh.out ⟨rfl, rfl, (by show q + 1 + 1 = q + 2; omega), rfl⟩ (by omega)
     · exact hbut.out.trans (HB3.out.mono (fun z hz => by rw [List.mem_singleton] at hz; exact hz ▸ HGP.out))
     · show OwnSl _ _ _ _
       rw [← set_mid hyl.out hlt]
       exact HX.out
    case measure => simp [intOf]; omega
  · obtain rfl : j = l.length := by omega
    have hs := sumTo_all mcStepE l
    go_wp2_with fail
    go_ret
    have hfin := hown.out
    rw [List.drop_length, List.append_nil] at hfin
    rw [← HV.out]
    exact ⟨ys, q, rfl, q0, by rw [← hs]; exact q1, ⟨_, rfl, hfin⟩, hh.out, hbut.out⟩
theorem heldArcStepS_h (l : List StepT) (v : Value) (k m : Int) (w : World) (r : Rd w [v] l) (h : heldStepsL l k m) (k0 : 0 ≤ k) (k1 : m ≤ 1000000000) :
 Calls Tryz.prog 55 #[v, .int .i64 k] w fun e w' => e = .returned (.int .i64 m) ∧ w = w' := by
 obtain ⟨a, c, rfl, hr⟩ := rd_list r
 have hb := (rdSl_len hr).2
 unfold maxLen at hb
 have HR := qH hr
 have HH := qH h
 clear r hr h
 go_enter Tryz.func55, Tryz.ntmps55
 go_wp2_with fail
 go_loopw [1, 5] (fun kk i wr => ∃ (j : Nat) (q : Int), j ≤ l.length ∧ i = .int .i64 j ∧ kk = .int .i64 q ∧ 0 ≤ q ∧ Hid (heldStepsL (l.drop j) q m) ∧ wr = w) (fun _ i _ => l.length - (intOf i).toNat)
 case atStart => exact ⟨0, k, Nat.zero_le _, rfl, rfl, k0, by simpa [Hid] using HH.out, rfl⟩
 case round =>
  obtain ⟨j, q, hj, rfl, rfl, q0, hh, rfl⟩ := hrel
  by_cases hlt : j < l.length
  · obtain ⟨b, o, u0, u1, u2, rfl, f0, f1, f2, hx⟩ := rdSl_three rfl HR.out j hlt
    have z := rd_cons rfl hx
    have z2 := rd_cons rfl z.2
    obtain ⟨rfl, _⟩ := rd_i1 z.1
    obtain ⟨rfl, _⟩ := rd_i1 z2.1
    obtain ⟨rfl, _⟩ := rd_i1 z2.2
    clear hx z z2
    obtain ⟨m', ⟨he1, he2, he3, rfl⟩, hm, hrest⟩ := heldL_drop hlt hh.out
    rw [he1] at f0
    rw [he2] at f1
    rw [he3] at f2
    have hle := heldL_le hrest
    have HT := qH hrest
    clear hrest he1 he2 he3
    have hz0 : (q != q) = false := by simp
    have hz1 : (q + 1 != q + 1) = false := by simp
    have hz2 : (q + 2 != q + 2) = false := by simp
    have hz3 : (q + 1 + 1 != q + 2) = false := by simp; omega
    have hz4 : (q + 2 != q + 1 + 1) = false := by simp; omega
    go_wp2_with fail
    go_roundw
    case rel => exact ⟨j + 1, q + 3, by omega, by go_num, by go_num, by omega, HT.out, trivial⟩
    case measure => simp [intOf]; omega
  · obtain rfl : j = l.length := by omega
    go_wp2_with fail
    go_ret
    refine ⟨ret_int ?_, rfl⟩
    have := hh.out
    rw [List.drop_length] at this
    exact this
theorem heldArcStepS_g (x : List StepT) (v0 : Value) (k m : Int) (w : World) (hx : Rd w [v0] x) (h : held_ArcStepS x k m) (k0 : 0 ≤ k) (k1 : k ≤ m) (k2 : m ≤ 1000000000) :
 Calls Tryz.prog 55 #[v0, .int .i64 k] w fun e w' => e = .returned (.int .i64 m) ∧ Below w.heap.size w w' :=
 (heldArcStepS_h x v0 k m w hx h k0 k2).mono fun e w' ⟨h1, h2⟩ => ⟨h1, by rw [← h2]; exact Below.refl _ _⟩
theorem heldPairStepS_h (l : List StepT) (v : Value) (k m : Int) (w : World) (r : Rd w [v] l) (h : heldStepsL l k m) (k0 : 0 ≤ k) (k1 : m ≤ 1000000000) :
 Calls Tryz.prog 56 #[v, .int .i64 k] w fun e w' => e = .returned (.int .i64 m) ∧ w = w' := by
 obtain ⟨a, c, rfl, hr⟩ := rd_list r
 have hb := (rdSl_len hr).2
 unfold maxLen at hb
 have HR := qH hr
 have HH := qH h
 clear r hr h
 go_enter Tryz.func56, Tryz.ntmps56
 go_wp2_with fail
 go_loopw [1, 5] (fun kk i wr => ∃ (j : Nat) (q : Int), j ≤ l.length ∧ i = .int .i64 j ∧ kk = .int .i64 q ∧ 0 ≤ q ∧ Hid (heldStepsL (l.drop j) q m) ∧ wr = w) (fun _ i _ => l.length - (intOf i).toNat)
 case atStart => exact ⟨0, k, Nat.zero_le _, rfl, rfl, k0, by simpa [Hid] using HH.out, rfl⟩
 case round =>
  obtain ⟨j, q, hj, rfl, rfl, q0, hh, rfl⟩ := hrel
  by_cases hlt : j < l.length
  · obtain ⟨b, o, u0, u1, u2, rfl, f0, f1, f2, hx⟩ := rdSl_three rfl HR.out j hlt
    have z := rd_cons rfl hx
    have z2 := rd_cons rfl z.2
    obtain ⟨rfl, _⟩ := rd_i1 z.1
    obtain ⟨rfl, _⟩ := rd_i1 z2.1
    obtain ⟨rfl, _⟩ := rd_i1 z2.2
    clear hx z z2
    obtain ⟨m', ⟨he1, he2, he3, rfl⟩, hm, hrest⟩ := heldL_drop hlt hh.out
    rw [he1] at f0
    rw [he2] at f1
    rw [he3] at f2
    have hle := heldL_le hrest
    have HT := qH hrest
    clear hrest he1 he2 he3
    have hz0 : (q != q) = false := by simp
    have hz1 : (q + 1 != q + 1) = false := by simp
    have hz2 : (q + 2 != q + 2) = false := by simp
    have hz3 : (q + 1 + 1 != q + 2) = false := by simp; omega
    have hz4 : (q + 2 != q + 1 + 1) = false := by simp; omega
    go_wp2_with fail
    go_roundw
    case rel => exact ⟨j + 1, q + 3, by omega, by go_num, by go_num, by omega, HT.out, trivial⟩
    case measure => simp [intOf]; omega
  · obtain rfl : j = l.length := by omega
    go_wp2_with fail
    go_ret
    refine ⟨ret_int ?_, rfl⟩
    have := hh.out
    rw [List.drop_length] at this
    exact this
theorem heldPairStepS_g (x : List StepT) (v0 : Value) (k m : Int) (w : World) (hx : Rd w [v0] x) (h : held_PairStepS x k m) (k0 : 0 ≤ k) (k1 : k ≤ m) (k2 : m ≤ 1000000000) :
 Calls Tryz.prog 56 #[v0, .int .i64 k] w fun e w' => e = .returned (.int .i64 m) ∧ Below w.heap.size w w' :=
 (heldPairStepS_h x v0 k m w hx h k0 k2).mono fun e w' ⟨h1, h2⟩ => ⟨h1, by rw [← h2]; exact Below.refl _ _⟩
def mc_Verdict (x : Vdct) : Nat := mc_Int64S x.2.1 + mc_ArcStepS x.2.2.1 + mc_PairStepS x.2.2.2.1 + mc_Int64S x.2.2.2.2
def held_Verdict (x : Vdct) (k m : Int) : Prop := ∃ a b c, held_Int64S x.2.1 k a ∧ k ≤ a ∧ held_ArcStepS x.2.2.1 a b ∧ a ≤ b ∧ held_PairStepS x.2.2.2.1 b c ∧ b ≤ c ∧ held_Int64S x.2.2.2.2 c m ∧ c ≤ m
theorem cellP {ps : List Nat} {w w' : World} {b o : Nat} {v : Value} (hb : But ps w w') (h : w.cell? ⟨b, o, none⟩ = some v) (hA : b ∉ ps) : w'.cell? ⟨b, o, none⟩ = some v :=
 cellK h (hb.block b (World.block_lt_of_cell? w _ h) hA)
theorem markVerdict_g (x : Vdct) (v0 v1 v2 v3 v4 : Value) (ps : List Nat) (k : Int) (w : World) (hx : Own ps w [v0, v1, v2, v3, v4] x) (hn : ps.Nodup) (k0 : 0 ≤ k) (k1 : k + mc_Verdict x ≤ 1000000000) :
 Calls Tryz.prog 19 #[.agg #[v0, v1, v2, v3, v4], .int .i64 k] w fun e w' => ∃ (y : Vdct) (m : Int), e = .returned (.int .i64 m) ∧ k ≤ m ∧ m ≤ k + mc_Verdict x ∧ Own ps w' [v0, v1, v2, v3, v4] y ∧ held_Verdict y k m ∧ But ps w w' := by
 obtain ⟨x0, x1, x2, x3, x4⟩ := x
 obtain ⟨p0, q0, rfl, h0, r0⟩ := own_cons rfl hx
 obtain ⟨rfl, rfl, hI⟩ := own_i1 h0
 obtain ⟨p1, q1, rfl, h1, r1⟩ := own_cons rfl r0
 obtain ⟨p2, q2, rfl, h2, r2⟩ := own_cons rfl r1
 obtain ⟨p3, p4, rfl, h3, h4⟩ := own_cons rfl r2
 obtain ⟨a1, c1, rfl, _⟩ := rd_list (Own.rd h1)
 obtain ⟨a2, c2, rfl, _⟩ := rd_list (Own.rd h2)
 obtain ⟨a3, c3, rfl, _⟩ := rd_list (Own.rd h3)
 obtain ⟨a4, c4, rfl, _⟩ := rd_list (Own.rd h4)
 rw [List.nil_append] at hn
 have n1 := List.nodup_append.1 hn
 have n2 := List.nodup_append.1 n1.2.1
 have n3 := List.nodup_append.1 n2.2.1
 have hs := (St.start w).alloc #[.int .i64 x0, .slice a1 x1.length c1, .slice a2 x2.length c2, .slice a3 x3.length c3, .slice a4 x4.length c4] 37 rfl
 have l1 : w.heap.size ∉ p1 := fun h => by have := Rep.own_lt h1 _ h; omega
 have l2 : w.heap.size ∉ p2 := fun h => by have := Rep.own_lt h2 _ h; omega
 have l3 : w.heap.size ∉ p3 := fun h => by have := Rep.own_lt h3 _ h; omega
 have H1 := qH (Own.mono h1 hs.bel)
 have H2 := qH (Own.mono h2 hs.bel)
 have H3 := qH (Own.mono h3 hs.bel)
 have H4 := qH (Own.mono h4 hs.bel)
 have HI := qH hI
 have HN1 := qH n1
 have HN2 := qH n2
 have HN3 := qH n3
 have HB0 := qH (show But ([] : List Nat) w _ from but_of hs.bel)
 have L := qH (And.intro l1 (And.intro l2 l3))
 obtain ⟨e2, e3, e4⟩ := hs.c3 0 2 0 3 0 4
 have HK := qH (show mc_Verdict (x0, x1, x2, x3, x4) = mc_Int64S x1 + mc_ArcStepS x2 + mc_PairStepS x3 + mc_Int64S x4 from rfl)
 clear hx h0 hI r0 r1 r2 h1 h2 h3 h4 hn n1 n2 n3 l1 l2 l3 hs
 have hkk := HK.out
 go_enter Tryz.func19, Tryz.ntmps19
 go_wp2_with fail
 refine (markInt64S_g x1 _ p1 k _ H1.out HN1.out.1 k0 (by omega)).mono ?_
 rintro e w1 ⟨y1, m1, rfl, m10, m11, hO1, hh1, hb1⟩
 have g2 := cellP hb1 e2 L.out.1
 have g3 := cellP hb1 e3 L.out.1
 have g4 := cellP hb1 e4 L.out.1
 have O1 := qH hO1
 have O2 := qH (Own.but H2.out hb1 (fun z hz hz1 => HN1.out.2.2 z hz1 z (by simp [hz]) rfl))
 have O3 := qH (Own.but H3.out hb1 (fun z hz hz1 => HN1.out.2.2 z hz1 z (by simp [hz]) rfl))
 have O4 := qH (Own.but H4.out hb1 (fun z hz hz1 => HN1.out.2.2 z hz1 z (by simp [hz]) rfl))
 have HH1 := qH hh1
 have HB1 := qH hb1
 clear H1 H2 H3 H4 hO1 hh1 hb1 e2 e3 e4
 go_wp2_with fail
 refine (markArcStepS_g x2 _ p2 m1 _ O2.out HN2.out.1 (by omega) (by omega)).mono ?_
 rintro e w2 ⟨y2, m2, rfl, m20, m21, hO2, hh2, hb2⟩
 have f3 := cellP hb2 g3 L.out.2.1
 have f4 := cellP hb2 g4 L.out.2.1
 have U2 := qH hO2
 have U1 := qH (Own.but O1.out hb2 (fun z hz hz1 => HN1.out.2.2 z hz z (by simp [hz1]) rfl))
 have U3 := qH (Own.but O3.out hb2 (fun z hz hz1 => HN2.out.2.2 z hz1 z (by simp [hz]) rfl))
 have U4 := qH (Own.but O4.out hb2 (fun z hz hz1 => HN2.out.2.2 z hz1 z (by simp [hz]) rfl))
 have HH2 := qH hh2
 have HB2 := qH hb2
 clear O1 O2 O3 O4 hO2 hh2 hb2 g2 g3 g4
 go_wp2_with fail
 refine (markPairStepS_g x3 _ p3 m2 _ U3.out HN3.out.1 (by omega) (by omega)).mono ?_
 rintro e w3 ⟨y3, m3, rfl, m30, m31, hO3, hh3, hb3⟩
 have d4 := cellP hb3 f4 L.out.2.2
 have V3 := qH hO3
 have V1 := qH (Own.but U1.out hb3 (fun z hz hz1 => HN1.out.2.2 z hz z (by simp [hz1]) rfl))
 have V2 := qH (Own.but U2.out hb3 (fun z hz hz1 => HN2.out.2.2 z hz z (by simp [hz1]) rfl))
 have V4 := qH (Own.but U4.out hb3 (fun z hz hz1 => HN3.out.2.2 z hz1 z hz rfl))
 have HH3 := qH hh3
 have HB3 := qH hb3
 clear U1 U2 U3 U4 hO3 hh3 hb3 f3 f4
 go_wp2_with fail
 refine (markInt64S_g x4 _ p4 m3 _ V4.out HN3.out.2.1 (by omega) (by omega)).mono ?_
 rintro e w4 ⟨y4, m4, rfl, m40, m41, hO4, hh4, hb4⟩
 have W1 := qH (Own.but V1.out hb4 (fun z hz hz1 => HN1.out.2.2 z hz z (by simp [hz1]) rfl))
 have W2 := qH (Own.but V2.out hb4 (fun z hz hz1 => HN2.out.2.2 z hz z (by simp [hz1]) rfl))
 have W3 := qH (Own.but V3.out hb4 (fun z hz hz1 => HN3.out.2.2 z hz z hz1 rfl))
 have W4 := qH hO4
 have HH4 := qH hh4
 have HB4 := qH ((((HB0.out.mono (by simp)).trans (HB1.out.mono (qs := [] ++ (p1 ++ (p2 ++ (p3 ++ p4)))) (fun z hz => by simp [hz]))).trans (HB2.out.mono (fun z hz => by simp [hz]))).trans (HB3.out.mono (fun z hz => by simp [hz])) |>.trans (hb4.mono (fun z hz => by simp [hz])))
 clear V1 V2 V3 V4 hO4 hh4 hb4 d4
 go_wp2_with fail
 go_ret
 exact ⟨(x0, y1, y2, y3, y4), m4, rfl, by omega, by omega, mk_own (p := []) ⟨rfl, rfl, HI.out⟩ (mk_own W1.out (mk_own W2.out (mk_own W3.out W4.out))), ⟨m1, m2, m3, HH1.out, m10, HH2.out, m20, HH3.out, m30, HH4.out, m40⟩, HB4.out⟩
theorem heldVerdict_g (x : Vdct) (v0 v1 v2 v3 v4 : Value) (k m : Int) (w : World) (hx : Rd w [v0, v1, v2, v3, v4] x) (h : held_Verdict x k m) (k0 : 0 ≤ k) (k1 : k ≤ m) (k2 : m ≤ 1000000000) :
 Calls Tryz.prog 20 #[.agg #[v0, v1, v2, v3, v4], .int .i64 k] w fun e w' => e = .returned (.int .i64 m) ∧ Below w.heap.size w w' := by
 obtain ⟨x0, x1, x2, x3, x4⟩ := x
 have z := rd_cons rfl hx
 obtain ⟨rfl, _⟩ := rd_i1 z.1
 have z1 := rd_cons rfl z.2
 have z2 := rd_cons rfl z1.2
 have z3 := rd_cons rfl z2.2
 obtain ⟨a1, c1, rfl, _⟩ := rd_list z1.1
 obtain ⟨a2, c2, rfl, _⟩ := rd_list z2.1
 obtain ⟨a3, c3, rfl, _⟩ := rd_list z3.1
 obtain ⟨a4, c4, rfl, _⟩ := rd_list z3.2
 obtain ⟨m1, m2, m3, b1, b2, b3, b4, b5, b6, b7, b8⟩ := h
 have HX1 := qH z1.1
 have HX2 := qH z2.1
 have HX3 := qH z3.1
 have HX4 := qH z3.2
 have B1 := qH b1
 have B3 := qH b3
 have B5 := qH b5
 have B7 := qH b7
 clear hx z z1 z2 z3 b1 b3 b5 b7
 have hs1 := (St.start w).alloc #[.int .i64 x0, .slice a1 x1.length c1, .slice a2 x2.length c2, .slice a3 x3.length c3, .slice a4 x4.length c4] 37 (n := w.heap.size) (by simp)
 obtain ⟨k0_0, k0_1, k0_2, k0_3, k0_4⟩ := hs1.c5 0 0 0 1 0 2 0 3 0 4
 go_enter Tryz.func20, Tryz.ntmps20
 go_wp2_with fail
 refine (heldInt64S_g x1 _ k m1 _ (Rd.mono HX1.out hs1.bel) B1.out (by omega) (by omega) (by omega)).mono ?_
 rintro e w2 ⟨rfl, hbw2⟩
 have hz_w2 : w.heap.size + 1 ≤ w2.heap.size := by have h9 := hbw2.size; (try simp at h9); omega
 have hs3 := hs1.step hbw2
 clear k0_0 k0_1 k0_2 k0_3 k0_4
 obtain ⟨k0_0, k0_1, k0_2, k0_3, k0_4⟩ := hs3.c5 0 0 0 1 0 2 0 3 0 4
 have n1 : ¬ m1 < 0 := by omega
 go_wp2_with fail
 refine (heldArcStepS_g x2 _ m1 m2 _ (Rd.mono HX2.out hs3.bel) B3.out (by omega) (by omega) (by omega)).mono ?_
 rintro e w4 ⟨rfl, hbw4⟩
 have hz_w4 : w2.heap.size ≤ w4.heap.size := by have h9 := hbw4.size; (try simp at h9); omega
 have hs5 := hs3.step hbw4
 clear k0_0 k0_1 k0_2 k0_3 k0_4
 obtain ⟨k0_0, k0_1, k0_2, k0_3, k0_4⟩ := hs5.c5 0 0 0 1 0 2 0 3 0 4
 have n2 : ¬ m2 < 0 := by omega
 go_wp2_with fail
 refine (heldPairStepS_g x3 _ m2 m3 _ (Rd.mono HX3.out hs5.bel) B5.out (by omega) (by omega) (by omega)).mono ?_
 rintro e w6 ⟨rfl, hbw6⟩
 have hz_w6 : w4.heap.size ≤ w6.heap.size := by have h9 := hbw6.size; (try simp at h9); omega
 have hs7 := hs5.step hbw6
 clear k0_0 k0_1 k0_2 k0_3 k0_4
 obtain ⟨k0_0, k0_1, k0_2, k0_3, k0_4⟩ := hs7.c5 0 0 0 1 0 2 0 3 0 4
 have n3 : ¬ m3 < 0 := by omega
 go_wp2_with fail
 refine (heldInt64S_g x4 _ m3 m _ (Rd.mono HX4.out hs7.bel) B7.out (by omega) (by omega) (by omega)).mono ?_
 rintro e w8 ⟨rfl, hbw8⟩
 have hz_w8 : w6.heap.size ≤ w8.heap.size := by have h9 := hbw8.size; (try simp at h9); omega
 have hs9 := hs7.step hbw8
 clear k0_0 k0_1 k0_2 k0_3 k0_4
 obtain ⟨k0_0, k0_1, k0_2, k0_3, k0_4⟩ := hs9.c5 0 0 0 1 0 2 0 3 0 4
 have n4 : ¬ m < 0 := by omega
 go_wp2_with fail
 go_ret
 exact ⟨rfl, hs9.bel⟩
end Go.Proofs.YtpkdiiagnplpkaaGreat
