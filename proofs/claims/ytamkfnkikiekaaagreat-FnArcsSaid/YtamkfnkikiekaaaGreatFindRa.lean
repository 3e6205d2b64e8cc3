/-
  CONTRACTS: solutions that begin with some values, the reference's side.
-/
import Derived.Test.YtamkfnkikiekaaaGreatFindLRa
import Derived.Test.YtamkfnkikiekaaaGreatPolyIRa
namespace Go.Proofs.YtamkfnkikiekaaaGreat
open Go.RowKit Go.Shelf Go.IntWalk
open Rep (Rd Own sz)
set_option linter.unusedSimpArgs false
set_option linter.unusedVariables false

def sureC (t : Tmpl) (vals : List Int) (c : OpT) : Bool := !decide (topC c.2 = (vals.length : Int) - 1) || holdsC t vals c
theorem sure_all {t : Tmpl} {x : Inst} {vals : List Int} (h : ∀ j (hj : j < x.2.length), sureC t vals x.2[j] = true) : sureB t x vals = true := by
  unfold sureB
  rw [List.all_eq_true]
  intro c hc
  obtain ⟨j, hj, rfl⟩ := List.getElem_of_mem hc
  exact h j hj
theorem sure_no {t : Tmpl} {x : Inst} {vals : List Int} {j : Nat} (hj : j < x.2.length) (h : sureC t vals x.2[j] = false) : sureB t x vals = false := by
  unfold sureB
  rw [List.all_eq_false]
  refine ⟨_, List.getElem_mem hj, ?_⟩
  show ¬ sureC t vals x.2[j] = true
  rw [h]; decide
set_option maxRecDepth 100000 in
set_option maxHeartbeats 4000000 in
theorem l05Sure_c (t : Tmpl) (x : Inst) (vals : List Int) (fb tb xb : Nat) (t0 t1 x0 x1 vv : Value) (w : World) (ht : Rd w [t0, t1] t) (hx : Rd w [x0, x1] x) (hv : Rd w [vv] vals) (hok : instOk t x = true) (hl : (vals.length : Int) ≤ x.1)
    (fc0 : w.cell? ⟨fb, 0, none⟩ = some (.pointer (some ⟨tb, 0, none⟩))) (fc1 : w.cell? ⟨fb, 1, none⟩ = some (.pointer (some ⟨xb, 0, none⟩))) (tc : w.cell? ⟨tb, 1, none⟩ = some t1) (xc : w.cell? ⟨xb, 1, none⟩ = some x1) :
    Calls Tryz.prog 89 #[.pointer (some ⟨fb, 0, none⟩), vv] w fun e w' => e = .returned (.bool (sureB t x vals)) ∧ Below w.heap.size w w' := by
  obtain ⟨size, rs⟩ := t
  obtain ⟨vars, cs⟩ := x
  simp only at hl
  have zt := rd_cons rfl ht
  obtain ⟨rfl, _⟩ := rd_i1 zt.1
  obtain ⟨at0, ct0, rfl, _⟩ := rd_list zt.2
  have zx := rd_cons rfl hx
  obtain ⟨rfl, _⟩ := rd_i1 zx.1
  obtain ⟨ax, cx, rfl, hcs⟩ := rd_list zx.2
  obtain ⟨av, cv, rfl, _⟩ := rd_list hv
  have hcl := (instOk_get hok).2.2.1
  have hvs := (instOk_get hok).2.1
  simp only at hcl hvs
  have hvl : vals.length ≤ 10 := by omega
  have HR := Lib.hid zt.2
  have HCS := Lib.hid hcs
  have HV := Lib.hid hv
  have HFC := Lib.hid (fun (k : Nat) (hk : k < cs.length) => conF_of hok (show cs[k] ∈ cs from List.getElem_mem hk))
  have HALL := Lib.hid (fun h => sure_all (t := (size, rs)) (x := (vars, cs)) (vals := vals) h)
  have HNO := Lib.hid (fun (j : Nat) (hj : j < cs.length) h => sure_no (t := (size, rs)) (x := (vars, cs)) (vals := vals) hj h)
  clear ht hx hv zt zx hcs hok hl
  have hwr : IntKind.i64.wrap ((vals.length : Int) - 1) = (vals.length : Int) - 1 := i64_in _ (by omega)
  have fc0_ := cellL (St.start w).bel fc0
  clear fc0_
  have fc0_ := cellL (St.start w).bel fc0
  have fc1_ := cellL (St.start w).bel fc1
  clear fc0_ fc1_
  have fc0_ := cellL (St.start w).bel fc0
  have fc1_ := cellL (St.start w).bel fc1
  have tc_ := cellL (St.start w).bel tc
  clear fc0_ fc1_ tc_
  have fc0_ := cellL (St.start w).bel fc0
  have fc1_ := cellL (St.start w).bel fc1
  have tc_ := cellL (St.start w).bel tc
  have xc_ := cellL (St.start w).bel xc
  go_enter Tryz.func89, Tryz.ntmps89
  go_wp2_with fail
  go_loopw [6] (fun i wl => ∃ k : Nat, k ≤ cs.length ∧ i = .int .i64 k ∧ Hid (Below w.heap.size w wl) ∧ Hid (∀ j (hj : j < cs.length), j < k → sureC (size, rs) vals cs[j] = true)) (fun i _ => cs.length - (intOf i).toNat)
  case atStart => exact ⟨0, Nat.zero_le _, rfl, Below.refl _ _, fun j hj h => absurd h (Nat.not_lt_zero _)⟩
  case round =>
    obtain ⟨k, hk, rfl, hbl, hr⟩ := hrel
    obtain ⟨wo, rfl⟩ : ∃ x, x = wr := ⟨_, rfl⟩
    have hs1 := (St.start w).step hbl.out
    have fc0_ := cellL hs1.bel fc0
    have fc1_ := cellL hs1.bel fc1
    have tc_ := cellL hs1.bel tc
    have xc_ := cellL hs1.bel xc
    have HB := hbl
    by_cases hlt : k < cs.length
    · have hkl : (k : Int) < cs.length := by omega
      obtain ⟨n, hf⟩ := HFC.out k hlt
      obtain ⟨b, o, u0, u1, rfl, p0, p1, hy⟩ := rdSl_two rfl HCS.out k hlt
      have hyz := rd_cons rfl hy
      obtain ⟨rfl, _⟩ := rd_i1 hyz.1
      obtain ⟨a1, c1, rfl, _⟩ := rd_list hyz.2
      have HSC := Lib.hid hyz.2
      have HNX := Lib.hid (fun (h : sureC (size, rs) vals cs[k] = true) => show ∀ j (hj : j < cs.length), j < k + 1 → sureC (size, rs) vals cs[j] = true from fun j hj hjk => by
        rcases Nat.lt_or_ge j k with h1 | h1
        · exact hr.out j hj h1
        · obtain rfl : j = k := by omega
          exact h)
      have HYS := Lib.hid (fun (h : sureC (size, rs) vals cs[k] = false) => HNO.out k hlt h)
      have HHC := Lib.hid (show holdsC (size, rs) vals cs[k] = hasT (rs.getD n (0, [])).2 (chosenL vals cs[k].2) by unfold holdsC; rw [hf.rel, Int.toNat_natCast])
      have HSU := Lib.hid (show sureC (size, rs) vals cs[k] = (!decide (topC cs[k].2 = (vals.length : Int) - 1) || holdsC (size, rs) vals cs[k]) from rfl)
      obtain ⟨h1, h2, _, _, h5, h6⟩ := hf
      rw [h1] at p0
      have HS5 := Lib.hid h5
      clear hy hyz h1 h5
      generalize cs[k] = CK at *
      obtain ⟨cki, sc⟩ := CK
      simp only at p0 p1 h2 h6 HSC HHC HS5 HSU
      clear fc0_ fc1_ tc_ xc_
      have fc0_ := cellL hs1.bel fc0
      have fc1_ := cellL hs1.bel fc1
      have tc_ := cellL hs1.bel tc
      have xc_ := cellL hs1.bel xc
      have p0_ := cellL hs1.bel p0
      clear fc0_ fc1_ tc_ xc_ p0_
      have fc0_ := cellL hs1.bel fc0
      have fc1_ := cellL hs1.bel fc1
      have tc_ := cellL hs1.bel tc
      have xc_ := cellL hs1.bel xc
      have p0_ := cellL hs1.bel p0
      have p1_ := cellL hs1.bel p1
      clear fc0_ fc1_ tc_ xc_ p0_ p1_
      have fc0_ := cellL hs1.bel fc0
      have fc1_ := cellL hs1.bel fc1
      have tc_ := cellL hs1.bel tc
      have xc_ := cellL hs1.bel xc
      have p0_ := cellL hs1.bel p0
      have p1_ := cellL hs1.bel p1
      go_wp2_with fail
      go_loop [8, 9] (fun tv i => ∃ q : Nat, q ≤ sc.length ∧ i = .int .i64 q ∧ tv = .int .i64 (topC (sc.take q))) (fun _ i => sc.length - (intOf i).toNat)
      case atStart => exact ⟨0, Nat.zero_le _, rfl, by simp [topC]⟩
      case round =>
        obtain ⟨q, hq, rfl, rfl⟩ := hrel
        by_cases hlq : q < sc.length
        · have hlqI : (q : Int) < sc.length := by omega
          obtain ⟨b2, o2, rfl, q0, _⟩ := rd_int_at (Rd.mono HSC.out hs1.bel) q hlq
          have HTK := Lib.hid (topC_take_succ sc hlq)
          generalize sc[q] = SQ at *
          go_wp2_with fail
          refine (l00Max_c _ _ _).mono ?_
          rintro e w9 ⟨rfl, rfl⟩
          rw [← HTK.out]
          go_wp2_with fail
          go_round
          case rel => exact ⟨q + 1, hlq, by go_num, rfl⟩
          case measure => simp [intOf]; omega
        · obtain rfl : q = sc.length := by omega
          have hnq : ¬ ((sc.length : Int) < sc.length) := by omega
          rw [List.take_length]
          by_cases htp : topC sc = (vals.length : Int) - 1
          · have htb : (topC sc == (vals.length : Int) - 1) = true := by simpa using htp
            have HS2 := Lib.hid (show ∀ v, v ∈ sc → 0 ≤ v ∧ v < (vals.length : Int) from fun v hv => by
              have h9 := (fold_max_ge sc 0).2 v hv
              have h8 := HS5.out v hv
              unfold topC at htp
              omega)
            have HSV := Lib.hid (show sureC (size, rs) vals (cki, sc) = holdsC (size, rs) vals (cki, sc) from HSU.out.trans (by rw [decide_eq_true htp]; rfl))
            clear htp
            generalize topC sc = TP at *
            go_wp2_with fail
            refine (l05Holds_c rs vals n sc tb b (o + k * 2) _ _ _ _ (Rd.mono HR.out hs1.bel) (Rd.mono HSC.out hs1.bel) (Rd.mono HV.out hs1.bel) (cellL hs1.bel tc) (cellL hs1.bel p0) (cellL hs1.bel p1) h2 h6 HS2.out).mono ?_
            rintro e w5 ⟨rfl, hb5⟩
            have HB5 := Lib.hid (HB.out.trans (hb5.mono HB.out.size))
            clear hb5
            rw [← HHC.out, ← HSV.out]
            cases hh : sureC (size, rs) vals (cki, sc) with
            | true =>
              have H9 := Lib.hid (HNX.out hh)
              clear hh
              go_wp2_with fail
              go_roundw
              case rel => exact ⟨k + 1, hlt, by go_num, HB5.out, H9.out⟩
              case measure => simp [intOf]; omega
            | false =>
              have H9 := Lib.hid (HYS.out hh)
              clear hh
              go_wp2_with fail
              go_ret
              exact ⟨ret_bool H9.out.symm, HB5.out⟩
          · have htb : (topC sc == (vals.length : Int) - 1) = false := by simpa using htp
            have H9 := Lib.hid (HNX.out (HSU.out.trans (by rw [decide_eq_false htp]; rfl)))
            clear htp
            generalize topC sc = TP at *
            have HB5 := Lib.hid HB.out
            go_wp2_with fail
            go_roundw
            case rel => exact ⟨k + 1, hlt, by go_num, HB5.out, H9.out⟩
            case measure => simp [intOf]; omega
    · obtain rfl : k = cs.length := by omega
      have hnl : ¬ ((cs.length : Int) < cs.length) := by omega
      have H9 := Lib.hid (HALL.out (fun j hj => hr.out j hj hj))
      go_wp2_with fail
      go_ret
      exact ⟨ret_bool H9.out.symm, hbl.out⟩

/-- The search for solutions at block fb: what it has listed, in blocks of A. -/
structure FindS (w : World) (fb tb xb most : Nat) (A : Nat → Prop) (te tr : TypeId) (sv : Value) (l : List (List Int)) : Prop where
  blk : w.heap[fb]? = some (.cells #[.pointer (some ⟨tb, 0, none⟩), .pointer (some ⟨xb, 0, none⟩), .int .i64 most, sv, .int .i64 l.length] tr (0, 0))
  acc : AccP A te w sv l
  out : ¬ A fb
theorem FindS.frame {w w' : World} {fb tb xb most : Nat} {A : Nat → Prop} {te tr : TypeId} {sv : Value} {l : List (List Int)} (h : FindS w fb tb xb most A te tr sv l) {C : Nat → Prop} (hb : ButP C w w') (h1 : ¬ C fb) (h2 : ∀ z, A z → ¬ C z) : FindS w' fb tb xb most A te tr sv l :=
  ⟨by rw [hb.block fb (Array.getElem?_eq_some_iff.1 h.blk).1 h1]; exact h.blk, h.acc.butP hb h2, h.out⟩
theorem FindS.mono {w w' : World} {fb tb xb most : Nat} {A : Nat → Prop} {te tr : TypeId} {sv : Value} {l : List (List Int)} (h : FindS w fb tb xb most A te tr sv l) (hb : Below w.heap.size w w') : FindS w' fb tb xb most A te tr sv l :=
  h.frame (C := fun _ => False) (ButP.of hb) (fun h => h) (fun _ _ h => h)
theorem FindS.tight {w : World} {fb tb xb most : Nat} {A : Nat → Prop} {te tr : TypeId} {sv : Value} {l : List (List Int)} (h : FindS w fb tb xb most A te tr sv l) : FindS w fb tb xb most (fun z => A z ∧ z < w.heap.size) te tr sv l :=
  ⟨h.blk, h.acc.tight, fun h2 => h.out h2.1⟩
theorem butp_setF {A : Nat → Prop} {w w' : World} {b o : Nat} (h : ButP A w w') (u : Value) (hA : A b) : ButP A w (w'.setCell ⟨b, o, none⟩ u) :=
  ⟨h.os, h.tape, h.output, by simpa [World.setCell] using h.size, fun k hk hn => by rw [Below.heap_setCell _ _ _ _ (fun e => by (try simp only at e); subst e; exact hn hA)]; exact h.block k hk hn⟩
theorem E_lists2 : ElemT Tryz.prog 32 47 (List Int) (.slice none 0 0) 24 := ElemT.mk' Tryz.underlying32 (by kernel_rfl) rfl (by decide) (by decide)
/-- What stays as it is while the search goes on. -/
def StaysT (w0 : World) (fb tb xb H : Nat) (t : Tmpl) (x : Inst) (t1 x1 : Value) : Prop :=
  ∀ w', ButP (fun z => z = fb ∨ H ≤ z) w0 w' → Rd w' [.int .i64 t.1, t1] t ∧ Rd w' [.int .i64 x.1, x1] x ∧ w'.cell? ⟨tb, 0, none⟩ = some (.int .i64 t.1) ∧ w'.cell? ⟨tb, 1, none⟩ = some t1 ∧ w'.cell? ⟨xb, 0, none⟩ = some (.int .i64 x.1) ∧ w'.cell? ⟨xb, 1, none⟩ = some x1
set_option maxRecDepth 100000 in
set_option maxHeartbeats 16000000 in
theorem from_c (t : Tmpl) (x : Inst) (fb tb xb most H U SZ : Nat) (t1 x1 : Value) (w0 : World) (hok : instOk t x = true) (hU : x.1 = (U : Int)) (hSZ : t.1 = (SZ : Int)) (hmo : 1 ≤ most ∧ most ≤ 1000) (hH0 : H ≤ w0.heap.size) (hfbH : fb < H) (hfbt : fb ≠ tb ∧ fb ≠ xb)
    (HTX : StaysT w0 fb tb xb H t x t1 x1) :
    ∀ (d : Nat) (pre : List Int) (l : List (List Int)) (w : World) (A : Nat → Prop) (sv vv : Value), ButP (fun z => z = fb ∨ H ≤ z) w0 w → FindS w fb tb xb most A 47 98 sv l → (∀ z, A z → H ≤ z) → l.length < most →
      Ip (fun z => z ≠ fb ∧ ¬ A z) w [vv] pre → pre.length + d = U → (∀ a, a ∈ pre → 0 ≤ a ∧ a < t.1) →
      Calls Tryz.prog 65 #[.pointer (some ⟨fb, 0, none⟩), vv] w fun e w' => e = .returned (.tuple #[]) ∧ ButP (fun z => z = fb ∨ A z) w w' ∧ ∃ (A' : Nat → Prop) (sv' : Value), (∀ z, A' z → A z ∨ w.heap.size ≤ z) ∧ FindS w' fb tb xb most A' 47 98 sv' ((l ++ fromL t x d pre).take most)
  | 0, pre, l, w, A, sv, vv, hb0, hF, hAH, hll, hpv, hpl, hval => by
    have hpn : pre.length = U := by omega
    obtain ⟨av, cv, rfl, _⟩ := rd_list hpv.rd
    obtain ⟨aL, cL, rfl, _⟩ := hF.acc.len
    have hU10 : U ≤ 10 := by have := (instOk_get hok).2.1; omega
    have HF := Lib.hid hF
    have HAH := Lib.hid hAH
    have HPN := Lib.hid hpn
    rw [hpn] at hpv ⊢
    have HPV := Lib.hid hpv.tight
    have HLS := Lib.hid hF.acc.tight
    have hsz0 := hb0.size
    obtain ⟨-, -, -, -, x0, -⟩ := HTX w hb0
    rw [hU] at x0
    have HHX := Lib.hid HTX
    have HB0 := Lib.hid hb0
    have c0 : w.cell? ⟨fb, 0, none⟩ = some (.pointer (some ⟨tb, 0, none⟩)) := by rw [cell_at_block hF.blk]; rfl
    have c1 : w.cell? ⟨fb, 1, none⟩ = some (.pointer (some ⟨xb, 0, none⟩)) := by rw [cell_at_block hF.blk]; rfl
    have c2 : w.cell? ⟨fb, 2, none⟩ = some (.int .i64 most) := by rw [cell_at_block hF.blk]; rfl
    have c3 : w.cell? ⟨fb, 3, none⟩ = some (.slice aL l.length cL) := by rw [cell_at_block hF.blk]; rfl
    have c4 : w.cell? ⟨fb, 4, none⟩ = some (.int .i64 l.length) := by rw [cell_at_block hF.blk]; rfl
    have f4 : w.frozen? ⟨fb, 4, none⟩ = false := free_at_block hF.blk
    have hww : IntKind.i64.wrap ((l.length : Int) + 1) = (l.length : Int) + 1 := i64_in _ (by omega)
    have hfbw : fb < w.heap.size := (Array.getElem?_eq_some_iff.1 hF.blk).1
    clear hF hb0 HTX hAH hpv hpn
    go_enter Tryz.func65, Tryz.ntmps65
    go_upto_region 2 with fail
    have hb1 := heap_setCell_at w fb 4 (.int .i64 ((l.length : Int) + 1)) _ _ _ HF.out.blk
    have HB1 := Lib.hid hb1
    have HLS1 := Lib.hid (AccP.setCell (b := fb) (o := 4) HLS.out (.int .i64 ((l.length : Int) + 1)) (fun h => HF.out.out h.1))
    have HPV1 := Lib.hid (Ip.setCell (b := fb) (o := 4) HPV.out (.int .i64 ((l.length : Int) + 1)) (fun h => h.1.1 rfl))
    have HBT1 := Lib.hid (butp_setF (b := fb) (o := 4) (ButP.refl (fun z => z = fb ∨ A z) w) (.int .i64 ((l.length : Int) + 1)) (.inl rfl))
    have d3 : (w.setCell ⟨fb, 4, none⟩ (.int .i64 ((l.length : Int) + 1))).cell? ⟨fb, 3, none⟩ = some (.slice aL l.length cL) := by rw [cell_at_block hb1]; rfl
    have d2 : (w.setCell ⟨fb, 4, none⟩ (.int .i64 ((l.length : Int) + 1))).cell? ⟨fb, 2, none⟩ = some (.int .i64 most) := by rw [cell_at_block hb1]; rfl
    have hz1 : w.heap.size ≤ (w.setCell ⟨fb, 4, none⟩ (.int .i64 ((l.length : Int) + 1))).heap.size := by simp [World.setCell]
    have hz1b : (w.setCell ⟨fb, 4, none⟩ (.int .i64 ((l.length : Int) + 1))).heap.size ≤ w.heap.size := by simp [World.setCell]
    clear hb1 c0 c1 c2 c3 c4 f4 HLS HPV x0
    generalize w.setCell ⟨fb, 4, none⟩ (.int .i64 ((l.length : Int) + 1)) = w1 at *
    have HLS := HLS1
    have HPV := HPV1
    clear HLS1 HPV1
    refine wp_region_noPanic (wp_region_tree4 (fun w' => w'.cell? ⟨fb, 2, none⟩ = some (.int .i64 most) ∧ w'.cell? ⟨fb, 3, none⟩ = some (.slice aL l.length cL)) (.float 0 (.float 1 (.float 2 (.float 3 (.float 4 (.float 5 (.float 6 (.float 7 (.float 8 (.float 9 .nil)))))))))) (by kernel_rfl) (by kernel_rfl) (by kernel_rfl) rfl ?_ (fun _ _ _ _ _ h => h) ?_)
    · exact ⟨cellL (belowD _) d2, cellL (belowD _) d3⟩
    have hs1 := (St.start w1).drew
    have d2_2 := cellL (belowD _) d2
    clear d2
    have d3_3 := cellL (belowD _) d3
    clear d3
    have HLS_4 := Lib.hid (AccP.mono HLS.out (belowD _))
    clear HLS
    have HPV_5 := Lib.hid (Ip.mono HPV.out (belowD _))
    clear HPV
    have hz_wd6 : w1.heap.size ≤ (w1.drew).heap.size := by simp
    generalize hgen_wd6 : w1.drew = wd6 at *
    have HG_wd6 := Lib.hid hgen_wd6
    clear hgen_wd6
    (repeat (first | (apply t4_skip rfl (by rfl); try simp only [Act.put, List.setIfInBounds_toArray, List.set_cons_zero, List.set_cons_succ]) | (apply t4_float rfl (by rfl); (· (intro w' hS; go_simp <;> with_reducible rfl)); (try simp only [Act.put, List.setIfInBounds_toArray, List.set_cons_zero, List.set_cons_succ]))))
    refine t4_nil (NoPanic.normal ?_)
    · have hlmI : (l.length : Int) < most := by omega
      have HTK := Lib.hid (show (l ++ fromL t x 0 pre).take most = l ++ [pre] by
        rw [fromL, List.take_of_length_le (by simp; omega)])
      go_upto_region 3 with fail
      refine wp_region_noPanic (wp_region_tree4 (fun w' => w'.cell? ⟨fb, 2, none⟩ = some (.int .i64 most) ∧ w'.cell? ⟨fb, 3, none⟩ = some (.slice aL l.length cL)) (.float 0 (.float 1 (.float 2 (.float 3 (.float 4 (.float 5 (.hard 6 (.hard 7 (.hard 8 (.float 9 (.float 10 (.last 11 .nil)))))))))))) (by kernel_rfl) (by kernel_rfl) (by kernel_rfl) rfl ?_ (fun _ _ _ _ _ h => h) ?_)
      · exact ⟨cellL (belowD _) d2_2, cellL (belowD _) d3_3⟩
      have hs7 := hs1.drew
      have d2_8 := cellL (belowD _) d2_2
      clear d2_2
      have d3_9 := cellL (belowD _) d3_3
      clear d3_3
      have HLS_10 := Lib.hid (AccP.mono HLS_4.out (belowD _))
      clear HLS_4
      have HPV_11 := Lib.hid (Ip.mono HPV_5.out (belowD _))
      clear HPV_5
      have hz_wd12 : wd6.heap.size ≤ (wd6.drew).heap.size := by simp
      generalize hgen_wd12 : wd6.drew = wd12 at *
      have HG_wd12 := Lib.hid hgen_wd12
      clear hgen_wd12
      (repeat (first | (apply t4_skip rfl (by rfl); try simp only [Act.put, List.setIfInBounds_toArray, List.set_cons_zero, List.set_cons_succ]) | (apply t4_float rfl (by rfl); (· (intro w' hS; go_simp <;> with_reducible rfl)); (try simp only [Act.put, List.setIfInBounds_toArray, List.set_cons_zero, List.set_cons_succ]))))
      refine t4_hard rfl (by rfl) (fun K hK => ?_)
      go_wp2_with (go_at_call 54; refine (l00Own_c pre _ _ HPV_11.out.rd (by rw [HPN.out]; omega)).mono ?_; rintro e w13 ⟨v9, rfl, hac9, hbw13⟩)
      have hz_w13 : wd12.heap.size ≤ w13.heap.size := by have h9 := hbw13.size; (try simp at h9); omega
      have hs14 := hs7.step hbw13
      have d2_15 := cellL hbw13 d2_8
      clear d2_8
      have d3_16 := cellL hbw13 d3_9
      clear d3_9
      have HLS_17 := Lib.hid (AccP.mono HLS_10.out hbw13)
      clear HLS_10
      have HPV_18 := Lib.hid (Ip.mono HPV_11.out hbw13)
      clear HPV_11
      obtain ⟨a9, c9, rfl, _⟩ := (hac9.accP (Nat.le_refl _)).len
      rw [HPN.out] at hac9 ⊢
      have HYP := Lib.hid ((hac9.accP (Nat.le_refl _)).ip)
      clear hac9
      refine ⟨⟨d2_15, d3_16⟩, ?_⟩
      (repeat (first | (apply t4_skip rfl (by rfl); try simp only [Act.put, List.setIfInBounds_toArray, List.set_cons_zero, List.set_cons_succ]) | (apply t4_float rfl (by rfl); (· (intro w' hS; go_simp <;> with_reducible rfl)); (try simp only [Act.put, List.setIfInBounds_toArray, List.set_cons_zero, List.set_cons_succ]))))
      refine t4_hard rfl (by rfl) (fun K hK => ?_)
      go_wp2_with fail
      have hs19 := hs14.alloc #[.slice a9 U c9] 47 (n := w13.heap.size) (by simp)
      have d2_20 := cellL (belowA _ (.cells #[.slice a9 U c9] 47)) d2_15
      clear d2_15
      have d3_21 := cellL (belowA _ (.cells #[.slice a9 U c9] 47)) d3_16
      clear d3_16
      have HLS_22 := Lib.hid (AccP.mono HLS_17.out (belowA _ (.cells #[.slice a9 U c9] 47)))
      clear HLS_17
      have HPV_23 := Lib.hid (Ip.mono HPV_18.out (belowA _ (.cells #[.slice a9 U c9] 47)))
      clear HPV_18
      have HYP_24 := Lib.hid (Ip.mono HYP.out (belowA _ (.cells #[.slice a9 U c9] 47)))
      clear HYP
      refine ⟨⟨d2_20, d3_21⟩, ?_⟩
      (repeat (first | (apply t4_skip rfl (by rfl); try simp only [Act.put, List.setIfInBounds_toArray, List.set_cons_zero, List.set_cons_succ]) | (apply t4_float rfl (by rfl); (· (intro w' hS; go_simp <;> with_reducible rfl)); (try simp only [Act.put, List.setIfInBounds_toArray, List.set_cons_zero, List.set_cons_succ]))))
      refine t4_hard rfl (by rfl) (fun K hK => ?_)
      refine wp_append_accP _ _ _ _ rfl E_lists2 rfl HLS_22.out HYP_24.out (fun z h1 h2 => by (try simp only at h1 h2); omega) ⟨w13.heap.size, 0, none⟩ 1 rfl (news1 (hs19.cellAt 0 rfl 0 rfl)) (by omega) ?_
      intro a8 c8 w8 hA8 hB8
      have hz8 := hB8.size
      have hfb8 := (hB8.block fb (by have := hs19.bel.size; (try simp); omega) (fun h => HF.out.out h.1)).trans ((hs19.bel.block fb (by omega)).trans HB1.out)
      have HBK := Lib.hid hfb8
      have HA9 := Lib.hid hA8
      have HBT8 := Lib.hid ((HBT1.out.trans ((ButP.of hs19.bel) : ButP (fun z => z = fb ∨ A z) _ _) (fun z hz => .inl hz)).trans (hB8.wk (C := fun z => z = fb ∨ A z) (fun z hz => .inr hz.1)) (fun z hz => .inl hz))
      have hdr := hs19.bel.size
      have hs8 := St.start w8
      clear hA8
      clear HLS_22
      clear HPV_23
      clear HYP_24
      have hbn := hB8.wk (C := fun z => A z) (fun z hz => hz.1)
      have hA0 : ¬ A fb := HF.out.out
      have y3 := cellB hbn d3_21 hA0
      have y2 := cellB hbn d2_20 hA0
      clear d2_20
      clear d3_21
      have ff3 : w8.frozen? ⟨fb, 3, none⟩ = false := free_at_block HBK.out
      refine hK _ _ ⟨⟨y2, y3⟩, ?_⟩
      (repeat (first | (apply t4_skip rfl (by rfl); try simp only [Act.put, List.setIfInBounds_toArray, List.set_cons_zero, List.set_cons_succ]) | (apply t4_float rfl (by rfl); (· (intro w' hS; go_simp <;> with_reducible rfl)); (try simp only [Act.put, List.setIfInBounds_toArray, List.set_cons_zero, List.set_cons_succ]))))
      refine t4_last rfl (by rfl) (fun K hK => ?_)
      go_wp2_with fail
      refine t4_nil (NoPanic.normal ?_)
      have hb9 := heap_setCell_at w8 fb 3 (.slice a8 (l.length + 1) c8) _ _ _ HBK.out
      have HFIN := Lib.hid (show FindS (w8.setCell ⟨fb, 3, none⟩ (.slice a8 (l.length + 1) c8)) fb tb xb most _ 47 98 (.slice a8 (l.length + 1) c8) (l ++ [pre]) from ⟨by rw [hb9]; simp, AccP.setCell (b := fb) (o := 3) HA9.out _ (by intro h; rcases h with h | h | h; exact hA0 h.1; (have := h.1; omega); omega), by intro h; rcases h with h | h | h; exact hA0 h.1; (have := h.1; omega); omega⟩)
      have HBT9 := Lib.hid (butp_setF (b := fb) (o := 3) HBT8.out (.slice a8 (l.length + 1) c8) (.inl rfl))
      clear hb9
      go_wp2_with fail
      refine bodyPost_ret (v := .tuple #[]) (by simp [results, Tryz.results65, go_sem]) rfl ⟨rfl, HBT9.out, _, _, ?_, by rw [HTK.out]; exact HFIN.out⟩
      intro z hz
      rcases hz with h | h | h
      · exact .inl h.1
      · right; have := h.1; omega
      · right; omega
  | d + 1, pre, l, w, A, sv, vv, hb0, hF, hAH, hll, hpv, hpl, hval => by
    have IH := Lib.hid (from_c t x fb tb xb most H U SZ t1 x1 w0 hok hU hSZ hmo hH0 hfbH hfbt HTX d)
    have hpn : ((pre.length : Int) == (U : Int)) = false := by simp; omega
    have hplU : pre.length < U := by omega
    obtain ⟨av, cv, rfl, _⟩ := rd_list hpv.rd
    have hU10 : U ≤ 10 := by have := (instOk_get hok).2.1; omega
    have hs4 := (tmplOk_get (instOk_get hok).1).1
    have HOK := Lib.hid hok
    have HF := Lib.hid hF
    have HAH := Lib.hid hAH
    have HVL := Lib.hid hval
    have HPV := Lib.hid hpv
    have hsz0 := hb0.size
    have HHX := Lib.hid HTX
    have HB0 := Lib.hid hb0
    obtain ⟨-, -, -, -, x0, -⟩ := HTX w hb0
    rw [hU] at x0
    have c1 : w.cell? ⟨fb, 1, none⟩ = some (.pointer (some ⟨xb, 0, none⟩)) := by rw [cell_at_block hF.blk]; rfl
    have hfbw : fb < w.heap.size := (Array.getElem?_eq_some_iff.1 hF.blk).1
    have HST := Lib.hid (show (l ++ fromL t x (d + 1) pre).take most = (l ++ overL (fun a => if sureB t x (pre ++ [a]) = true then fromL t x d (pre ++ [a]) else []) (valsUp SZ 0)).take most by rw [fromL]; rw [show t.1.toNat = SZ by omega])
    generalize (l ++ fromL t x (d + 1) pre).take most = LL at *
    have HUU := Lib.hid hU
    clear hF hb0 HTX hAH hpv hok hval
    go_enter Tryz.func65, Tryz.ntmps65
    go_wp2_with fail
    clear x0 c1
    go_loopw [4] (fun i wl => ∃ (k : Nat) (B : Nat → Prop) (su : Value) (l' : List (List Int)), k ≤ SZ ∧ i = .int .i64 k ∧ Hid (ButP (fun z => z = fb ∨ A z) w wl) ∧ Hid (∀ z, B z → A z ∨ w.heap.size ≤ z) ∧ Hid (FindS wl fb tb xb most B 47 98 su l') ∧ Hid (l'.length ≤ most) ∧ Hid (Ip (fun z => z ≠ fb ∧ ¬ B z) wl [.slice av pre.length cv] pre) ∧ Hid (LL = (l' ++ overL (fun a => if sureB t x (pre ++ [a]) = true then fromL t x d (pre ++ [a]) else []) (valsUp SZ k)).take most)) (fun i _ => SZ - (intOf i).toNat)
    case atStart => exact ⟨0, A, sv, l, Nat.zero_le _, rfl, ButP.refl _ _, fun z hz => .inl hz, HF.out, by show _ ≤ _; omega, HPV.out, HST.out⟩
    case round =>
      clear HF HPV HST
      obtain ⟨wo, rfl⟩ : ∃ x, x = wr := ⟨_, rfl⟩
      obtain ⟨k, B, su, l', hk, rfl, hbt, hBA, hF, hll', hpv, hLL⟩ := hrel
      have hszo := hbt.out.size
      have hl'm := hll'.out
      have HBT := hbt
      have HF := hF
      have HB0O := Lib.hid (show ButP (fun z => z = fb ∨ H ≤ z) w0 wo from HB0.out.trans (hbt.out.wk (C := fun z => z = fb ∨ H ≤ z) (fun z hz => hz.elim .inl (fun h => .inr (HAH.out z h)))) (fun z hz => .inl hz))
      have HPV := Lib.hid hpv.out.tight
      have HPVO := HPV
      obtain ⟨aL, cL, rfl, _⟩ := HF.out.acc.len
      have c0 : wo.cell? ⟨fb, 0, none⟩ = some (.pointer (some ⟨tb, 0, none⟩)) := by rw [cell_at_block HF.out.blk]; rfl
      have c1 : wo.cell? ⟨fb, 1, none⟩ = some (.pointer (some ⟨xb, 0, none⟩)) := by rw [cell_at_block HF.out.blk]; rfl
      have c2 : wo.cell? ⟨fb, 2, none⟩ = some (.int .i64 most) := by rw [cell_at_block HF.out.blk]; rfl
      have c3 : wo.cell? ⟨fb, 3, none⟩ = some (.slice aL l'.length cL) := by rw [cell_at_block HF.out.blk]; rfl
      obtain ⟨-, -, g0, -, -, -⟩ := HHX.out wo HB0O.out
      rw [hSZ] at g0
      have hfbo : fb < wo.heap.size := by omega
      clear hbt hF hll' hpv
      by_cases hlt : k < SZ
      · have hltI : (k : Int) < SZ := by omega
        have hmoI : (0 : Int) < most := by omega
        have HDC := Lib.hid (show decide ((0 : Int) < (most : Int)) = true from decide_eq_true hmoI)
        clear hmoI
        have HDN := Lib.hid (show decide (0 < most) = true from decide_eq_true (by omega))
        by_cases hfull : l'.length = most
        · have hfb2 : ((l'.length : Int) == (most : Int)) = true := by simp; omega
          have HLF := Lib.hid (show LL = l' by
            rw [hLL.out, List.take_append_of_le_length (by omega), List.take_of_length_le (by omega)])
          clear hfull
          go_upto_region 7 with fail
          refine wp_region_noPanic (wp_region_tree4 (fun w' => w'.cell? ⟨fb, 0, none⟩ = some (.pointer (some ⟨tb, 0, none⟩)) ∧ w'.cell? ⟨fb, 1, none⟩ = some (.pointer (some ⟨xb, 0, none⟩)) ∧ w'.cell? ⟨fb, 2, none⟩ = some (.int .i64 most) ∧ w'.cell? ⟨fb, 3, none⟩ = some (.slice aL l'.length cL) ∧ w'.cell? ⟨tb, 0, none⟩ = some (.int .i64 SZ)) (.float 0 (.float 1 (.float 2 (.float 3 (.float 4 (.float 5 (.float 6 (.float 7 (.float 8 (.float 9 (.float 10 (.float 11 (.float 12 (.float 13 (.float 14 (.float 15 (.float 16 .nil))))))))))))))))) (by kernel_rfl) (by kernel_rfl) (by kernel_rfl) rfl ?_ (fun _ _ _ _ _ h => h) ?_)
          · exact ⟨cellL (belowD _) c0, cellL (belowD _) c1, cellL (belowD _) c2, cellL (belowD _) c3, cellL (belowD _) g0⟩
          have hs25 := (St.start wo).drew
          have c0_26 := cellL (belowD _) c0
          clear c0
          have c1_27 := cellL (belowD _) c1
          clear c1
          have c2_28 := cellL (belowD _) c2
          clear c2
          have c3_29 := cellL (belowD _) c3
          clear c3
          have g0_30 := cellL (belowD _) g0
          clear g0
          have HPV_31 := Lib.hid (Ip.mono HPV.out (belowD _))
          clear HPV
          have hz_wd32 : wo.heap.size ≤ (wo.drew).heap.size := by simp
          generalize hgen_wd32 : wo.drew = wd32 at *
          have HG_wd32 := Lib.hid hgen_wd32
          clear hgen_wd32
          (repeat (first | (apply t4_skip rfl (by rfl); try simp only [Act.put, List.setIfInBounds_toArray, List.set_cons_zero, List.set_cons_succ]) | (apply t4_float rfl (by rfl); (· (intro w' hS; go_simp <;> with_reducible rfl)); (try simp only [Act.put, List.setIfInBounds_toArray, List.set_cons_zero, List.set_cons_succ]))))
          (try (rw [HDC.out]; (repeat (first | (apply t4_skip rfl (by rfl); try simp only [Act.put, List.setIfInBounds_toArray, List.set_cons_zero, List.set_cons_succ]) | (apply t4_float rfl (by rfl); (· (intro w' hS; go_simp <;> with_reducible rfl)); (try simp only [Act.put, List.setIfInBounds_toArray, List.set_cons_zero, List.set_cons_succ]))))))
          (try (rw [HDN.out]; (repeat (first | (apply t4_skip rfl (by rfl); try simp only [Act.put, List.setIfInBounds_toArray, List.set_cons_zero, List.set_cons_succ]) | (apply t4_float rfl (by rfl); (· (intro w' hS; go_simp <;> with_reducible rfl)); (try simp only [Act.put, List.setIfInBounds_toArray, List.set_cons_zero, List.set_cons_succ]))))))
          refine t4_nil (NoPanic.normal ?_)
          have HFN := Lib.hid (HF.out.mono hs25.bel)
          have HBN := Lib.hid (HBT.out.trans ((ButP.of hs25.bel) : ButP (fun z => z = fb ∨ A z) _ _) (fun z hz => .inl hz))
          go_wp2_with fail
          exact bodyPost_ret (v := .tuple #[]) (by simp [results, Tryz.results65, go_sem]) rfl ⟨rfl, HBN.out, B, _, hBA.out, by rw [HLF.out]; exact HFN.out⟩
        · have hfb2 : ((l'.length : Int) == (most : Int)) = false := by simp; omega
          have hl'lt : l'.length < most := by omega
          have HLK := Lib.hid (show LL = (l' ++ ((if sureB t x (pre ++ [(k : Int)]) = true then fromL t x d (pre ++ [(k : Int)]) else []) ++ overL (fun a => if sureB t x (pre ++ [a]) = true then fromL t x d (pre ++ [a]) else []) (valsUp SZ (k + 1)))).take most by rw [hLL.out, valsUp_lt hlt, overL])
          clear hfull hLL
          go_upto_region 7 with fail
          refine wp_region_noPanic (wp_region_tree4 (fun w' => w'.cell? ⟨fb, 0, none⟩ = some (.pointer (some ⟨tb, 0, none⟩)) ∧ w'.cell? ⟨fb, 1, none⟩ = some (.pointer (some ⟨xb, 0, none⟩)) ∧ w'.cell? ⟨fb, 2, none⟩ = some (.int .i64 most) ∧ w'.cell? ⟨fb, 3, none⟩ = some (.slice aL l'.length cL) ∧ w'.cell? ⟨tb, 0, none⟩ = some (.int .i64 SZ)) (.float 0 (.float 1 (.float 2 (.float 3 (.float 4 (.float 5 (.float 6 (.float 7 (.float 8 (.float 9 (.float 10 (.float 11 (.float 12 (.float 13 (.float 14 (.float 15 (.float 16 .nil))))))))))))))))) (by kernel_rfl) (by kernel_rfl) (by kernel_rfl) rfl ?_ (fun _ _ _ _ _ h => h) ?_)
          · exact ⟨cellL (belowD _) c0, cellL (belowD _) c1, cellL (belowD _) c2, cellL (belowD _) c3, cellL (belowD _) g0⟩
          have hs33 := (St.start wo).drew
          have c0_34 := cellL (belowD _) c0
          clear c0
          have c1_35 := cellL (belowD _) c1
          clear c1
          have c2_36 := cellL (belowD _) c2
          clear c2
          have c3_37 := cellL (belowD _) c3
          clear c3
          have g0_38 := cellL (belowD _) g0
          clear g0
          have HPV_39 := Lib.hid (Ip.mono HPV.out (belowD _))
          clear HPV
          have hz_wd40 : wo.heap.size ≤ (wo.drew).heap.size := by simp
          generalize hgen_wd40 : wo.drew = wd40 at *
          have HG_wd40 := Lib.hid hgen_wd40
          clear hgen_wd40
          (repeat (first | (apply t4_skip rfl (by rfl); try simp only [Act.put, List.setIfInBounds_toArray, List.set_cons_zero, List.set_cons_succ]) | (apply t4_float rfl (by rfl); (· (intro w' hS; go_simp <;> with_reducible rfl)); (try simp only [Act.put, List.setIfInBounds_toArray, List.set_cons_zero, List.set_cons_succ]))))
          (try (rw [HDC.out]; (repeat (first | (apply t4_skip rfl (by rfl); try simp only [Act.put, List.setIfInBounds_toArray, List.set_cons_zero, List.set_cons_succ]) | (apply t4_float rfl (by rfl); (· (intro w' hS; go_simp <;> with_reducible rfl)); (try simp only [Act.put, List.setIfInBounds_toArray, List.set_cons_zero, List.set_cons_succ]))))))
          (try (rw [HDN.out]; (repeat (first | (apply t4_skip rfl (by rfl); try simp only [Act.put, List.setIfInBounds_toArray, List.set_cons_zero, List.set_cons_succ]) | (apply t4_float rfl (by rfl); (· (intro w' hS; go_simp <;> with_reducible rfl)); (try simp only [Act.put, List.setIfInBounds_toArray, List.set_cons_zero, List.set_cons_succ]))))))
          refine t4_nil (NoPanic.normal ?_)
          go_wp2_with fail
          refine (l00Own_c pre _ _ HPV_39.out.rd (by omega)).mono ?_
          rintro e w41 ⟨v3, rfl, hac, hbw41⟩
          have hz_w41 : wd40.heap.size ≤ w41.heap.size := by have h9 := hbw41.size; (try simp at h9); omega
          have hs42 := hs33.step hbw41
          have c0_43 := cellL hbw41 c0_34
          clear c0_34
          have c1_44 := cellL hbw41 c1_35
          clear c1_35
          have c2_45 := cellL hbw41 c2_36
          clear c2_36
          have c3_46 := cellL hbw41 c3_37
          clear c3_37
          have g0_47 := cellL hbw41 g0_38
          clear g0_38
          have HPV_48 := Lib.hid (Ip.mono HPV_39.out hbw41)
          clear HPV_39
          obtain ⟨a3, c3', rfl, _⟩ := (hac.accP (Nat.le_refl _)).len
          have HNW := Lib.hid (hac.accP (Nat.le_refl _)).tight
          clear hac
          have hIX : I64 (k : Int) := ⟨by omega, by omega⟩
          have HIX := Lib.hid hIX
          clear hIX
          have hdz := hs42.bel.size
          go_wp2_with (at_builtin; refine wpList_append_accP _ rfl _ _ _ rfl E_ints rfl (AccP.mono HNW.out (belowA _ _)) (ip_int1 (C := fun _ => False) HIX.out) (fun z h1 h2 => h2) ⟨w41.heap.size, 0, none⟩ 1 rfl (news1 (cell_at_block (heap_alloc_new _ _))) (by omega) ?_; intro a7 c7 w7 hA7 hB7; refine Hid.out ?_)
          have HNX := Lib.hid ((hA7.ip).wk (B := fun z => wo.heap.size ≤ z) (fun z hz => by
            rcases hz with h | h | h
            · (try simp only at h); omega
            · exact h.elim
            · rw [h]; simp; omega))
          have HB7 := Lib.hid hB7
          have hz7 := hB7.size
          have hfr7 : ButP (fun z => wo.heap.size ≤ z) wo w7 := ((ButP.of hs42.bel : ButP (fun z => wo.heap.size ≤ z) _ _).trans (ButP.of (belowA _ _) : ButP (fun z => wo.heap.size ≤ z) _ _) (fun z hz => .inl hz)).trans (hB7.wk (C := fun z => wo.heap.size ≤ z) (fun z hz => by (try simp only at hz); omega)) (fun z hz => .inl hz)
          have HFR7 := Lib.hid hfr7
          have HF7 := Lib.hid (HF.out.tight.frame hfr7 (by omega) (fun z h1 h2 => by (try simp only at h1 h2); omega))
          have HB07 := Lib.hid (show ButP (fun z => z = fb ∨ H ≤ z) w0 w7 from HB0O.out.trans (hfr7.wk (C := fun z => z = fb ∨ H ≤ z) (fun z hz => .inr (by omega))) (fun z hz => .inl hz))
          have HPV7 := Lib.hid (Ip.butP HPVO.out hfr7 (fun z h1 h2 => by (try simp only at h1 h2); omega))
          have HBT7 := Lib.hid (HBT.out.trans (hfr7.wk (C := fun z => z = fb ∨ wo.heap.size ≤ z) (fun z hz => .inr hz)) (fun z hz => by omega))
          have HX7 := Lib.hid (HHX.out w7 HB07.out)
          have g0' := HX7.out.2.2.1
          have f0' : w7.cell? ⟨fb, 0, none⟩ = some (.pointer (some ⟨tb, 0, none⟩)) := by rw [cell_at_block HF7.out.blk]; rfl
          have f1' : w7.cell? ⟨fb, 1, none⟩ = some (.pointer (some ⟨xb, 0, none⟩)) := by rw [cell_at_block HF7.out.blk]; rfl
          have hzw7 : wo.heap.size ≤ w7.heap.size := hfr7.size
          clear hA7 hB7 hfr7
          refine Lib.hid ?_
          go_wp2_with fail
          refine (l05Sure_c t x (pre ++ [(k : Int)]) fb tb xb _ t1 _ x1 _ w7 HX7.out.1 HX7.out.2.1 (by simpa using HNX.out.rd) HOK.out (by rw [HUU.out]; simp; omega) f0' f1' HX7.out.2.2.2.1 HX7.out.2.2.2.2.2).mono ?_
          rintro e w8 ⟨rfl, hb8⟩
          have hz8 := hb8.size
          have HF8 := Lib.hid (HF7.out.mono hb8)
          have HB08 := Lib.hid (show ButP (fun z => z = fb ∨ H ≤ z) w0 w8 from HB07.out.trans (ButP.of hb8 : ButP (fun z => z = fb ∨ H ≤ z) _ _) (fun z hz => .inl hz))
          have HPV8 := Lib.hid (Ip.mono HPV7.out hb8)
          have HNX8 := Lib.hid (Ip.mono HNX.out hb8)
          have HBT8 := Lib.hid (show ButP (fun z => z = fb ∨ A z) w w8 from HBT7.out.trans (ButP.of hb8 : ButP (fun z => z = fb ∨ A z) _ _) (fun z hz => .inl hz))
          clear hb8 HF7 HB07 HPV7 HNX HBT7 HX7 f0' f1'
          cases hsu : sureB t x (pre ++ [(k : Int)]) with
          | false =>
            have HLN := Lib.hid (show LL = (l' ++ overL (fun a => if sureB t x (pre ++ [a]) = true then fromL t x d (pre ++ [a]) else []) (valsUp SZ (k + 1))).take most by rw [HLK.out, hsu]; simp)
            have HBA8 := Lib.hid (show ∀ z, (B z ∧ z < wo.heap.size) → A z ∨ w.heap.size ≤ z from fun z hz => hBA.out z hz.1)
            clear hsu HLK
            go_wp2_with fail
            go_roundw
            case rel => exact ⟨k + 1, _, _, l', hlt, by go_num, HBT8.out, HBA8.out, HF8.out, hl'm, HPV8.out.wk (fun z hz => ⟨hz.1.1, fun h => hz.1.2 h.1⟩), HLN.out⟩
            case measure => simp [intOf]; omega
          | true =>
            have HLN := Lib.hid (show LL = ((l' ++ fromL t x d (pre ++ [(k : Int)])).take most ++ overL (fun a => if sureB t x (pre ++ [a]) = true then fromL t x d (pre ++ [a]) else []) (valsUp SZ (k + 1))).take most by
              rw [HLK.out, hsu, take_app, List.append_assoc]; simp)
            clear hsu HLK
            go_wp2_with fail
            refine (IH.out (pre ++ [(k : Int)]) l' w8 (fun z => B z ∧ z < wo.heap.size) _ _ HB08.out HF8.out (fun z hz => by rcases hBA.out z hz.1 with h | h; exact HAH.out z h; omega) hl'lt (by simpa using HNX8.out.wk (B := fun z => z ≠ fb ∧ ¬ (B z ∧ z < wo.heap.size)) (fun z hz => ⟨fun e => by (try simp only at hz); omega, fun h => by have := h.2; (try simp only at hz); omega⟩)) (by simp; omega) (fun a ha => by
              rcases List.mem_append.1 ha with h | h
              · exact HVL.out a h
              · simp only [List.mem_singleton] at h; subst h; omega)).mono ?_
            rintro e w9 ⟨rfl, hb9, A9, su9, hA9, hF9⟩
            have HBT9 := Lib.hid (HBT8.out.trans hb9 (fun z hz => by
              rcases hz with h | h
              · exact .inl (.inl h)
              · rcases hBA.out z h.1 with h | h
                · exact .inl (.inr h)
                · exact .inr h))
            have HBA9 := Lib.hid (show ∀ z, A9 z → A z ∨ w.heap.size ≤ z from fun z hz => by
              rcases hA9 z hz with h | h
              · exact hBA.out z h.1
              · right; omega)
            have HPV9 := Lib.hid ((Ip.butP HPV8.out hb9 (fun z h1 h2 => by
              rcases h2 with h2 | h2
              · exact h1.1.1 h2
              · exact h1.1.2 h2.1)).wk (B := fun z => z ≠ fb ∧ ¬ A9 z) (fun z hz => ⟨hz.1.1, fun h => by
              rcases hA9 z h with h | h
              · exact hz.1.2 h.1
              · have := hz.2; omega⟩))
            have HF9 := Lib.hid hF9
            clear hb9 hA9 hF9 HF8 HPV8 HBT8 HB08 HNX8
            go_wp2_with fail
            go_roundw
            case rel => exact ⟨k + 1, A9, su9, _, hlt, by go_num, HBT9.out, HBA9.out, HF9.out, (by show _ ≤ most; rw [List.length_take]; omega), HPV9.out, HLN.out⟩
            case measure => simp [intOf]; omega
      · obtain rfl : k = SZ := by omega
        have hnl : ¬ ((k : Int) < k) := by omega
        have HLF := Lib.hid (show LL = l' by
          rw [hLL.out, valsUp_ge (Nat.le_refl _), overL, List.append_nil, List.take_of_length_le (by omega)])
        go_wp2_with fail
        have HFE := Lib.hid (show FindS wo fb tb xb most B 47 98 (.slice aL l'.length cL) LL by rw [HLF.out]; exact HF.out)
        refine bodyPost_end (v := .tuple #[]) (by simp [results, Tryz.results65, go_sem]) rfl ⟨rfl, HBT.out, ?_⟩
        exact ⟨B, hBA.out, _, HFE.out⟩

set_option maxRecDepth 100000 in
set_option maxHeartbeats 4000000 in
theorem l05Solutions_c (t : Tmpl) (x : Inst) (tb xb most U SZ : Nat) (t1 x1 : Value) (w : World) (hok : instOk t x = true) (hU : x.1 = (U : Int)) (hSZ : t.1 = (SZ : Int)) (hmo : 1 ≤ most ∧ most ≤ 1000)
    (ht : Rd w [.int .i64 t.1, t1] t) (hx : Rd w [.int .i64 x.1, x1] x) (a0 : w.cell? ⟨tb, 0, none⟩ = some (.int .i64 t.1)) (a1 : w.cell? ⟨tb, 1, none⟩ = some t1) (b0 : w.cell? ⟨xb, 0, none⟩ = some (.int .i64 x.1)) (b1 : w.cell? ⟨xb, 1, none⟩ = some x1) :
    Calls Tryz.prog 36 #[.pointer (some ⟨tb, 0, none⟩), .pointer (some ⟨xb, 0, none⟩), .int .i64 most] w fun e w' => ∃ v, e = .returned v ∧ Fresh w.heap.size w' [v] ((fromL t x U []).take most) ∧ Below w.heap.size w w' := by
  have HT := Lib.hid ht
  have HX := Lib.hid hx
  have htb := World.block_lt_of_cell? w _ a0
  have hxb := World.block_lt_of_cell? w _ b0
  simp only at htb hxb
  have A0 := Lib.hid a0
  have A1 := Lib.hid a1
  have B0 := Lib.hid b0
  have B1 := Lib.hid b1
  have HOK := Lib.hid hok
  have HUU := Lib.hid hU
  have HSS := Lib.hid hSZ
  obtain ⟨LL, hLL⟩ : ∃ LL, LL = (fromL t x U []).take most := ⟨_, rfl⟩
  rw [← hLL]
  have HLL := Lib.hid hLL
  clear hLL ht hx a0 a1 b0 b1 hok hU hSZ
  go_enter Tryz.func36, Tryz.ntmps36
  go_upto_region 2 with fail
  have hs49 := (St.start w).alloc #[.pointer (some ⟨tb, 0, none⟩), .pointer (some ⟨xb, 0, none⟩), .int .i64 most, .slice none 0 0, .int .i64 0] 98 (n := w.heap.size) (by simp)
  have k0_0 := hs49.cellAt 0 rfl 0 rfl
  have k0_1 := hs49.cellAt 0 rfl 1 rfl
  have k0_2 := hs49.cellAt 0 rfl 2 rfl
  have k0_3 := hs49.cellAt 0 rfl 3 rfl
  have k0_4 := hs49.cellAt 0 rfl 4 rfl
  have hz_wF : w.heap.size + 1 ≤ ((w.alloc (.cells #[.pointer (some ⟨tb, 0, none⟩), .pointer (some ⟨xb, 0, none⟩), .int .i64 most, .slice none 0 0, .int .i64 0] 98))).heap.size := by simp
  generalize hgen_wF : (w.alloc (.cells #[.pointer (some ⟨tb, 0, none⟩), .pointer (some ⟨xb, 0, none⟩), .int .i64 most, .slice none 0 0, .int .i64 0] 98)) = wF at *
  clear hgen_wF
  have hzF : w.heap.size + 1 ≤ wF.heap.size := hs49.hi
  have HBL := Lib.hid hs49.bel
  have HBK := Lib.hid (hs49.box (w.heap.size, #[.pointer (some ⟨tb, 0, none⟩), .pointer (some ⟨xb, 0, none⟩), .int .i64 most, .slice none 0 0, .int .i64 0], 98) (by simp)).2.2
  have HSTAY := Lib.hid (show StaysT wF w.heap.size tb xb (w.heap.size + 1) t x t1 x1 from fun w' hb => by
    have hbl : Below w.heap.size w w' := ⟨hb.os.trans HBL.out.os, hb.tape.trans HBL.out.tape, hb.output.trans HBL.out.output, by have := hb.size; omega, fun q hq => (hb.block q (by omega) (by intro h; rcases h with h | h <;> omega)).trans (HBL.out.block q hq)⟩
    exact ⟨Rd.mono HT.out hbl, Rd.mono HX.out hbl, cellL hbl A0.out, cellL hbl A1.out, cellL hbl B0.out, cellL hbl B1.out⟩)
  have HFS := Lib.hid (show FindS wF w.heap.size tb xb most (fun z => w.heap.size + 1 ≤ z) 47 98 (.slice none 0 0) [] from ⟨by simpa using HBK.out, AccP.nil _ _ _, fun h => by (try simp only at h); omega⟩)
  go_wp2_with fail
  have hnil : Ip (fun z => z ≠ w.heap.size ∧ ¬ (w.heap.size + 1 ≤ z)) (wF.alloc (.cells #[] 2)) [.slice (some ⟨wF.heap.size, 0, none⟩) 0 0] ([] : List Int) := ⟨[], ⟨_, rfl, .inl ⟨rfl, rfl, _, _, rfl, Nat.zero_le _⟩⟩, by simp, by simp⟩
  refine (from_c t x w.heap.size tb xb most (w.heap.size + 1) U SZ t1 x1 wF HOK.out HUU.out HSS.out hmo hzF (by omega) (by omega) HSTAY.out U [] [] _ (fun z => w.heap.size + 1 ≤ z) _ _ (ButP.of (belowA _ _)) (HFS.out.mono (belowA _ _)) (fun z hz => hz) (by simp; omega) hnil (by simp) (fun a h => by cases h)).mono ?_
  rintro e w9 ⟨rfl, hb9, A9, su9, hA9, hF9⟩
  rw [List.nil_append, ← HLL.out] at hF9
  obtain ⟨a9, c9, rfl, _⟩ := hF9.acc.len
  have hz9 := hb9.size
  have hzz : wF.heap.size + 1 ≤ w9.heap.size := by (try simp at hz9); omega
  have q3 : w9.cell? ⟨w.heap.size, 3, none⟩ = some (.slice a9 LL.length c9) := by rw [cell_at_block hF9.blk]; rfl
  have HFR := Lib.hid (hF9.acc.ip.fresh (lo := w.heap.size) (fun z hz => by
    rcases hA9 z hz with h | h
    · (try simp only at h); omega
    · (try simp at h); omega))
  have HBW := Lib.hid (show Below w.heap.size w w9 from HBL.out.trans (((belowA wF (.cells #[] 2)).mono (by omega)).trans (hb9.below (fun z hz => by (try simp only at hz); omega) (by simp; omega))))
  clear hF9 hA9 hb9 hnil
  go_wp2_with fail
  go_ret
  exact ⟨.slice a9 LL.length c9, rfl, HFR.out, HBW.out⟩

theorem fresh_noneF {α : Type} [Rep α] {H : Nat} {w : World} {a : Option Addr} {c : Nat} (hc : c ≤ maxLen) : Fresh H w [.slice a 0 c] ([] : List α) :=
  ⟨[], ⟨_, rfl, .inl ⟨rfl, rfl, a, c, rfl, hc⟩⟩, by simp, by simp⟩
def allSF (t : Tmpl) (x : Inst) : List (List Int) × Int :=
  if instOk t x = true then (if 200 < (fromL t x x.1.toNat []).length then ([], 3) else (fromL t x x.1.toNat [], 0)) else ([], 1)
set_option maxRecDepth 100000 in
set_option maxHeartbeats 4000000 in
theorem sAllSolutions_c (t : Tmpl) (x : Inst) (t0 t1 x0 x1 : Value) (w : World) (ht : Rd w [t0, t1] t) (hx : Rd w [x0, x1] x) :
    Calls Tryz.prog 13 #[.agg #[t0, t1], .agg #[x0, x1]] w fun e w' => ∃ v, e = .returned (.tuple #[v, .int .i64 (allSF t x).2]) ∧ Fresh w.heap.size w' [v] (allSF t x).1 ∧ Below w.heap.size w w' := by
  have HT := Lib.hid ht
  have HX := Lib.hid hx
  obtain ⟨RR, hRR⟩ : ∃ RR, RR = allSF t x := ⟨_, rfl⟩
  rw [← hRR]
  have HRR := Lib.hid hRR
  clear hRR
  obtain ⟨size, rs⟩ := t
  obtain ⟨vars, cs⟩ := x
  have zt := rd_cons rfl ht
  obtain ⟨rfl, _⟩ := rd_i1 zt.1
  obtain ⟨at0, ct0, rfl, _⟩ := rd_list zt.2
  have zx := rd_cons rfl hx
  obtain ⟨rfl, _⟩ := rd_i1 zx.1
  obtain ⟨ax, cx, rfl, _⟩ := rd_list zx.2
  clear ht hx zt zx
  have hs50 := (St.start w).alloc #[.int .i64 size, .slice at0 rs.length ct0] 26 (n := w.heap.size) (by simp)
  have k0_0 := hs50.cellAt 0 rfl 0 rfl
  have k0_1 := hs50.cellAt 0 rfl 1 rfl
  have hs51 := hs50.alloc #[.int .i64 vars, .slice ax cs.length cx] 29 (n := w.heap.size + 1) (by simp)
  clear k0_0 k0_1
  have k0_0 := hs51.cellAt 0 rfl 0 rfl
  have k0_1 := hs51.cellAt 0 rfl 1 rfl
  have k1_0 := hs51.cellAt 1 rfl 0 rfl
  have k1_1 := hs51.cellAt 1 rfl 1 rfl
  go_enter Tryz.func13, Tryz.ntmps13
  go_wp2_with fail
  refine (l05Ok_c (size, rs) (vars, cs) (w.heap.size) (w.heap.size + 1) _ _ _ _ _ (Rd.mono HT.out hs51.bel) (Rd.mono HX.out hs51.bel) (hs51.cellAt 0 rfl 0 rfl) (hs51.cellAt 0 rfl 1 rfl) (hs51.cellAt 1 rfl 0 rfl) (hs51.cellAt 1 rfl 1 rfl)).mono ?_
  rintro e w52 ⟨rfl, hbw52⟩
  have hz_w52 : w.heap.size + 1 + 1 ≤ w52.heap.size := by have h9 := hbw52.size; (try simp at h9); omega
  have hs53 := hs51.step hbw52
  clear k0_0 k0_1 k1_0 k1_1
  have k0_0 := hs53.cellAt 0 rfl 0 rfl
  have k0_1 := hs53.cellAt 0 rfl 1 rfl
  have k1_0 := hs53.cellAt 1 rfl 0 rfl
  have k1_1 := hs53.cellAt 1 rfl 1 rfl
  cases hok : instOk (size, rs) (vars, cs) with
  | false =>
    obtain rfl : RR = ([], 1) := HRR.out.trans (by unfold allSF; rw [if_neg (by rw [hok]; decide)])
    clear hok HRR
    go_wp2_with fail
    exact bodyPost_ret (v := .tuple #[.slice (some ⟨w52.heap.size, 0, none⟩) 0 0, .int .i64 1]) (by simp [results, Tryz.results13, go_sem]) rfl ⟨_, rfl, fresh_noneF (Nat.zero_le _), hs53.bel.trans ((belowA _ _).mono hs53.bel.size)⟩
  | true =>
    have hs := (tmplOk_get (instOk_get hok).1).1
    have hv := (instOk_get hok).2.1
    obtain ⟨SZ, rfl⟩ : ∃ SZ : Nat, size = (SZ : Int) := ⟨size.toNat, by simp only at hs; omega⟩
    obtain ⟨U, rfl⟩ : ∃ U : Nat, vars = (U : Int) := ⟨vars.toNat, by simp only at hv; omega⟩
    have HA := Lib.hid (show RR = if 200 < (fromL ((SZ : Int), rs) ((U : Int), cs) U []).length then ([], 3) else (fromL ((SZ : Int), rs) ((U : Int), cs) U [], 0) from HRR.out.trans (by unfold allSF; rw [if_pos hok]; simp only [Int.toNat_natCast]))
    have HOK := Lib.hid hok
    clear hok hs hv HRR
    go_wp2_with fail
    refine (l05Solutions_c ((SZ : Int), rs) ((U : Int), cs) (w.heap.size) (w.heap.size + 1) 201 U SZ _ _ _ HOK.out rfl rfl (by omega) (Rd.mono HT.out hs53.bel) (Rd.mono HX.out hs53.bel) (hs53.cellAt 0 rfl 0 rfl) (hs53.cellAt 0 rfl 1 rfl) (hs53.cellAt 1 rfl 0 rfl) (hs53.cellAt 1 rfl 1 rfl)).mono ?_
    rintro e w54 ⟨v9, rfl, fr, hbw54⟩
    have hz_w54 : w52.heap.size ≤ w54.heap.size := by have h9 := hbw54.size; (try simp at h9); omega
    have hs55 := hs53.step hbw54
    clear k0_0 k0_1 k1_0 k1_1
    have k0_0 := hs55.cellAt 0 rfl 0 rfl
    have k0_1 := hs55.cellAt 0 rfl 1 rfl
    have k1_0 := hs55.cellAt 1 rfl 0 rfl
    have k1_1 := hs55.cellAt 1 rfl 1 rfl
    obtain ⟨a9, c9, rfl, _⟩ := rd_list fr.rd
    have HFR := Lib.hid (fr.lower (lo' := w.heap.size) (by omega))
    clear fr
    by_cases hgt : 200 < (fromL ((SZ : Int), rs) ((U : Int), cs) U []).length
    · rw [if_pos hgt] at HA
      have hl : (List.take 201 (fromL ((SZ : Int), rs) ((U : Int), cs) U [])).length = 201 := by rw [List.length_take]; omega
      obtain rfl : RR = ([], 3) := HA.out
      clear HA
      generalize List.take 201 (fromL ((SZ : Int), rs) ((U : Int), cs) U []) = LL at *
      rw [hl]
      clear hl HFR hgt
      go_wp2_with fail
      exact bodyPost_ret (v := .tuple #[.slice (some ⟨w54.heap.size, 0, none⟩) 0 0, .int .i64 3]) (by simp [results, Tryz.results13, go_sem]) rfl ⟨_, rfl, fresh_noneF (Nat.zero_le _), hs55.bel.trans ((belowA _ _).mono hs55.bel.size)⟩
    · rw [if_neg hgt] at HA
      have hl : List.take 201 (fromL ((SZ : Int), rs) ((U : Int), cs) U []) = fromL ((SZ : Int), rs) ((U : Int), cs) U [] := List.take_of_length_le (by omega)
      rw [hl] at HFR ⊢
      generalize fromL ((SZ : Int), rs) ((U : Int), cs) U [] = LL at HFR HA hl hgt ⊢
      obtain rfl : RR = (LL, 0) := HA.out
      clear HA
      have hgI : ¬ ((200 : Int) < LL.length) := by omega
      clear hl hgt
      go_wp2_with fail
      exact bodyPost_ret (v := .tuple #[.slice a9 LL.length c9, .int .i64 0]) (by simp [results, Tryz.results13, go_sem]) rfl ⟨_, rfl, HFR.out, hs55.bel⟩

end Go.Proofs.YtamkfnkikiekaaaGreat

