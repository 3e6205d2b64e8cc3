/-
  CONTRACTS: the instances that the reference draws, with their templates; tuples.
-/
import Derived.Test.YtllenfkbfeanmaaGreatDrawKFa
import Derived.Test.YtllenfkbfeanmaaGreatTmplBFa
namespace Go.Proofs.YtllenfkbfeanmaaGreat
open Go.RowKit Go.Shelf Go.IntWalk
open Rep (Rd Own sz)
set_option linter.unusedSimpArgs false
set_option linter.unusedVariables false

theorem cell_but {ps : List Nat} {w w' : World} {b o : Nat} {v : Value} (hb : But ps w w') (h : w.cell? ⟨b, o, none⟩ = some v) (hn : b ∉ ps) : w'.cell? ⟨b, o, none⟩ = some v :=
  cellK h (hb.block b (World.block_lt_of_cell? w _ h) hn)
theorem Ip.butL {α : Type} [Rep α] {A : Nat → Prop} {w w' : World} {vs : List Value} {x : α} (h : Ip A w vs x) {ps : List Nat} (hb : But ps w w') (hp : ∀ k, k ∈ ps → ¬ A k) : Ip A w' vs x :=
  h.butP (A := fun k => k ∈ ps) (hb.butP (fun k hk => hk)) (fun k hA hk => hp k hk hA)
theorem conOk_of {size : Int} {rs : List RelT} {U : Int} {j : Nat} {sc : List Int} (hj : j < rs.length) (hl : (sc.length : Int) = (rs.getD j (0, [])).1) (hv : ∀ a, a ∈ sc → 0 ≤ a ∧ a < U) : conOk (size, rs) U ((j : Int), sc) = true := by
  simp only [conOk, Bool.and_eq_true, Int.toNat_natCast]
  refine ⟨inB_mk (by simp; omega), ?_⟩
  simp only [valsOk, Bool.and_eq_true, decide_eq_true_eq, List.all_eq_true]
  exact ⟨hl, fun a ha => inB_mk (by have := hv a ha; omega)⟩
theorem instOk_of {t : Tmpl} {U : Nat} {l : List OpT} (ht : tmplOk t = true) (hU : 1 ≤ U ∧ U ≤ 10) (hl : l.length ≤ 24) (h : ∀ c, c ∈ l → conOk t (U : Int) c = true) : instOk t ((U : Int), l) = true := by
  simp only [instOk, Bool.and_eq_true, decide_eq_true_eq, List.all_eq_true]
  exact ⟨⟨⟨ht, inB_mk (by omega)⟩, hl⟩, h⟩
theorem ip_icD {β : Type} [Rep β] {A : Nat → Prop} {w : World} {v : Value} {k : Int} {T : β} (hk : I64 k) (h : Ip A w [v] T) : Ip A w [.int .i64 k, v] (k, T) := by
  obtain ⟨ps, h1, h2, h3⟩ := h
  exact ⟨ps, lit_rel hk h1, h2, h3⟩
set_option maxRecDepth 100000 in
set_option maxHeartbeats 16000000 in
theorem l05Drawn_c (most : Int) (t : Tmpl) (t0 t1 : Value) (tb lo L B b k : Nat) (w : World) (h : Src L B w b k) (hB : B ≤ w.heap.size) (hk : k ≤ 600000000) (hm : 1 ≤ most ∧ most ≤ 10) (ht : Fresh lo w [t0, t1] t) (hlo : b < lo) (htb : tb ≠ b) (tc1 : w.cell? ⟨tb, 1, none⟩ = some t1) (hok : tmplOk t = true) :
    Calls Tryz.prog 73 #[.pointer (some ⟨b, 0, none⟩), .pointer (some ⟨tb, 0, none⟩), .int .i64 most] w fun e w' => ∃ (U : Nat) (v : Value), e = .returned (.agg #[.int .i64 U, v]) ∧ ∃ l : List OpT, Fresh w.heap.size w' [.int .i64 U, v] (((U : Int), l) : Inst) ∧ instOk t ((U : Int), l) = true ∧ ((U : Int) ≤ most ∧ l.length ≤ 6) ∧ Src L B w' b (k + 100) ∧ But [b] w w' := by
  have hbw := h.lt
  have htw : tb < w.heap.size := World.block_lt_of_cell? w _ tc1
  have HSR := Lib.hid h
  have HBT := Lib.hid (But.refl [b] w)
  obtain ⟨size, rs⟩ := t
  have zt := rd_cons rfl ht.rd
  obtain ⟨rfl, _⟩ := rd_i1 zt.1
  obtain ⟨at0, ct0, rfl, _⟩ := rd_list zt.2
  have HTF := Lib.hid ht.ip
  have HRL := Lib.hid (tmplOk_get hok)
  have hrl := (tmplOk_get hok).2.1
  simp only at hrl
  have HOK := Lib.hid hok
  clear h ht zt hok
  have hs1 := (St.start w).alloc #[.int .i64 0, .slice none 0 0] 29 (n := w.heap.size) (by simp)
  have tc1_2 := cellL (belowA _ (.cells #[.int .i64 0, .slice none 0 0] 29)) tc1
  clear tc1
  have HSR_3 := Lib.hid (Src.mono HSR.out (belowA _ (.cells #[.int .i64 0, .slice none 0 0] 29)))
  clear HSR
  have HTF_4 := Lib.hid (Ip.mono HTF.out (belowA _ (.cells #[.int .i64 0, .slice none 0 0] 29)))
  clear HTF
  have k0_0 := hs1.cellAt 0 rfl 0 rfl
  have k0_1 := hs1.cellAt 0 rfl 1 rfl
  go_enter Tryz.func73, Tryz.ntmps73
  go_wp2_with fail
  refine (pickG_c most L B b k _ HSR_3.out (by omega) (by omega)).mono ?_
  rintro e w5 ⟨r1, rfl, hr0, hr1, hrw5, hbw5⟩
  obtain ⟨wz6, hs7, hz_wz6, hy_wz6, hc_wz6⟩ := hs1.cut hbw5 (by intro k hk; simp only [List.mem_singleton] at hk; omega)
  have hz_w5 : w.heap.size + 1 ≤ w5.heap.size := by have h9 := hbw5.size; (try simp at h9); omega
  have HSR_8 := Lib.hid hrw5
  clear HSR_3
  have HBT_9 := Lib.hid (HBT.out.trans hc_wz6)
  clear HBT
  have HTF_10 := Lib.hid (Ip.butL HTF_4.out hbw5 (by intro k hk; simp only [List.mem_singleton] at hk; (try simp only); omega))
  clear HTF_4
  have tc1_11 := cell_but hbw5 tc1_2 (by simp only [List.mem_singleton]; omega)
  clear tc1_2
  clear hrw5 hc_wz6
  clear k0_0 k0_1
  have k0_0 := hs7.cellAt 0 rfl 0 rfl
  have k0_1 := hs7.cellAt 0 rfl 1 rfl
  obtain ⟨U, hU⟩ : ∃ U : Nat, 1 + r1 = (U : Int) := ⟨(1 + r1).toNat, by omega⟩
  have hw9 : IntKind.i64.wrap (1 + r1) = (U : Int) := by rw [hU]; exact i64_in _ (by omega)
  have hUm : 1 ≤ U ∧ (U : Int) ≤ most := by have := hr1 hm.1; omega
  have hs12 := hs7.alloc #[.int .i64 U, .slice none 0 0] 29 (n := w5.heap.size) (by simp)
  have tc1_13 := cellL (belowA _ (.cells #[.int .i64 U, .slice none 0 0] 29)) tc1_11
  clear tc1_11
  have HSR_14 := Lib.hid (Src.mono HSR_8.out (belowA _ (.cells #[.int .i64 U, .slice none 0 0] 29)))
  clear HSR_8
  have HTF_15 := Lib.hid (Ip.mono HTF_10.out (belowA _ (.cells #[.int .i64 U, .slice none 0 0] 29)))
  clear HTF_10
  clear k0_0 k0_1
  have k0_0 := hs12.cellAt 0 rfl 0 rfl
  have k0_1 := hs12.cellAt 0 rfl 1 rfl
  have k1_0 := hs12.cellAt 1 rfl 0 rfl
  have k1_1 := hs12.cellAt 1 rfl 1 rfl
  go_wp2_with fail
  refine (pick_c 7 L B b (k + 1) _ HSR_14.out (by omega) (by omega) (by omega)).mono ?_
  rintro e w16 ⟨r2, rfl, hr2, hr3, hrw16, hbw16⟩
  obtain ⟨wz17, hs18, hz_wz17, hy_wz17, hc_wz17⟩ := hs12.cut hbw16 (by intro k hk; simp only [List.mem_singleton] at hk; omega)
  have hz_w16 : w5.heap.size + 1 ≤ w16.heap.size := by have h9 := hbw16.size; (try simp at h9); omega
  have HSR_19 := Lib.hid hrw16
  clear HSR_14
  have HBT_20 := Lib.hid (HBT_9.out.trans hc_wz17)
  clear HBT_9
  have HTF_21 := Lib.hid (Ip.butL HTF_15.out hbw16 (by intro k hk; simp only [List.mem_singleton] at hk; (try simp only); omega))
  clear HTF_15
  have tc1_22 := cell_but hbw16 tc1_13 (by simp only [List.mem_singleton]; omega)
  clear tc1_13
  clear hrw16 hc_wz17
  clear k0_0 k0_1 k1_0 k1_1
  have k0_0 := hs18.cellAt 0 rfl 0 rfl
  have k0_1 := hs18.cellAt 0 rfl 1 rfl
  have k1_0 := hs18.cellAt 1 rfl 0 rfl
  have k1_1 := hs18.cellAt 1 rfl 1 rfl
  obtain ⟨K, rfl⟩ : ∃ K : Nat, r2 = K := ⟨r2.toNat, by omega⟩
  go_wp2_with fail
  have hzz : w.heap.size + 1 ≤ w5.heap.size := by omega
  have HST := Lib.hid hs18
  have HSR9 := Lib.hid HSR_19.out
  have HBT9 := Lib.hid HBT_20.out
  have HTF9 := Lib.hid HTF_21.out
  have HTC9 := Lib.hid tc1_22
  obtain ⟨OA, hOA⟩ : ∃ z, z = w5.heap.size := ⟨_, rfl⟩
  rw [← hOA] at HST hzz ⊢
  clear hOA
  clear hw9
  go_loopw [8] (fun i wl => ∃ (m n : Nat) (wz : World) (a : Option Addr) (c : Nat) (l : List OpT), m + n = K ∧ i = .int .i64 n ∧ Hid (l.length = m ∧ ∀ r, r ∈ l → conOk (size, rs) U r = true) ∧ Hid (w.heap.size ≤ wz.heap.size ∧ But [b] w wz) ∧ Hid (St wz (OA + 1) wl [(w.heap.size, #[.int .i64 0, .slice none 0 0], 29), (OA, #[.int .i64 U, .slice a m c], 29)]) ∧ Hid (AccP (fun z => OA + 1 ≤ z ∧ z < wl.heap.size) 128 wl (.slice a m c) l) ∧ Hid (Src L B wl b (k + 2 + 10 * m)) ∧ Hid (Ip (fun z => lo ≤ z ∧ z < w.heap.size) wl [.int .i64 size, .slice at0 rs.length ct0] ((size, rs) : Tmpl)) ∧ Hid (wl.cell? ⟨tb, 1, none⟩ = some (.slice at0 rs.length ct0))) (fun i _ => (intOf i).toNat)
  case atStart => exact ⟨0, K, wz17, none, 0, [], by omega, rfl, ⟨rfl, fun e he => by cases he⟩, ⟨by omega, HBT9.out⟩, HST.out, AccP.nil _ _ _, HSR9.out, HTF9.out, HTC9.out⟩
  case round =>
    clear HST HSR9 HBT9 HTF9 HTC9
    obtain ⟨m, n, wz, a, c, l, hmn, rfl, hl, hwz, hst, hac, hsr, htf, htc⟩ := hrel
    have HAC := hac
    have HSR := hsr
    have HTF := htf
    have tc1 := htc.out
    have hwz1 := hwz.out.1
    have HBT := Lib.hid hwz.out.2
    have hs0 := hst.out
    have hszr := hst.out.hi
    have hlo0 := hst.out.lo
    have HLN := Lib.hid hl.out.1
    clear hac hsr htf htc
    have k0_0 := hs0.cellAt 0 rfl 0 rfl
    have k0_1 := hs0.cellAt 0 rfl 1 rfl
    have k1_0 := hs0.cellAt 1 rfl 0 rfl
    have k1_1 := hs0.cellAt 1 rfl 1 rfl
    by_cases hlt : 0 < n
    · have hltI : (0 : Int) < n := by omega
      by_cases hrs : 0 < rs.length
      · have hrsI : (0 : Int) < rs.length := by omega
        have hdn : IntKind.i64.wrap ((n : Int) - 1) = ((n - 1 : Nat) : Int) := by rw [i64_in _ (by omega)]; omega
        go_wp2_with fail
        refine (pickG_c rs.length L B b (k + 2 + 10 * m) _ HSR.out (by omega) (by omega)).mono ?_
        rintro e w23 ⟨r3, rfl, hr4, hr5, hrw23, hbw23⟩
        obtain ⟨wz24, hs25, hz_wz24, hy_wz24, hc_wz24⟩ := hs0.cut hbw23 (by intro k hk; simp only [List.mem_singleton] at hk; omega)
        have hz_w23 : wr.heap.size ≤ w23.heap.size := by have h9 := hbw23.size; (try simp at h9); omega
        have HAC_26 := Lib.hid (AccP.butL HAC.out hbw23 (by intro k hk; simp only [List.mem_singleton] at hk; omega))
        clear HAC
        have HSR_27 := Lib.hid hrw23
        clear HSR
        have HBT_28 := Lib.hid (HBT.out.trans hc_wz24)
        clear HBT
        have HTF_29 := Lib.hid (Ip.butL HTF.out hbw23 (by intro k hk; simp only [List.mem_singleton] at hk; (try simp only); omega))
        clear HTF
        have tc1_30 := cell_but hbw23 tc1 (by simp only [List.mem_singleton]; omega)
        clear tc1
        clear hrw23 hc_wz24
        clear k0_0 k0_1 k1_0 k1_1
        have k0_0 := hs25.cellAt 0 rfl 0 rfl
        have k0_1 := hs25.cellAt 0 rfl 1 rfl
        have k1_0 := hs25.cellAt 1 rfl 0 rfl
        have k1_1 := hs25.cellAt 1 rfl 1 rfl
        have hr6 := hr5 (by omega)
        obtain ⟨j, rfl⟩ : ∃ j : Nat, r3 = j := ⟨r3.toNat, by omega⟩
        have hj : j < rs.length := by omega
        have hs31 := hs25.alloc #[.int .i64 j, .slice none 0 0] 128 (n := w23.heap.size) (by simp)
        have tc1_32 := cellL (belowA _ (.cells #[.int .i64 j, .slice none 0 0] 128)) tc1_30
        clear tc1_30
        have HAC_33 := Lib.hid (AccP.mono HAC_26.out (belowA _ (.cells #[.int .i64 j, .slice none 0 0] 128)))
        clear HAC_26
        have HSR_34 := Lib.hid (Src.mono HSR_27.out (belowA _ (.cells #[.int .i64 j, .slice none 0 0] 128)))
        clear HSR_27
        have HTF_35 := Lib.hid (Ip.mono HTF_29.out (belowA _ (.cells #[.int .i64 j, .slice none 0 0] 128)))
        clear HTF_29
        clear k0_0 k0_1 k1_0 k1_1
        have k0_0 := hs31.cellAt 0 rfl 0 rfl
        have k0_1 := hs31.cellAt 0 rfl 1 rfl
        have k1_0 := hs31.cellAt 1 rfl 0 rfl
        have k1_1 := hs31.cellAt 1 rfl 1 rfl
        have k2_0 := hs31.cellAt 2 rfl 0 rfl
        have k2_1 := hs31.cellAt 2 rfl 1 rfl
        have hrd := Ip.rd HTF_35.out
        have zt := rd_cons rfl hrd
        obtain ⟨at1, ct1, e1, hsl⟩ := rd_list zt.2
        simp only [Value.slice.injEq] at e1
        obtain ⟨rfl, -, rfl⟩ := e1
        obtain ⟨bR, oR, u0, u1, rfl, q0, q1, hy⟩ := rdSl_two rfl hsl j hj
        have hy0 := rd_cons rfl hy
        obtain ⟨rfl, _⟩ := rd_i1 hy0.1
        have hrok := HRL.out.2.2 rs[j] (List.getElem_mem hj)
        have har := (relOk_get hrok).2.1
        obtain ⟨AR, hAR⟩ : ∃ AR : Nat, rs[j].1 = (AR : Int) := ⟨rs[j].1.toNat, by omega⟩
        have HAR := Lib.hid (show ((AR : Nat) : Int) = (rs.getD j (0, [])).1 by rw [← hAR]; simp [List.getD, hj])
        have hAR4 : AR ≤ 4 := by omega
        rw [hAR] at q0
        have Q0 := q0
        clear hrd zt hsl hy hy0 hrok har hAR q0 q1
        obtain ⟨CA, hCA⟩ : ∃ z, z = w23.heap.size := ⟨_, rfl⟩
        have hCA2 : OA + 1 ≤ CA := by omega
        go_upto_region 6 with fail
        refine wp_region_noPanic (wp_region_tree4 (fun w' => w'.cell? ⟨w.heap.size, 0, none⟩ = some (.int .i64 0) ∧ w'.cell? ⟨w.heap.size, 1, none⟩ = some (.slice none 0 0) ∧ w'.cell? ⟨OA, 0, none⟩ = some (.int .i64 U) ∧ w'.cell? ⟨OA, 1, none⟩ = some (.slice a m c) ∧ w'.cell? ⟨w23.heap.size, 0, none⟩ = some (.int .i64 j) ∧ w'.cell? ⟨w23.heap.size, 1, none⟩ = some (.slice none 0 0) ∧ w'.cell? ⟨tb, 1, none⟩ = some (.slice (some ⟨bR, oR, none⟩) rs.length ct0) ∧ w'.cell? ⟨bR, oR + j * 2, none⟩ = some (.int .i64 AR)) (.float 0 (.float 1 (.float 2 (.float 3 (.float 4 (.float 5 (.float 6 (.float 7 (.float 8 (.float 9 .nil)))))))))) (by kernel_rfl) (by kernel_rfl) (by kernel_rfl) rfl ?_ (fun _ _ _ _ _ h => h) ?_)
        · exact ⟨(hs31.drew).cellAt 0 rfl 0 rfl, (hs31.drew).cellAt 0 rfl 1 rfl, (hs31.drew).cellAt 1 rfl 0 rfl, (hs31.drew).cellAt 1 rfl 1 rfl, (hs31.drew).cellAt 2 rfl 0 rfl, (hs31.drew).cellAt 2 rfl 1 rfl, cellL (belowD _) tc1_32, cellL (belowD _) Q0⟩
        have hs36 := hs31.drew
        have tc1_37 := cellL (belowD _) tc1_32
        clear tc1_32
        have Q0_38 := cellL (belowD _) Q0
        clear Q0
        have HAC_39 := Lib.hid (AccP.mono HAC_33.out (belowD _))
        clear HAC_33
        have HSR_40 := Lib.hid (Src.mono HSR_34.out (belowD _))
        clear HSR_34
        have HTF_41 := Lib.hid (Ip.mono HTF_35.out (belowD _))
        clear HTF_35
        clear k0_0 k0_1 k1_0 k1_1 k2_0 k2_1
        have hz_wd42 : w23.heap.size + 1 ≤ ((w23.alloc (.cells #[.int .i64 j, .slice none 0 0] 128)).drew).heap.size := by simp
        generalize hgen_wd42 : (w23.alloc (.cells #[.int .i64 j, .slice none 0 0] 128)).drew = wd42 at *
        have HG_wd42 := Lib.hid hgen_wd42
        clear hgen_wd42
        (repeat (first | (apply t4_skip rfl (by rfl); try simp only [Act.put, List.setIfInBounds_toArray, List.set_cons_zero, List.set_cons_succ]) | (apply t4_float rfl (by rfl); (· (intro w' hS; go_simp <;> with_reducible rfl)); (try simp only [Act.put, List.setIfInBounds_toArray, List.set_cons_zero, List.set_cons_succ]))))
        have k0_0 := hs36.cellAt 0 rfl 0 rfl
        have k0_1 := hs36.cellAt 0 rfl 1 rfl
        have k1_0 := hs36.cellAt 1 rfl 0 rfl
        have k1_1 := hs36.cellAt 1 rfl 1 rfl
        have k2_0 := hs36.cellAt 2 rfl 0 rfl
        have k2_1 := hs36.cellAt 2 rfl 1 rfl
        refine t4_nil (NoPanic.normal ?_)
        go_wp2_with fail
        have HST := Lib.hid hs36
        have HSR9 := Lib.hid HSR_40.out
        have HBT9 := Lib.hid HBT_28.out
        have HTF9 := Lib.hid HTF_41.out
        have HTC9 := Lib.hid tc1_37
        have HAC9 := Lib.hid HAC_39.out
        have hzC : wr.heap.size ≤ CA := by omega
        obtain ⟨X, hX⟩ : ∃ X, X = wr.heap.size := ⟨_, rfl⟩
        rw [← hX] at hzC
        rw [← hCA] at HST ⊢
        clear hCA
        go_loopw [10] (fun i wl => ∃ (p q : Nat) (wz : World) (s : Option Addr) (cs : Nat) (sc : List Int), p + q = AR ∧ i = .int .i64 q ∧ Hid (sc.length = p ∧ ∀ x, x ∈ sc → 0 ≤ x ∧ x < (U : Int)) ∧ Hid ((w.heap.size ≤ wz.heap.size ∧ wz.heap.size ≤ OA + 1) ∧ But [b] w wz) ∧ Hid (St wz (CA + 1) wl [(w.heap.size, #[.int .i64 0, .slice none 0 0], 29), (OA, #[.int .i64 U, .slice a m c], 29), (CA, #[.int .i64 j, .slice s p cs], 128)]) ∧ Hid (AccP (fun z => OA + 1 ≤ z ∧ z < X) 128 wl (.slice a m c) l) ∧ Hid (AccP (fun z => CA + 1 ≤ z ∧ z < wl.heap.size) 2 wl (.slice s p cs) sc) ∧ Hid (Src L B wl b (k + 2 + 10 * m + 1 + p)) ∧ Hid (Ip (fun z => lo ≤ z ∧ z < w.heap.size) wl [.int .i64 size, .slice (some ⟨bR, oR, none⟩) rs.length ct0] ((size, rs) : Tmpl)) ∧ Hid (wl.cell? ⟨tb, 1, none⟩ = some (.slice (some ⟨bR, oR, none⟩) rs.length ct0))) (fun i _ => (intOf i).toNat)
        case atStart => exact ⟨0, AR, wz24, none, 0, [], by omega, rfl, ⟨rfl, fun e he => by cases he⟩, ⟨⟨by omega, by omega⟩, HBT9.out⟩, HST.out, HAC9.out.wk (fun z hz => ⟨hz.1, by omega⟩), AccP.nil _ _ _, HSR9.out, HTF9.out, HTC9.out⟩
        case round =>
          clear HST HSR9 HBT9 HTF9 HTC9 HAC9
          have hOX : OA + 1 ≤ X := by omega
          clear hX
          obtain ⟨p, q, wz2, s, cs, sc, hpq, rfl, hsc, hwz2, hst2, hac2, hin, hsr2, htf2, htc2⟩ := hrel
          have HAC := hac2
          have HIN := hin
          have HSR := hsr2
          have HTF := htf2
          have tc1 := htc2.out
          have hwz3 := hwz2.out.1.1
          have hwz4 := hwz2.out.1.2
          have HBT := Lib.hid hwz2.out.2
          have hs2 := hst2.out
          have hszr2 := hst2.out.hi
          have hlo2 := hst2.out.lo
          have HSN := Lib.hid hsc.out.1
          clear hac2 hin hsr2 htf2 htc2 hs0 hst
          have k0_0 := hs2.cellAt 0 rfl 0 rfl
          have k0_1 := hs2.cellAt 0 rfl 1 rfl
          have k1_0 := hs2.cellAt 1 rfl 0 rfl
          have k1_1 := hs2.cellAt 1 rfl 1 rfl
          have k2_0 := hs2.cellAt 2 rfl 0 rfl
          have k2_1 := hs2.cellAt 2 rfl 1 rfl
          by_cases hlq : 0 < q
          · have hlqI : (0 : Int) < q := by omega
            have hdq : IntKind.i64.wrap ((q : Int) - 1) = ((q - 1 : Nat) : Int) := by rw [i64_in _ (by omega)]; omega
            go_upto_region 9 with fail
            refine wp_region_noPanic (wp_region_tree4 (fun w' => w'.cell? ⟨w.heap.size, 0, none⟩ = some (.int .i64 0) ∧ w'.cell? ⟨w.heap.size, 1, none⟩ = some (.slice none 0 0) ∧ w'.cell? ⟨OA, 0, none⟩ = some (.int .i64 U) ∧ w'.cell? ⟨OA, 1, none⟩ = some (.slice a m c) ∧ w'.cell? ⟨CA, 0, none⟩ = some (.int .i64 j) ∧ w'.cell? ⟨CA, 1, none⟩ = some (.slice s p cs) ∧ w'.cell? ⟨tb, 1, none⟩ = some (.slice (some ⟨bR, oR, none⟩) rs.length ct0)) (.float 0 (.float 1 (.float 2 (.float 3 (.float 4 (.hard 5 (.hard 6 (.hard 7 (.float 8 (.last 9 .nil)))))))))) (by kernel_rfl) (by kernel_rfl) (by kernel_rfl) rfl ?_ (fun _ _ _ _ _ h => h) ?_)
            · exact ⟨(hs2.drew).cellAt 0 rfl 0 rfl, (hs2.drew).cellAt 0 rfl 1 rfl, (hs2.drew).cellAt 1 rfl 0 rfl, (hs2.drew).cellAt 1 rfl 1 rfl, (hs2.drew).cellAt 2 rfl 0 rfl, (hs2.drew).cellAt 2 rfl 1 rfl, cellL (belowD _) tc1⟩
            have hs43 := hs2.drew
            have tc1_44 := cellL (belowD _) tc1
            clear tc1
            have HAC_45 := Lib.hid (AccP.mono HAC.out (belowD _))
            clear HAC
            have HIN_46 := Lib.hid (AccP.mono HIN.out (belowD _))
            clear HIN
            have HSR_47 := Lib.hid (Src.mono HSR.out (belowD _))
            clear HSR
            have HTF_48 := Lib.hid (Ip.mono HTF.out (belowD _))
            clear HTF
            clear k0_0 k0_1 k1_0 k1_1 k2_0 k2_1
            have hz_wd49 : wr.heap.size ≤ (wr.drew).heap.size := by simp
            generalize hgen_wd49 : wr.drew = wd49 at *
            have HG_wd49 := Lib.hid hgen_wd49
            clear hgen_wd49
            (repeat (first | (apply t4_skip rfl (by rfl); try simp only [Act.put, List.setIfInBounds_toArray, List.set_cons_zero, List.set_cons_succ]) | (apply t4_float rfl (by rfl); (· (intro w' hS; go_simp <;> with_reducible rfl)); (try simp only [Act.put, List.setIfInBounds_toArray, List.set_cons_zero, List.set_cons_succ]))))
            refine t4_hard rfl (by rfl) (fun K hK => ?_)
            go_wp2_with (go_at_call 34; refine (pickG_c U L B b (k + 2 + 10 * m + 1 + p) _ HSR_47.out (by omega) (by omega)).mono ?_; rintro e w50 ⟨r9, rfl, h90, h91, hrw50, hbw50⟩)
            obtain ⟨wz51, hs52, hz_wz51, hy_wz51, hc_wz51⟩ := hs43.cut hbw50 (by intro k hk; simp only [List.mem_singleton] at hk; omega)
            have hz_w50 : wd49.heap.size ≤ w50.heap.size := by have h9 := hbw50.size; (try simp at h9); omega
            have HAC_53 := Lib.hid (AccP.butL HAC_45.out hbw50 (by intro k hk; simp only [List.mem_singleton] at hk; omega))
            clear HAC_45
            have HIN_54 := Lib.hid (AccP.butL HIN_46.out hbw50 (by intro k hk; simp only [List.mem_singleton] at hk; omega))
            clear HIN_46
            have HSR_55 := Lib.hid hrw50
            clear HSR_47
            have HBT_56 := Lib.hid (HBT.out.trans hc_wz51)
            clear HBT
            have HTF_57 := Lib.hid (Ip.butL HTF_48.out hbw50 (by intro k hk; simp only [List.mem_singleton] at hk; (try simp only); omega))
            clear HTF_48
            have tc1_58 := cell_but hbw50 tc1_44 (by simp only [List.mem_singleton]; omega)
            clear tc1_44
            clear hrw50 hc_wz51
            have h92 := h91 (by omega)
            have HI9 := Lib.hid (show I64 r9 from ⟨by omega, by omega⟩)
            refine ⟨⟨hs52.cellAt 0 rfl 0 rfl, hs52.cellAt 0 rfl 1 rfl, hs52.cellAt 1 rfl 0 rfl, hs52.cellAt 1 rfl 1 rfl, hs52.cellAt 2 rfl 0 rfl, hs52.cellAt 2 rfl 1 rfl, tc1_58⟩, ?_⟩
            (repeat (first | (apply t4_skip rfl (by rfl); try simp only [Act.put, List.setIfInBounds_toArray, List.set_cons_zero, List.set_cons_succ]) | (apply t4_float rfl (by rfl); (· (intro w' hS; go_simp <;> with_reducible rfl)); (try simp only [Act.put, List.setIfInBounds_toArray, List.set_cons_zero, List.set_cons_succ]))))
            refine t4_hard rfl (by rfl) (fun K hK => ?_)
            go_wp2_with fail
            have hs59 := hs52.alloc #[.int .i64 r9] 2 (n := w50.heap.size) (by simp)
            have tc1_60 := cellL (belowA _ (.cells #[.int .i64 r9] 2)) tc1_58
            clear tc1_58
            have HAC_61 := Lib.hid (AccP.mono HAC_53.out (belowA _ (.cells #[.int .i64 r9] 2)))
            clear HAC_53
            have HIN_62 := Lib.hid (AccP.mono HIN_54.out (belowA _ (.cells #[.int .i64 r9] 2)))
            clear HIN_54
            have HSR_63 := Lib.hid (Src.mono HSR_55.out (belowA _ (.cells #[.int .i64 r9] 2)))
            clear HSR_55
            have HTF_64 := Lib.hid (Ip.mono HTF_57.out (belowA _ (.cells #[.int .i64 r9] 2)))
            clear HTF_57
            refine ⟨⟨hs59.cellAt 0 rfl 0 rfl, hs59.cellAt 0 rfl 1 rfl, hs59.cellAt 1 rfl 0 rfl, hs59.cellAt 1 rfl 1 rfl, hs59.cellAt 2 rfl 0 rfl, hs59.cellAt 2 rfl 1 rfl, tc1_60⟩, ?_⟩
            (repeat (first | (apply t4_skip rfl (by rfl); try simp only [Act.put, List.setIfInBounds_toArray, List.set_cons_zero, List.set_cons_succ]) | (apply t4_float rfl (by rfl); (· (intro w' hS; go_simp <;> with_reducible rfl)); (try simp only [Act.put, List.setIfInBounds_toArray, List.set_cons_zero, List.set_cons_succ]))))
            refine t4_hard rfl (by rfl) (fun K hK => ?_)
            have hsW := hs59.hi
            have hlnw := HSN.out
            refine wp_append_accP _ _ _ _ rfl E_ints rfl HIN_62.out (ip_int1 (C := fun _ => False) HI9.out) (fun z h1 h2 => h2) ⟨w50.heap.size, 0, none⟩ 1 rfl (news1 (hs59.cellAt 3 rfl 0 rfl)) (by omega) ?_
            simp only [HSN.out]
            intro a8 c8 w8 hA8 hB8
            have hz8 := hB8.size
            have hs8 := hs59.butP hB8 (fun z hz => by have := hz.1; omega) (fun x hx hA => by have h1 := hA.1; have h2 := hA.2; simp at hx; rcases hx with rfl | rfl | rfl | rfl <;> (try simp only at h1 h2) <;> omega)
            have HIN8 := Lib.hid (AccP.wk hA8.tight (C := fun z => CA + 1 ≤ z ∧ z < w8.heap.size) (fun z hz => ⟨by
              rcases hz.1 with h | h | h
              · exact h.1
              · exact h.elim
              · rw [h]; (try simp); omega, hz.2⟩))
            clear hA8
            clear HIN_62
            have tc1_65 := cellB hB8 tc1_60 (by intro hA9; (try simp only at hA9); omega)
            clear tc1_60
            have HAC_66 := Lib.hid (AccP.butP HAC_61.out hB8 (fun z h1 h2 => by (try simp only at h1 h2); omega))
            clear HAC_61
            have HSR_67 := Lib.hid (Src.below (B := B) HSR_63.out (hB8.below (fun z hz => by (try simp only at hz); omega) (by (try simp); omega)))
            clear HSR_63
            have HTF_68 := Lib.hid (Ip.butP HTF_64.out hB8 (fun z h1 h2 => by (try simp only at h1 h2); omega))
            clear HTF_64
            refine hK _ _ ⟨⟨hs8.cellAt 0 rfl 0 rfl, hs8.cellAt 0 rfl 1 rfl, hs8.cellAt 1 rfl 0 rfl, hs8.cellAt 1 rfl 1 rfl, hs8.cellAt 2 rfl 0 rfl, hs8.cellAt 2 rfl 1 rfl, tc1_65⟩, ?_⟩
            (repeat (first | (apply t4_skip rfl (by rfl); try simp only [Act.put, List.setIfInBounds_toArray, List.set_cons_zero, List.set_cons_succ]) | (apply t4_float rfl (by rfl); (· (intro w' hS; go_simp <;> with_reducible rfl)); (try simp only [Act.put, List.setIfInBounds_toArray, List.set_cons_zero, List.set_cons_succ]))))
            refine t4_last rfl (by rfl) (fun K hK => ?_)
            have k0_0 := hs8.cellAt 0 rfl 0 rfl
            have k0_1 := hs8.cellAt 0 rfl 1 rfl
            have k1_0 := hs8.cellAt 1 rfl 0 rfl
            have k1_1 := hs8.cellAt 1 rfl 1 rfl
            have k2_0 := hs8.cellAt 2 rfl 0 rfl
            have k2_1 := hs8.cellAt 2 rfl 1 rfl
            have k3_0 := hs8.cellAt 3 rfl 0 rfl
            have hs69 := hs8.low (B' := CA + 1) (bx' := [(w.heap.size, #[.int .i64 0, .slice none 0 0], 29), (OA, #[.int .i64 U, .slice a m c], 29), (CA, #[.int .i64 j, .slice s p cs], 128)]) (by omega) (by (try simp) <;> omega) (fun x hx => by simp only [List.mem_cons, List.not_mem_nil, or_false] at hx; rcases hx with rfl | rfl | rfl <;> (refine ⟨?_, ?_⟩ <;> (try simp) <;> (try omega)))
            have f2_0 := hs69.freeAt 2 rfl 0
            have f2_1 := hs69.freeAt 2 rfl 1
            go_wp2_with fail
            refine t4_nil (NoPanic.normal ?_)
            have HINS := Lib.hid (AccP.wk (AccP.setCell HIN8.out (b := CA) (o := 1) (.slice a8 (p + 1) c8) (by simp <;> omega)) (C := fun z => CA + 1 ≤ z ∧ z < (w8.setCell ⟨CA, 1, none⟩ (.slice a8 (p + 1) c8)).heap.size) (fun z hz => by simpa [World.setCell] using hz))
            have hs70 := hs69.set (p := [_, _]) (by simp <;> omega) 1 (.slice a8 (p + 1) c8)
            have tc1_71 := (cell_put (b' := CA) (o' := 1) (u := .slice a8 (p + 1) c8) tc1_65 (by (try simp) <;> omega))
            clear tc1_65
            have HAC_72 := Lib.hid (AccP.setCell (b := CA) (o := 1) HAC_66.out (.slice a8 (p + 1) c8) (by intro hA9; (try simp only at hA9); omega))
            clear HAC_66
            have HSR_73 := Lib.hid (Src.below (B := B) HSR_67.out ((Below.refl B _).setCell (p := ⟨CA, 1, none⟩) (by (try simp) <;> omega) (.slice a8 (p + 1) c8)))
            clear HSR_67
            have HTF_74 := Lib.hid (Ip.setCell (b := CA) (o := 1) HTF_68.out (.slice a8 (p + 1) c8) (by intro hA9; (try simp only at hA9); omega))
            clear HTF_68
            clear k0_0 k0_1 k1_0 k1_1 k2_0 k2_1 k3_0
            have hz_wE : w8.heap.size ≤ ((w8.setCell ⟨CA, 1, none⟩ (.slice a8 (p + 1) c8))).heap.size := by simp [World.setCell]
            generalize hgen_wE : (w8.setCell ⟨CA, 1, none⟩ (.slice a8 (p + 1) c8)) = wE at *
            clear hgen_wE
            have k0_0 := hs70.cellAt 0 rfl 0 rfl
            have k0_1 := hs70.cellAt 0 rfl 1 rfl
            have k1_0 := hs70.cellAt 1 rfl 0 rfl
            have k1_1 := hs70.cellAt 1 rfl 1 rfl
            have k2_0 := hs70.cellAt 2 rfl 0 rfl
            have k2_1 := hs70.cellAt 2 rfl 1 rfl
            go_wp2_with fail
            go_roundw
            case rel =>
              refine ⟨p + 1, q - 1, wz51, a8, c8, sc ++ [r9], by omega, rfl, ⟨by simp [HSN.out], fun x hx => ?_⟩, ⟨⟨by omega, by omega⟩, HBT_56.out⟩, hs70, HAC_72.out, HINS.out, HSR_73.out.more (by omega), HTF_74.out, tc1_71⟩
              rcases List.mem_append.1 hx with hx | hx
              · exact hsc.out.2 x hx
              · simp only [List.mem_singleton] at hx; subst hx; exact ⟨h90, h92⟩
            case measure => simp [intOf]; omega
          · obtain rfl : q = 0 := by omega
            obtain rfl : p = AR := by omega
            have hnq : ¬ (0 : Int) < (0 : Int) := by omega
            have HIR := Lib.hid (ip_icD (k := (j : Int)) ⟨by omega, by omega⟩ HIN.out.ip)
            have hlnw := HLN.out
            have hsnw := HSN.out
            have q9 := (hs2.cellAt 1 rfl 1 rfl)
            have HCOK := Lib.hid (conOk_of (size := size) hj (by rw [hsnw]; exact HAR.out) hsc.out.2)
            have hb9 := belowA wr (.cells #[.int .i64 j, .slice s p cs] 128)
            have HS9 := Lib.hid (hs2.step hb9)
            have HR9 := Lib.hid (HSR.out.below (hb9.mono (by omega)))
            have HTF9 := Lib.hid (HTF.out.mono hb9)
            have HTC9 := Lib.hid (cellL hb9 tc1)
            have HSZ9 := Lib.hid (show (wr.alloc (.cells #[.int .i64 j, .slice s p cs] 128)).heap.size = wr.heap.size + 1 by simp)
            go_wp2_with (at_builtin; refine wpList_append_accP _ rfl _ _ _ rfl E_cons rfl (AccP.mono HAC.out (belowA _ _)) (Ip.mono HIR.out (belowA _ _)) (fun z h1 h2 => by (try simp only at h1 h2); omega) ⟨wr.heap.size, 0, none⟩ 1 rfl (news2 (cell_at_block (heap_alloc_new _ _)) (cell_at_block (heap_alloc_new _ _))) (by omega) ?_; simp only [HLN.out]; intro a8 c8 w8 hA8 hB8; have hs8 := HS9.out.butP hB8 (fun z hz => by have := hz.1; omega) (fun x hx hA => by have h1 := hA.1; have h2 := hA.2; simp at hx; rcases hx with rfl | rfl | rfl <;> (try simp only at h1 h2) <;> omega); have q2 := hs8.cellAt 1 rfl 1 rfl; have f2 := hs8.freeAt 1 rfl 1)
            have hz8 := hB8.size
            have hz9 : wr.heap.size < w8.heap.size := by have := HSZ9.out; omega
            have hs7 := hs8.low (B' := OA + 1) (bx' := [(w.heap.size, #[.int .i64 0, .slice none 0 0], 29), (OA, #[.int .i64 U, .slice a m c], 29)]) (by omega) (by omega) (fun x hx => ⟨by simp at hx ⊢; rcases hx with rfl | rfl <;> simp, by simp at hx; rcases hx with rfl | rfl <;> (try simp only) <;> omega⟩)
            have HQ8 := Lib.hid (hs7.set (p := [_]) (by simp <;> omega) 1 (.slice a8 (m + 1) c8))
            have HA9 := Lib.hid ((AccP.setCell (b := OA) (o := 1) hA8.tight (.slice a8 (m + 1) c8) (by intro hA9; have h1 := hA9.1; (try simp at h1); omega)).wk (C := fun z => OA + 1 ≤ z ∧ z < w8.heap.size) (fun z hz => by
              have h2 := hz.2
              have h3 := HSZ9.out
              rcases hz.1 with h | h | h
              · (try simp only at h); omega
              · (try simp only at h); omega
              · rw [h] at h2 ⊢; omega))
            have HR8 := Lib.hid ((HR9.out.below (hB8.below (fun z hz => by have := hz.1; omega) (by have := HSZ9.out; omega))).below ((Below.refl B w8).setCell (p := ⟨OA, 1, none⟩) (by (try simp); omega) (.slice a8 (m + 1) c8)))
            have HTF8 := Lib.hid (Ip.setCell (b := OA) (o := 1) (HTF9.out.butP hB8 (fun z h1 h2 => by (try simp only at h1 h2); omega)) (.slice a8 (m + 1) c8) (by intro hA9; (try simp only at hA9); omega))
            have HTC8 := Lib.hid (cell_put (b' := OA) (o' := 1) (u := .slice a8 (m + 1) c8) (cellB hB8 HTC9.out (by intro hA9; (try simp only at hA9); omega)) (by (try simp) <;> omega))
            have HSZ := Lib.hid (show (w8.setCell ⟨OA, 1, none⟩ (.slice a8 (m + 1) c8)).heap.size = w8.heap.size by simp [World.setCell])
            go_wp2_with fail
            go_roundw
            case measure => simp [intOf]; omega
            refine ⟨m + 1, n - 1, wz2, a8, c8, l ++ [((j : Int), sc)], by omega, rfl, ⟨by simp [hlnw], fun e he => ?_⟩, ⟨by omega, HBT.out⟩, HQ8.out, ?_, HR8.out.more (by omega), HTF8.out, HTC8.out⟩
            · rcases List.mem_append.1 he with he | he
              · exact hl.out.2 e he
              · simp only [List.mem_singleton] at he; subst he; exact HCOK.out
            · exact HA9.out.wk (fun z hz => by rw [HSZ.out]; exact hz)
      · have hrsI : ¬ (0 : Int) < rs.length := by omega
        have f0_0 := hs0.freeAt 0 rfl 0
        have f0_1 := hs0.freeAt 0 rfl 1
        go_wp2_with fail
        have HFR := Lib.hid (HAC.out.ip.fresh (lo := w.heap.size) (fun k hk => by have := hk.1; omega))
        have hs9 := (hs0.set (p := []) (by simp <;> omega) 0 (.int .i64 U)).set (p := []) (by simp <;> omega) 1 (.slice a m c)
        have x0 := hs9.cellAt 0 rfl 0 rfl
        have x1 := hs9.cellAt 0 rfl 1 rfl
        have HSF := Lib.hid ((HSR.out.below ((Below.refl B _).setCell (p := ⟨w.heap.size, 0, none⟩) (by simp; omega) (.int .i64 U))).below ((Below.refl B _).setCell (p := ⟨w.heap.size, 1, none⟩) (by simp; omega) (.slice a m c)))
        have HAS := AccP.setCell (AccP.setCell HAC.out (b := w.heap.size) (o := 0) (.int .i64 U) (by simp; omega)) (b := w.heap.size) (o := 1) (.slice a m c) (by simp; omega)
        refine bodyPost_ret (v := .agg #[.int .i64 U, .slice a m c]) (by simp [results, Tryz.results73, go_sem, x0, x1]) rfl ⟨U, .slice a m c, rfl, l, ?_, instOk_of HOK.out (by omega) (by rw [HLN.out]; omega) hl.out.2, ⟨hUm.2, by rw [HLN.out]; omega⟩, HSF.out.more (by omega), HBT.out.trans (but_of hs9.bel)⟩
        exact fresh_icD ⟨by omega, by omega⟩ (HAS.ip.fresh (fun k hk => by have := hk.1; omega))
    · have hltI : ¬ (0 : Int) < n := by omega
      have f0_0 := hs0.freeAt 0 rfl 0
      have f0_1 := hs0.freeAt 0 rfl 1
      go_wp2_with fail
      have HFR := Lib.hid (HAC.out.ip.fresh (lo := w.heap.size) (fun k hk => by have := hk.1; omega))
      have hs9 := (hs0.set (p := []) (by simp <;> omega) 0 (.int .i64 U)).set (p := []) (by simp <;> omega) 1 (.slice a m c)
      have x0 := hs9.cellAt 0 rfl 0 rfl
      have x1 := hs9.cellAt 0 rfl 1 rfl
      have HSF := Lib.hid ((HSR.out.below ((Below.refl B _).setCell (p := ⟨w.heap.size, 0, none⟩) (by simp; omega) (.int .i64 U))).below ((Below.refl B _).setCell (p := ⟨w.heap.size, 1, none⟩) (by simp; omega) (.slice a m c)))
      have HAS := AccP.setCell (AccP.setCell HAC.out (b := w.heap.size) (o := 0) (.int .i64 U) (by simp; omega)) (b := w.heap.size) (o := 1) (.slice a m c) (by simp; omega)
      refine bodyPost_ret (v := .agg #[.int .i64 U, .slice a m c]) (by simp [results, Tryz.results73, go_sem, x0, x1]) rfl ⟨U, .slice a m c, rfl, l, ?_, instOk_of HOK.out (by omega) (by rw [HLN.out]; omega) hl.out.2, ⟨hUm.2, by rw [HLN.out]; omega⟩, HSF.out.more (by omega), HBT.out.trans (but_of hs9.bel)⟩
      exact fresh_icD ⟨by omega, by omega⟩ (HAS.ip.fresh (fun k hk => by have := hk.1; omega))

set_option maxRecDepth 100000 in
set_option maxHeartbeats 16000000 in
theorem l06Drawn_c (L B b k : Nat) (w : World) (h : Src L B w b k) (hB : B ≤ w.heap.size) (hk : k ≤ 500000000) :
    Calls Tryz.prog 26 #[.pointer (some ⟨b, 0, none⟩)] w fun e w' => ∃ (size : Int) (v : Value) (U : Nat) (v2 : Value), e = .returned (.tuple #[.agg #[.int .i64 size, v], .agg #[.int .i64 U, v2]]) ∧ ∃ (rs : List RelT) (l : List OpT), Fresh w.heap.size w' [.int .i64 size, v] ((size, rs) : Tmpl) ∧ Fresh w.heap.size w' [.int .i64 U, v2] (((U : Int), l) : Inst) ∧ instOk (size, rs) ((U : Int), l) = true ∧ But [b] w w' := by
  have hbw := h.lt
  have HSR := Lib.hid h
  have HBT := Lib.hid (But.refl [b] w)
  clear h
  have hs75 := (St.start w).alloc #[.int .i64 0, .slice none 0 0] 26 (n := w.heap.size) (by simp)
  have HSR_76 := Lib.hid (Src.mono HSR.out (belowA _ (.cells #[.int .i64 0, .slice none 0 0] 26)))
  clear HSR
  have k0_0 := hs75.cellAt 0 rfl 0 rfl
  have k0_1 := hs75.cellAt 0 rfl 1 rfl
  have hs77 := hs75.alloc #[.int .i64 0, .slice none 0 0] 29 (n := w.heap.size + 1) (by simp)
  have HSR_78 := Lib.hid (Src.mono HSR_76.out (belowA _ (.cells #[.int .i64 0, .slice none 0 0] 29)))
  clear HSR_76
  clear k0_0 k0_1
  have k0_0 := hs77.cellAt 0 rfl 0 rfl
  have k0_1 := hs77.cellAt 0 rfl 1 rfl
  have k1_0 := hs77.cellAt 1 rfl 0 rfl
  have k1_1 := hs77.cellAt 1 rfl 1 rfl
  go_enter Tryz.func26, Tryz.ntmps26
  go_wp2_with fail
  refine (l06Known_c L B b k _ HSR_78.out (by (try simp); omega) (by omega)).mono ?_
  rintro e w79 ⟨size, v, rfl, rs, fr9, ok9, hrw79, hbw79⟩
  obtain ⟨wz80, hs81, hz_wz80, hy_wz80, hc_wz80⟩ := hs77.cut hbw79 (by intro k hk; simp only [List.mem_singleton] at hk; omega)
  have hz_w79 : w.heap.size + 1 + 1 ≤ w79.heap.size := by have h9 := hbw79.size; (try simp at h9); omega
  have HSR_82 := Lib.hid hrw79
  clear HSR_78
  have HBT_83 := Lib.hid (HBT.out.trans hc_wz80)
  clear HBT
  clear hrw79 hc_wz80
  clear k0_0 k0_1 k1_0 k1_1
  have k0_0 := hs81.cellAt 0 rfl 0 rfl
  have k0_1 := hs81.cellAt 0 rfl 1 rfl
  have k1_0 := hs81.cellAt 1 rfl 0 rfl
  have k1_1 := hs81.cellAt 1 rfl 1 rfl
  have hf9 : Fresh _ _ [v] rs := fresh_snd rfl fr9
  obtain ⟨a9, c9, rfl, hsl9⟩ := rd_list hf9.rd
  have HFT := Lib.hid ((fr9.ip).wk (B := fun z => w.heap.size + 1 + 1 ≤ z ∧ z < w79.heap.size) (fun z hz => by (try simp at hz); omega))
  have HOK := Lib.hid ok9
  clear hf9 hsl9 fr9 ok9
  go_upto_region 2 with fail
  have hs84 := hs81.alloc #[.int .i64 size, .slice a9 rs.length c9] 26 (n := w79.heap.size) (by simp)
  have HSR_85 := Lib.hid (Src.mono HSR_82.out (belowA _ (.cells #[.int .i64 size, .slice a9 rs.length c9] 26)))
  clear HSR_82
  have HFT_86 := Lib.hid (Ip.mono HFT.out (belowA _ (.cells #[.int .i64 size, .slice a9 rs.length c9] 26)))
  clear HFT
  clear k0_0 k0_1 k1_0 k1_1
  have k0_0 := hs84.cellAt 0 rfl 0 rfl
  have k0_1 := hs84.cellAt 0 rfl 1 rfl
  have k1_0 := hs84.cellAt 1 rfl 0 rfl
  have k1_1 := hs84.cellAt 1 rfl 1 rfl
  have k2_0 := hs84.cellAt 2 rfl 0 rfl
  have k2_1 := hs84.cellAt 2 rfl 1 rfl
  have hz_wT : w79.heap.size + 1 ≤ ((w79.alloc (.cells #[.int .i64 size, .slice a9 rs.length c9] 26))).heap.size := by simp
  generalize hgen_wT : (w79.alloc (.cells #[.int .i64 size, .slice a9 rs.length c9] 26)) = wT at *
  clear hgen_wT
  refine wp_region_noPanic (wp_region_tree4 (fun w' => w'.cell? ⟨w.heap.size + 1, 0, none⟩ = some (.int .i64 0) ∧ w'.cell? ⟨w.heap.size + 1, 1, none⟩ = some (.slice none 0 0) ∧ w'.cell? ⟨w79.heap.size, 0, none⟩ = some (.int .i64 size) ∧ w'.cell? ⟨w79.heap.size, 1, none⟩ = some (.slice a9 rs.length c9)) (.float 0 (.float 1 (.hard 2 (.hard 3 (.last 4 .nil))))) (by kernel_rfl) (by kernel_rfl) (by kernel_rfl) rfl ?_ (fun _ _ _ _ _ h => h) ?_)
  · exact ⟨(hs84.drew).cellAt 1 rfl 0 rfl, (hs84.drew).cellAt 1 rfl 1 rfl, (hs84.drew).cellAt 2 rfl 0 rfl, (hs84.drew).cellAt 2 rfl 1 rfl⟩
  have hs87 := hs84.drew
  have HSR_88 := Lib.hid (Src.mono HSR_85.out (belowD _))
  clear HSR_85
  have HFT_89 := Lib.hid (Ip.mono HFT_86.out (belowD _))
  clear HFT_86
  clear k0_0 k0_1 k1_0 k1_1 k2_0 k2_1
  have hz_wd90 : wT.heap.size ≤ (wT.drew).heap.size := by simp
  generalize hgen_wd90 : wT.drew = wd90 at *
  have HG_wd90 := Lib.hid hgen_wd90
  clear hgen_wd90
  (repeat (first | (apply t4_skip rfl (by rfl); try simp only [Act.put, List.setIfInBounds_toArray, List.set_cons_zero, List.set_cons_succ]) | (apply t4_float rfl (by rfl); (· (intro w' hS; go_simp <;> with_reducible rfl)); (try simp only [Act.put, List.setIfInBounds_toArray, List.set_cons_zero, List.set_cons_succ]))))
  refine t4_hard rfl (by rfl) (fun K hK => ?_)
  go_wp2_with (go_at_call 73; refine (l05Drawn_c 5 (size, rs) _ _ w79.heap.size (w.heap.size + 1 + 1) L B b (k + 10001) _ HSR_88.out (by (try simp); omega) (by omega) (by omega) (HFT_89.out.fresh (fun z hz => by (try simp only at hz); omega)) (by omega) (by omega) (hs87.cellAt 2 rfl 1 rfl) HOK.out).mono ?_; rintro e w91 ⟨U, v2, rfl, l, fr9, ok9, hU9, hrw91, hbw91⟩)
  obtain ⟨wz92, hs93, hz_wz92, hy_wz92, hc_wz92⟩ := hs87.cut hbw91 (by intro k hk; simp only [List.mem_singleton] at hk; omega)
  have hz_w91 : wd90.heap.size ≤ w91.heap.size := by have h9 := hbw91.size; (try simp at h9); omega
  have HSR_94 := Lib.hid hrw91
  clear HSR_88
  have HBT_95 := Lib.hid (HBT_83.out.trans hc_wz92)
  clear HBT_83
  have HFT_96 := Lib.hid (Ip.butL HFT_89.out hbw91 (by intro k hk; simp only [List.mem_singleton] at hk; (try simp only); omega))
  clear HFT_89
  clear hrw91 hc_wz92
  have hf9 : Fresh _ _ [v2] l := fresh_snd rfl fr9
  obtain ⟨a8, c8, rfl, hsl9⟩ := rd_list hf9.rd
  have HFX := Lib.hid ((fr9.ip).wk (B := fun z => w.heap.size + 1 + 1 ≤ z ∧ z < w91.heap.size) (fun z hz => by (try simp at hz); omega))
  have HIK := Lib.hid ok9
  have hU10 : (U : Int) ≤ 5 := hU9.1
  clear hf9 hsl9 fr9 ok9 hU9
  refine ⟨⟨hs93.cellAt 1 rfl 0 rfl, hs93.cellAt 1 rfl 1 rfl, hs93.cellAt 2 rfl 0 rfl, hs93.cellAt 2 rfl 1 rfl⟩, ?_⟩
  (repeat (first | (apply t4_skip rfl (by rfl); try simp only [Act.put, List.setIfInBounds_toArray, List.set_cons_zero, List.set_cons_succ]) | (apply t4_float rfl (by rfl); (· (intro w' hS; go_simp <;> with_reducible rfl)); (try simp only [Act.put, List.setIfInBounds_toArray, List.set_cons_zero, List.set_cons_succ]))))
  refine t4_hard rfl (by rfl) (fun K hK => ?_)
  have k0_0 := hs93.cellAt 0 rfl 0 rfl
  have k0_1 := hs93.cellAt 0 rfl 1 rfl
  have k1_0 := hs93.cellAt 1 rfl 0 rfl
  have k1_1 := hs93.cellAt 1 rfl 1 rfl
  have k2_0 := hs93.cellAt 2 rfl 0 rfl
  have k2_1 := hs93.cellAt 2 rfl 1 rfl
  have f0_0 := hs93.freeAt 0 rfl 0
  have f0_1 := hs93.freeAt 0 rfl 1
  go_wp2_with fail
  have hs97 := hs93.set (p := []) (by simp <;> omega) 0 (.int .i64 size)
  have hs98 := hs97.set (p := []) (by simp <;> omega) 1 (.slice a9 rs.length c9)
  have HSR_99 := Lib.hid (Src.below (B := B) (Src.below (B := B) HSR_94.out ((Below.refl B _).setCell (p := ⟨w.heap.size, 0, none⟩) (by (try simp) <;> omega) (.int .i64 size))) ((Below.refl B _).setCell (p := ⟨w.heap.size, 1, none⟩) (by (try simp) <;> omega) (.slice a9 rs.length c9)))
  clear HSR_94
  have HFT_100 := Lib.hid (Ip.setCell (b := w.heap.size) (o := 1) (Ip.setCell (b := w.heap.size) (o := 0) HFT_96.out (.int .i64 size) (by intro hA9; (try simp only at hA9); omega)) (.slice a9 rs.length c9) (by intro hA9; (try simp only at hA9); omega))
  clear HFT_96
  have HFX_101 := Lib.hid (Ip.setCell (b := w.heap.size) (o := 1) (Ip.setCell (b := w.heap.size) (o := 0) HFX.out (.int .i64 size) (by intro hA9; (try simp only at hA9); omega)) (.slice a9 rs.length c9) (by intro hA9; (try simp only at hA9); omega))
  clear HFX
  clear k0_0 k0_1 k1_0 k1_1 k2_0 k2_1
  have hz_wP : w91.heap.size ≤ (((w91.setCell ⟨w.heap.size, 0, none⟩ (.int .i64 size)).setCell ⟨w.heap.size, 1, none⟩ (.slice a9 rs.length c9))).heap.size := by simp [World.setCell]
  generalize hgen_wP : ((w91.setCell ⟨w.heap.size, 0, none⟩ (.int .i64 size)).setCell ⟨w.heap.size, 1, none⟩ (.slice a9 rs.length c9)) = wP at *
  clear hgen_wP
  have k0_0 := hs98.cellAt 0 rfl 0 rfl
  have k0_1 := hs98.cellAt 0 rfl 1 rfl
  have k1_0 := hs98.cellAt 1 rfl 0 rfl
  have k1_1 := hs98.cellAt 1 rfl 1 rfl
  have k2_0 := hs98.cellAt 2 rfl 0 rfl
  have k2_1 := hs98.cellAt 2 rfl 1 rfl
  refine ⟨⟨hs98.cellAt 1 rfl 0 rfl, hs98.cellAt 1 rfl 1 rfl, hs98.cellAt 2 rfl 0 rfl, hs98.cellAt 2 rfl 1 rfl⟩, ?_⟩
  (repeat (first | (apply t4_skip rfl (by rfl); try simp only [Act.put, List.setIfInBounds_toArray, List.set_cons_zero, List.set_cons_succ]) | (apply t4_float rfl (by rfl); (· (intro w' hS; go_simp <;> with_reducible rfl)); (try simp only [Act.put, List.setIfInBounds_toArray, List.set_cons_zero, List.set_cons_succ]))))
  refine t4_last rfl (by rfl) (fun K hK => ?_)
  clear k0_0 k0_1 k1_0 k1_1 k2_0 k2_1
  have k0_0 := hs98.cellAt 0 rfl 0 rfl
  have k0_1 := hs98.cellAt 0 rfl 1 rfl
  have k1_0 := hs98.cellAt 1 rfl 0 rfl
  have k1_1 := hs98.cellAt 1 rfl 1 rfl
  have k2_0 := hs98.cellAt 2 rfl 0 rfl
  have k2_1 := hs98.cellAt 2 rfl 1 rfl
  clear k0_0 k0_1 k1_0 k1_1 k2_0 k2_1
  have k0_0 := hs98.cellAt 0 rfl 0 rfl
  have k0_1 := hs98.cellAt 0 rfl 1 rfl
  have k1_0 := hs98.cellAt 1 rfl 0 rfl
  have k1_1 := hs98.cellAt 1 rfl 1 rfl
  have k2_0 := hs98.cellAt 2 rfl 0 rfl
  have k2_1 := hs98.cellAt 2 rfl 1 rfl
  have f1_0 := hs98.freeAt 1 rfl 0
  have f1_1 := hs98.freeAt 1 rfl 1
  go_wp2_with fail
  refine t4_nil (NoPanic.normal ?_)
  have hs102 := hs98.set (p := [_]) (by simp <;> omega) 0 (.int .i64 U)
  have hs103 := hs102.set (p := [_]) (by simp <;> omega) 1 (.slice a8 l.length c8)
  have HSR_104 := Lib.hid (Src.below (B := B) (Src.below (B := B) HSR_99.out ((Below.refl B _).setCell (p := ⟨w.heap.size + 1, 0, none⟩) (by (try simp) <;> omega) (.int .i64 U))) ((Below.refl B _).setCell (p := ⟨w.heap.size + 1, 1, none⟩) (by (try simp) <;> omega) (.slice a8 l.length c8)))
  clear HSR_99
  have HFT_105 := Lib.hid (Ip.setCell (b := w.heap.size + 1) (o := 1) (Ip.setCell (b := w.heap.size + 1) (o := 0) HFT_100.out (.int .i64 U) (by intro hA9; (try simp only at hA9); omega)) (.slice a8 l.length c8) (by intro hA9; (try simp only at hA9); omega))
  clear HFT_100
  have HFX_106 := Lib.hid (Ip.setCell (b := w.heap.size + 1) (o := 1) (Ip.setCell (b := w.heap.size + 1) (o := 0) HFX_101.out (.int .i64 U) (by intro hA9; (try simp only at hA9); omega)) (.slice a8 l.length c8) (by intro hA9; (try simp only at hA9); omega))
  clear HFX_101
  clear k0_0 k0_1 k1_0 k1_1 k2_0 k2_1
  have hz_wQ : wP.heap.size ≤ (((wP.setCell ⟨w.heap.size + 1, 0, none⟩ (.int .i64 U)).setCell ⟨w.heap.size + 1, 1, none⟩ (.slice a8 l.length c8))).heap.size := by simp [World.setCell]
  generalize hgen_wQ : ((wP.setCell ⟨w.heap.size + 1, 0, none⟩ (.int .i64 U)).setCell ⟨w.heap.size + 1, 1, none⟩ (.slice a8 l.length c8)) = wQ at *
  clear hgen_wQ
  have k0_0 := hs103.cellAt 0 rfl 0 rfl
  have k0_1 := hs103.cellAt 0 rfl 1 rfl
  have k1_0 := hs103.cellAt 1 rfl 0 rfl
  have k1_1 := hs103.cellAt 1 rfl 1 rfl
  have k2_0 := hs103.cellAt 2 rfl 0 rfl
  have k2_1 := hs103.cellAt 2 rfl 1 rfl
  go_wp2_with fail
  have x0 := (hs103.cellAt 0 rfl 0 rfl)
  have x1 := (hs103.cellAt 0 rfl 1 rfl)
  have x2 := (hs103.cellAt 1 rfl 0 rfl)
  have x3 := (hs103.cellAt 1 rfl 1 rfl)
  exact bodyPost_ret (v := .tuple #[.agg #[.int .i64 size, .slice a9 rs.length c9], .agg #[.int .i64 U, .slice a8 l.length c8]]) (by simp [results, Tryz.results26, go_sem, x0, x1, x2, x3]) rfl ⟨size, _, U, _, rfl, rs, l, HFT_105.out.fresh (fun z hz => by (try simp only at hz); omega), HFX_106.out.fresh (fun z hz => by (try simp only at hz); omega), HIK.out, HBT_95.out.trans (but_of hs103.bel)⟩

set_option maxRecDepth 100000 in
set_option maxHeartbeats 16000000 in
theorem A2Known_c (a : Option Addr) (n c : Nat) (l : List Byte) (w : World) (h : Rd w [.slice a n c] l) :
    Calls Tryz.prog 6 #[.slice a n c] w fun e w' => ∃ (size : Int) (v : Value) (U : Nat) (v2 : Value), e = .returned (.tuple #[.agg #[.int .i64 size, v], .agg #[.int .i64 U, v2]]) ∧ ∃ (rs : List RelT) (l : List OpT), Fresh w.heap.size w' [.int .i64 size, v] ((size, rs) : Tmpl) ∧ Fresh w.heap.size w' [.int .i64 U, v2] (((U : Int), l) : Inst) ∧ instOk (size, rs) ((U : Int), l) = true ∧ Below w.heap.size w w' := by
  have H := Lib.hid h
  clear h
  have hs107 := (St.start w).alloc #[.int .i64 0, .slice none 0 0] 26 (n := w.heap.size) (by simp)
  have k0_0 := hs107.cellAt 0 rfl 0 rfl
  have k0_1 := hs107.cellAt 0 rfl 1 rfl
  have hs108 := hs107.alloc #[.int .i64 0, .slice none 0 0] 29 (n := w.heap.size + 1) (by simp)
  clear k0_0 k0_1
  have k0_0 := hs108.cellAt 0 rfl 0 rfl
  have k0_1 := hs108.cellAt 0 rfl 1 rfl
  have k1_0 := hs108.cellAt 1 rfl 0 rfl
  have k1_1 := hs108.cellAt 1 rfl 1 rfl
  go_enter Tryz.func6, Tryz.ntmps6
  have hsz9 : ((w.alloc (.cells #[.int .i64 0, .slice none 0 0] 26)).alloc (.cells #[.int .i64 0, .slice none 0 0] 29)).heap.size = w.heap.size + 1 + 1 := by simp
  go_wp2_with fail
  refine (l00From_c a n c l _ (Rd.mono H.out hs108.bel)).mono ?_
  rintro e w1 ⟨rfl, hsr, hb1⟩
  rw [hsz9] at hsr ⊢
  clear hsz9
  have HSR := Lib.hid hsr
  clear hsr
  have hz_w1 : w.heap.size + 1 + 1 ≤ w1.heap.size := by have h9 := hb1.size; (try simp at h9); omega
  have hs109 := hs108.step hb1
  clear k0_0 k0_1 k1_0 k1_1
  have k0_0 := hs109.cellAt 0 rfl 0 rfl
  have k0_1 := hs109.cellAt 0 rfl 1 rfl
  have k1_0 := hs109.cellAt 1 rfl 0 rfl
  have k1_1 := hs109.cellAt 1 rfl 1 rfl
  have hlt1 := HSR.out.lt
  go_wp2_with fail
  refine (l06Drawn_c _ _ _ 0 _ HSR.out (by omega) (by omega)).mono ?_
  rintro e w2 ⟨size, v, U, v2, rfl, rs, l2, fr9, fr8, ok9, hbut⟩
  have hf9 : Fresh _ _ [v] rs := fresh_snd rfl fr9
  obtain ⟨a9, c9, rfl, hsl9⟩ := rd_list hf9.rd
  have hf8 : Fresh _ _ [v2] l2 := fresh_snd rfl fr8
  obtain ⟨a8, c8, rfl, hsl8⟩ := rd_list hf8.rd
  have hs9 := hs109.butIv hbut (fun k hk => by simp only [List.mem_singleton] at hk; omega) (fun x hx => by simp only [List.mem_singleton]; simp at hx; rcases hx with rfl | rfl <;> (try simp) <;> omega)
  have HFT := Lib.hid ((fr9.ip).wk (B := fun z => w.heap.size + 1 + 1 ≤ z) (fun z hz => by (try simp at hz); omega))
  have HFX := Lib.hid ((fr8.ip).wk (B := fun z => w.heap.size + 1 + 1 ≤ z) (fun z hz => by (try simp at hz); omega))
  have HIK := Lib.hid ok9
  clear hf9 hsl9 fr9 ok9 hf8 hsl8 fr8
  clear k0_0 k0_1 k1_0 k1_1
  have k0_0 := hs9.cellAt 0 rfl 0 rfl
  have k0_1 := hs9.cellAt 0 rfl 1 rfl
  have k1_0 := hs9.cellAt 1 rfl 0 rfl
  have k1_1 := hs9.cellAt 1 rfl 1 rfl
  clear k0_0 k0_1 k1_0 k1_1
  have k0_0 := hs9.cellAt 0 rfl 0 rfl
  have k0_1 := hs9.cellAt 0 rfl 1 rfl
  have k1_0 := hs9.cellAt 1 rfl 0 rfl
  have k1_1 := hs9.cellAt 1 rfl 1 rfl
  have f0_0 := hs9.freeAt 0 rfl 0
  have f0_1 := hs9.freeAt 0 rfl 1
  have f1_0 := hs9.freeAt 1 rfl 0
  have f1_1 := hs9.freeAt 1 rfl 1
  go_wp2_with fail
  have hs110 := hs9.set (p := []) (by simp <;> omega) 0 (.int .i64 size)
  have hs111 := hs110.set (p := []) (by simp <;> omega) 1 (.slice a9 rs.length c9)
  have HFT_112 := Lib.hid (Ip.setCell (b := w.heap.size) (o := 1) (Ip.setCell (b := w.heap.size) (o := 0) HFT.out (.int .i64 size) (by intro hA9; (try simp only at hA9); omega)) (.slice a9 rs.length c9) (by intro hA9; (try simp only at hA9); omega))
  clear HFT
  have HFX_113 := Lib.hid (Ip.setCell (b := w.heap.size) (o := 1) (Ip.setCell (b := w.heap.size) (o := 0) HFX.out (.int .i64 size) (by intro hA9; (try simp only at hA9); omega)) (.slice a9 rs.length c9) (by intro hA9; (try simp only at hA9); omega))
  clear HFX
  clear k0_0 k0_1 k1_0 k1_1
  have hz_wP : w2.heap.size ≤ (((w2.setCell ⟨w.heap.size, 0, none⟩ (.int .i64 size)).setCell ⟨w.heap.size, 1, none⟩ (.slice a9 rs.length c9))).heap.size := by simp [World.setCell]
  generalize hgen_wP : ((w2.setCell ⟨w.heap.size, 0, none⟩ (.int .i64 size)).setCell ⟨w.heap.size, 1, none⟩ (.slice a9 rs.length c9)) = wP at *
  clear hgen_wP
  have k0_0 := hs111.cellAt 0 rfl 0 rfl
  have k0_1 := hs111.cellAt 0 rfl 1 rfl
  have k1_0 := hs111.cellAt 1 rfl 0 rfl
  have k1_1 := hs111.cellAt 1 rfl 1 rfl
  have hs114 := hs111.set (p := [_]) (by simp <;> omega) 0 (.int .i64 U)
  have hs115 := hs114.set (p := [_]) (by simp <;> omega) 1 (.slice a8 l2.length c8)
  have HFT_116 := Lib.hid (Ip.setCell (b := w.heap.size + 1) (o := 1) (Ip.setCell (b := w.heap.size + 1) (o := 0) HFT_112.out (.int .i64 U) (by intro hA9; (try simp only at hA9); omega)) (.slice a8 l2.length c8) (by intro hA9; (try simp only at hA9); omega))
  clear HFT_112
  have HFX_117 := Lib.hid (Ip.setCell (b := w.heap.size + 1) (o := 1) (Ip.setCell (b := w.heap.size + 1) (o := 0) HFX_113.out (.int .i64 U) (by intro hA9; (try simp only at hA9); omega)) (.slice a8 l2.length c8) (by intro hA9; (try simp only at hA9); omega))
  clear HFX_113
  clear k0_0 k0_1 k1_0 k1_1
  have hz_wQ : wP.heap.size ≤ (((wP.setCell ⟨w.heap.size + 1, 0, none⟩ (.int .i64 U)).setCell ⟨w.heap.size + 1, 1, none⟩ (.slice a8 l2.length c8))).heap.size := by simp [World.setCell]
  generalize hgen_wQ : ((wP.setCell ⟨w.heap.size + 1, 0, none⟩ (.int .i64 U)).setCell ⟨w.heap.size + 1, 1, none⟩ (.slice a8 l2.length c8)) = wQ at *
  clear hgen_wQ
  have k0_0 := hs115.cellAt 0 rfl 0 rfl
  have k0_1 := hs115.cellAt 0 rfl 1 rfl
  have k1_0 := hs115.cellAt 1 rfl 0 rfl
  have k1_1 := hs115.cellAt 1 rfl 1 rfl
  have x0 := (hs115.cellAt 0 rfl 0 rfl)
  have x1 := (hs115.cellAt 0 rfl 1 rfl)
  have x2 := (hs115.cellAt 1 rfl 0 rfl)
  have x3 := (hs115.cellAt 1 rfl 1 rfl)
  exact bodyPost_ret (v := .tuple #[.agg #[.int .i64 size, .slice a9 rs.length c9], .agg #[.int .i64 U, .slice a8 l2.length c8]]) (by simp [results, Tryz.results6, go_sem, x0, x1, x2, x3]) rfl ⟨size, _, U, _, rfl, rs, l2, HFT_116.out.fresh (fun z hz => by (try simp only at hz); omega), HFX_117.out.fresh (fun z hz => by (try simp only at hz); omega), HIK.out, hs115.bel⟩
set_option maxRecDepth 100000 in
set_option maxHeartbeats 16000000 in
theorem A2Tuples_c (a : Option Addr) (n c : Nat) (l : List Byte) (size : Int) (m q : Nat) (w : World) (h : Rd w [.slice a n c] l) (hs : 1 ≤ size ∧ size ≤ 200) (hm : m ≤ 100) (hq : q ≤ 100) :
    Calls Tryz.prog 8 #[.slice a n c, .int .i64 size, .int .i64 m, .int .i64 q] w fun e w' => ∃ v : Value, e = .returned v ∧ ∃ ts : List (List Int), Fresh w.heap.size w' [v] ts ∧ ts.length = q ∧ (∀ t, t ∈ ts → t.length = m ∧ Val size t) ∧ Below w.heap.size w w' := by
  have H := Lib.hid h
  clear h
  go_enter Tryz.func8, Tryz.ntmps8
  go_wp2_with fail
  refine (l00From_c a n c l _ (Rd.mono H.out (St.start w).bel)).mono ?_
  rintro e w1 ⟨rfl, hsr, hb1⟩
  obtain ⟨b0, hb0⟩ : ∃ z, z = w.heap.size := ⟨_, rfl⟩
  rw [← hb0] at hsr ⊢
  have hbA : b0 ≤ w.heap.size := by omega
  have hbB : w.heap.size ≤ b0 := by omega
  clear hb0
  have HSR := Lib.hid hsr
  have hlt1 := hsr.lt
  have hs1 := (St.start w).step hb1
  clear hsr
  have HB1 := Lib.hid hb1
  go_wp2_with fail
  have HMD := Lib.hid (accP_made (α := List Int) w1 32)
  go_loopw [10, 11] (fun o i wl => ∃ (j : Nat) (ts : List (List Int)) (ao : Option Addr) (co : Nat), j ≤ q ∧ i = .int .i64 j ∧ o = .slice ao j co ∧ Hid (ts.length = j ∧ ∀ t, t ∈ ts → t.length = m ∧ Val size t) ∧ Hid (Below w.heap.size w wl) ∧ Hid (w.heap.size + 1 ≤ wl.heap.size) ∧ Hid (AccP (fun z => b0 + 1 ≤ z ∧ z < wl.heap.size) 32 wl (.slice ao j co) ts) ∧ Hid (Src b0 (b0 + 1) wl b0 (100 * j))) (fun _ i _ => q - (intOf i).toNat)
  case atStart => exact ⟨0, [], _, _, Nat.zero_le _, rfl, rfl, ⟨rfl, fun t ht => by cases ht⟩, HB1.out.trans ((belowA w1 _).mono HB1.out.size), by show _ ≤ _; simp; omega, HMD.out.wk (fun z hz => by (try simp only at hz); subst hz; simp; omega), HSR.out.mono (belowA w1 _)⟩
  case round =>
    clear HMD HSR HB1
    obtain ⟨j, ts, ao, co, hj, rfl, rfl, hts, hbl, hsz, hac, hsr⟩ := hrel
    have hsz1 := hsz.out
    have HLN := Lib.hid hts.out.1
    by_cases hlt : j < q
    · have hltI : (j : Int) < q := by omega
      obtain ⟨X, hX⟩ : ∃ X, X = wr.heap.size := ⟨_, rfl⟩
      have hX1 : w.heap.size + 1 ≤ X := by omega
      have HMD := Lib.hid (accP_made (α := Int) wr 2)
      have HAC := Lib.hid ((hac.out.wk (C := fun z => b0 + 1 ≤ z ∧ z < X) (fun z hz => by rw [hX]; exact hz)).mono (belowA wr (.cells #[] 2)))
      have HSR := Lib.hid (hsr.out.mono (belowA wr (.cells #[] 2)))
      have HBL := Lib.hid (hbl.out.trans ((belowA wr (.cells #[] 2)).mono hbl.out.size))
      have hw9 : (wr.alloc (.cells #[] 2)).heap.size = X + 1 := by simp [hX]
      rw [← hX] at HMD
      go_wp2_with fail
      rw [← hX]
      generalize wr.alloc (.cells #[] 2) = wA at *
      clear hX hbl hac hsr hsz
      go_loopw [12, 13] (fun o i wl => ∃ (p : Nat) (t : List Int) (at_ : Option Addr) (ct : Nat), p ≤ m ∧ i = .int .i64 p ∧ o = .slice at_ p ct ∧ Hid (t.length = p ∧ Val size t) ∧ Hid (Below w.heap.size w wl) ∧ Hid (X + 1 ≤ wl.heap.size) ∧ Hid (AccP (fun z => b0 + 1 ≤ z ∧ z < X) 32 wl (.slice ao j co) ts) ∧ Hid (AccP (fun z => X ≤ z ∧ z < wl.heap.size) 2 wl (.slice at_ p ct) t) ∧ Hid (Src b0 (b0 + 1) wl b0 (100 * j + p))) (fun _ i _ => m - (intOf i).toNat)
      case atStart => exact ⟨0, [], _, _, Nat.zero_le _, rfl, rfl, ⟨rfl, fun t ht => by cases ht⟩, HBL.out, by show _ ≤ _; omega, HAC.out, HMD.out.wk (fun z hz => by (try simp only at hz); omega), HSR.out⟩
      case round =>
        clear HMD HSR HBL HAC hw9
        obtain ⟨p, t, at_, ct, hp, rfl, rfl, htv, hbl, hsz, hac, hin, hsr⟩ := hrel
        have hsz2 := hsz.out
        have HTL := Lib.hid htv.out.1
        by_cases hlp : p < m
        · have hlpI : (p : Int) < m := by omega
          have hsW : wr.heap.size ≥ X + 1 := hsz2
          go_wp2_with fail
          refine (pickG_c size b0 (b0 + 1) b0 (100 * j + p) _ hsr.out (by omega) (by omega)).mono ?_
          rintro e w2 ⟨x, rfl, hx0, hx1, hsr2, hbut⟩
          have hx2 := hx1 hs.1
          have hz2 := hbut.size
          have HBL := Lib.hid ((St.start w).step hbl.out |>.butIv hbut (fun k hk => by simp only [List.mem_singleton] at hk; omega) (fun x hx => by cases hx)).bel
          have HAC := Lib.hid (hac.out.butL hbut (fun k hk => by simp only [List.mem_singleton] at hk; omega))
          have HIN := Lib.hid (hin.out.butL hbut (fun k hk => by simp only [List.mem_singleton] at hk; omega))
          have HSR := Lib.hid hsr2
          have HI9 := Lib.hid (show I64 x from ⟨by omega, by omega⟩)
          clear hbut hsr2 hbl hac hin hsr hsz
          have hz3 : w.heap.size ≤ w2.heap.size := by omega
          go_wp2_with (at_builtin; refine wpList_append_accP _ rfl _ _ _ rfl E_ints rfl (AccP.mono HIN.out (belowA _ _)) (ip_int1 (C := fun _ => False) HI9.out) (fun z h1 h2 => h2) ⟨w2.heap.size, 0, none⟩ 1 rfl (news1 (cell_at_block (heap_alloc_new _ _))) (by rw [HTL.out]; omega) ?_; simp only [HTL.out]; intro a8 c8 w8 hA8 hB8)
          have hz8 := hB8.size
          have hz9 : w2.heap.size < w8.heap.size := by (try simp at hz8); omega
          have HB8 := Lib.hid ((HBL.out.trans ((belowA w2 (.cells #[.int .i64 x] 2)).mono hz3)).trans (hB8.below (fun z hz => by (try simp only at hz); omega) (by simp; omega)))
          have HA8 := Lib.hid (hA8.tight.wk (C := fun z => X ≤ z ∧ z < w8.heap.size) (fun z hz => by
            have h2 := hz.2
            rcases hz.1 with h | h | h
            · (try simp only at h); omega
            · exact h.elim
            · simp at h; omega))
          have HC8 := Lib.hid ((HAC.out.mono (belowA w2 (.cells #[.int .i64 x] 2))).butP hB8 (fun z h1 h2 => by (try simp only at h1 h2); omega))
          have HR8 := Lib.hid ((HSR.out.mono (belowA w2 (.cells #[.int .i64 x] 2))).below (hB8.below (fun z hz => by (try simp only at hz); omega) (by simp; omega)))
          clear hA8 hB8
          go_wp2_with fail
          go_roundw
          case rel =>
            refine ⟨p + 1, t ++ [x], a8, c8, by omega, by go_num, rfl, ⟨by simp [HTL.out], fun y hy => ?_⟩, HB8.out, by show _ ≤ _; omega, HC8.out, HA8.out, HR8.out⟩
            rcases List.mem_append.1 hy with hy | hy
            · exact htv.out.2 y hy
            · simp only [List.mem_singleton] at hy; subst hy; omega
          case measure => simp [intOf]; omega
        · obtain rfl : p = m := by omega
          have hnp : ¬ ((p : Int) < p) := by omega
          have hz3 : w.heap.size ≤ wr.heap.size := by omega
          have htl := HTL.out
          have HBL := hbl
          have HAC := hac
          have HIT := Lib.hid hin.out.ip
          have HSR := hsr
          clear hbl hac hin hsr
          go_wp2_with (at_builtin; refine wpList_append_accP _ rfl _ _ _ rfl E_lists rfl (AccP.mono HAC.out (belowA _ _)) (Ip.mono HIT.out (belowA _ _)) (fun z h1 h2 => by (try simp only at h1 h2); omega) ⟨wr.heap.size, 0, none⟩ 1 rfl (news1 (cell_at_block (heap_alloc_new _ _))) (by rw [HLN.out]; omega) ?_; simp only [HLN.out]; intro a8 c8 w8 hA8 hB8)
          have hz8 := hB8.size
          have hz9 : wr.heap.size < w8.heap.size := by (try simp at hz8); omega
          have HB8 := Lib.hid ((HBL.out.trans ((belowA wr (.cells #[.slice at_ p ct] 32)).mono hz3)).trans (hB8.below (fun z hz => by (try simp only at hz); omega) (by simp; omega)))
          have HA8 := Lib.hid (hA8.tight.wk (C := fun z => b0 + 1 ≤ z ∧ z < w8.heap.size) (fun z hz => by
            have h2 := hz.2
            rcases hz.1 with h | h | h
            · (try simp only at h); omega
            · (try simp only at h); omega
            · simp at h; omega))
          have HR8 := Lib.hid ((HSR.out.mono (belowA wr (.cells #[.slice at_ p ct] 32))).below (hB8.below (fun z hz => by (try simp only at hz); omega) (by simp; omega)))
          clear hA8 hB8
          go_wp2_with fail
          go_roundw
          case rel =>
            refine ⟨j + 1, ts ++ [t], a8, c8, by omega, by go_num, rfl, ⟨by simp [HLN.out], fun y hy => ?_⟩, HB8.out, by show _ ≤ _; omega, HA8.out, HR8.out.more (by omega)⟩
            rcases List.mem_append.1 hy with hy | hy
            · exact hts.out.2 y hy
            · simp only [List.mem_singleton] at hy; subst hy; exact ⟨htl, htv.out.2⟩
          case measure => simp [intOf]; omega
    · obtain rfl : j = q := by omega
      have hnl : ¬ ((j : Int) < j) := by omega
      have HFR := Lib.hid (hac.out.ip.fresh (lo := w.heap.size) (fun k hk => by have := hk.1; omega))
      have HBL := hbl
      go_wp2_with fail
      go_ret
      exact ⟨_, rfl, ts, HFR.out, hts.out.1, hts.out.2, HBL.out⟩

end Go.Proofs.YtllenfkbfeanmaaGreat

