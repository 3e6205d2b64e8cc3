/-
  CONTRACTS: the instances that the reference draws, with their templates; tuples.
-/
import Derived.Test.YtamkfnkikiekaaaGreatDrawKRa
import Derived.Test.YtamkfnkikiekaaaGreatTmplBRa
namespace Go.Proofs.YtamkfnkikiekaaaGreat
open Go.RowKit Go.Shelf Go.IntWalk
open Rep (Rd Own sz)
set_option linter.unusedSimpArgs false
set_option linter.unusedVariables false

theorem cell_but {ps : List Nat} {w w' : World} {b o : Nat} {v : Value} (hb : But ps w w') (h : w.cell? ⟨b, o, none⟩ = some v) (hn : b ∉ ps) : w'.cell? ⟨b, o, none⟩ = some v :=
  cellK h (hb.block b (World.block_lt_of_cell? w _ h) hn)
theorem Ip.butL {α : Type} [Rep α] {A : Nat → Prop} {w w' : World} {vs : List Value} {x : α} (h : Ip A w vs x) {ps : List Nat} (hb : But ps w w') (hp : ∀ k, k ∈ ps → ¬ A k) : Ip A w' vs x :=
  h.butP (A := fun k => k ∈ ps) (hb.butP (fun k hk => hk)) (fun k hA hk => hp k hk hA)
theorem conOk_of {size : Int} {rs : List RelT} {U : Int} {j : Nat} {sc : List Int} (hj : j < rs.length) (hl : (sc.length : Int) = (rs.getD j (0, [])).1) (hv : ∀ a, a ∈ sc → 0 ≤ a ∧ a < U) : conOk (size, rs) U ((j : Int), sc) = true := by
  simp only [conOk, Bool.and_eq_true, Int.toNat_natCast]
  refine ⟨inB_mk (by simp; omega), ?_⟩
  simp only [valsOk, Bool.and_eq_true, decide_eq_true_eq, List.all_eq_true]
  exact ⟨hl, fun a ha => inB_mk (by have := hv a ha; omega)⟩
theorem instOk_of {t : Tmpl} {U : Nat} {l : List OpT} (ht : tmplOk t = true) (hU : 1 ≤ U ∧ U ≤ 10) (hl : l.length ≤ 24) (h : ∀ c, c ∈ l → conOk t (U : Int) c = true) : instOk t ((U : Int), l) = true := by
  simp only [instOk, Bool.and_eq_true, decide_eq_true_eq, List.all_eq_true]
  exact ⟨⟨⟨ht, inB_mk (by omega)⟩, hl⟩, h⟩
theorem ip_icD {β : Type} [Rep β] {A : Nat → Prop} {w : World} {v : Value} {k : Int} {T : β} (hk : I64 k) (h : Ip A w [v] T) : Ip A w [.int .i64 k, v] (k, T) := by
  obtain ⟨ps, h1, h2, h3⟩ := h
  exact ⟨ps, lit_rel hk h1, h2, h3⟩
set_option maxRecDepth 100000 in
set_option maxHeartbeats 16000000 in
theorem l05DrawnA_c (most : Int) (t : Tmpl) (t0 t1 : Value) (tb lo L B b k : Nat) (w : World) (h : Src L B w b k) (hB : B ≤ w.heap.size) (hk : k ≤ 600000000) (hm : 1 ≤ most ∧ most ≤ 10) (ht : Fresh lo w [t0, t1] t) (hlo : b < lo) (htb : tb ≠ b) (tc1 : w.cell? ⟨tb, 1, none⟩ = some t1) (hok : tmplOk t = true) :
    Calls Tryz.prog 69 #[.pointer (some ⟨b, 0, none⟩), .pointer (some ⟨tb, 0, none⟩), .int .i64 most] w fun e w' => ∃ (U : Nat) (v : Value), e = .returned (.agg #[.int .i64 U, v]) ∧ ∃ l : List OpT, AccP (fun z => w.heap.size ≤ z) 60 w' v l ∧ instOk t ((U : Int), l) = true ∧ ((U : Int) ≤ most ∧ l.length ≤ 6) ∧ Src L B w' b (k + 100) ∧ But [b] w w' := by
  have hbw := h.lt
  have htw : tb < w.heap.size := World.block_lt_of_cell? w _ tc1
  have HSR := Lib.hid h
  have HBT := Lib.hid (But.refl [b] w)
  obtain ⟨size, rs⟩ := t
  have zt := rd_cons rfl ht.rd
  obtain ⟨rfl, _⟩ := rd_i1 zt.1
  obtain ⟨at0, ct0, rfl, _⟩ := rd_list zt.2
  have HTF := Lib.hid ht.ip
  have HRL := Lib.hid (tmplOk_get hok)
  have hrl := (tmplOk_get hok).2.1
  simp only at hrl
  have HOK := Lib.hid hok
  clear h ht zt hok
  have hs1 := (St.start w).alloc #[.int .i64 0, .slice none 0 0] 29 (n := w.heap.size) (by simp)
  have tc1_2 := cellL (belowA _ (.cells #[.int .i64 0, .slice none 0 0] 29)) tc1
  clear tc1
  have HSR_3 := Lib.hid (Src.mono HSR.out (belowA _ (.cells #[.int .i64 0, .slice none 0 0] 29)))
  clear HSR
  have HTF_4 := Lib.hid (Ip.mono HTF.out (belowA _ (.cells #[.int .i64 0, .slice none 0 0] 29)))
  clear HTF
  have k0_0 := hs1.cellAt 0 rfl 0 rfl
  have k0_1 := hs1.cellAt 0 rfl 1 rfl
  go_enter Tryz.func69, Tryz.ntmps69
  go_wp2_with fail
  refine (pickG_c most L B b k _ HSR_3.out (by omega) (by omega)).mono ?_
  rintro e w5 ⟨r1, rfl, hr0, hr1, hrw5, hbw5⟩
  obtain ⟨wz6, hs7, hz_wz6, hy_wz6, hc_wz6⟩ := hs1.cut hbw5 (by intro k hk; simp only [List.mem_singleton] at hk; omega)
  have hz_w5 : w.heap.size + 1 ≤ w5.heap.size := by have h9 := hbw5.size; (try simp at h9); omega
  have HSR_8 := Lib.hid hrw5
  clear HSR_3
  have HBT_9 := Lib.hid (HBT.out.trans hc_wz6)
  clear HBT
  have HTF_10 := Lib.hid (Ip.butL HTF_4.out hbw5 (by intro k hk; simp only [List.mem_singleton] at hk; (try simp only); omega))
  clear HTF_4
  have tc1_11 := cell_but hbw5 tc1_2 (by simp only [List.mem_singleton]; omega)
  clear tc1_2
  clear hrw5 hc_wz6
  clear k0_0 k0_1
  have k0_0 := hs7.cellAt 0 rfl 0 rfl
  have k0_1 := hs7.cellAt 0 rfl 1 rfl
  obtain ⟨U, hU⟩ : ∃ U : Nat, 1 + r1 = (U : Int) := ⟨(1 + r1).toNat, by omega⟩
  have hw9 : IntKind.i64.wrap (1 + r1) = (U : Int) := by rw [hU]; exact i64_in _ (by omega)
  have hUm : 1 ≤ U ∧ (U : Int) ≤ most := by have := hr1 hm.1; omega
  have hs12 := hs7.alloc #[.int .i64 U, .slice none 0 0] 29 (n := w5.heap.size) (by simp)
  have tc1_13 := cellL (belowA _ (.cells #[.int .i64 U, .slice none 0 0] 29)) tc1_11
  clear tc1_11
  have HSR_14 := Lib.hid (Src.mono HSR_8.out (belowA _ (.cells #[.int .i64 U, .slice none 0 0] 29)))
  clear HSR_8
  have HTF_15 := Lib.hid (Ip.mono HTF_10.out (belowA _ (.cells #[.int .i64 U, .slice none 0 0] 29)))
  clear HTF_10
  clear k0_0 k0_1
  have k0_0 := hs12.cellAt 0 rfl 0 rfl
  have k0_1 := hs12.cellAt 0 rfl 1 rfl
  have k1_0 := hs12.cellAt 1 rfl 0 rfl
  have k1_1 := hs12.cellAt 1 rfl 1 rfl
  go_wp2_with fail
  refine (pick_c 7 L B b (k + 1) _ HSR_14.out (by omega) (by omega) (by omega)).mono ?_
  rintro e w16 ⟨r2, rfl, hr2, hr3, hrw16, hbw16⟩
  obtain ⟨wz17, hs18, hz_wz17, hy_wz17, hc_wz17⟩ := hs12.cut hbw16 (by intro k hk; simp only [List.mem_singleton] at hk; omega)
  have hz_w16 : w5.heap.size + 1 ≤ w16.heap.size := by have h9 := hbw16.size; (try simp at h9); omega
  have HSR_19 := Lib.hid hrw16
  clear HSR_14
  have HBT_20 := Lib.hid (HBT_9.out.trans hc_wz17)
  clear HBT_9
  have HTF_21 := Lib.hid (Ip.butL HTF_15.out hbw16 (by intro k hk; simp only [List.mem_singleton] at hk; (try simp only); omega))
  clear HTF_15
  have tc1_22 := cell_but hbw16 tc1_13 (by simp only [List.mem_singleton]; omega)
  clear tc1_13
  clear hrw16 hc_wz17
  clear k0_0 k0_1 k1_0 k1_1
  have k0_0 := hs18.cellAt 0 rfl 0 rfl
  have k0_1 := hs18.cellAt 0 rfl 1 rfl
  have k1_0 := hs18.cellAt 1 rfl 0 rfl
  have k1_1 := hs18.cellAt 1 rfl 1 rfl
  obtain ⟨K, rfl⟩ : ∃ K : Nat, r2 = K := ⟨r2.toNat, by omega⟩
  go_wp2_with fail
  have hzz : w.heap.size + 1 ≤ w5.heap.size := by omega
  have HST := Lib.hid hs18
  have HSR9 := Lib.hid HSR_19.out
  have HBT9 := Lib.hid HBT_20.out
  have HTF9 := Lib.hid HTF_21.out
  have HTC9 := Lib.hid tc1_22
  obtain ⟨OA, hOA⟩ : ∃ z, z = w5.heap.size := ⟨_, rfl⟩
  rw [← hOA] at HST hzz ⊢
  clear hOA
  clear hw9
  go_loopw [8] (fun i wl => ∃ (m n : Nat) (wz : World) (a : Option Addr) (c : Nat) (l : List OpT), m + n = K ∧ i = .int .i64 n ∧ Hid (l.length = m ∧ ∀ r, r ∈ l → conOk (size, rs) U r = true) ∧ Hid (w.heap.size ≤ wz.heap.size ∧ But [b] w wz) ∧ Hid (St wz (OA + 1) wl [(w.heap.size, #[.int .i64 0, .slice none 0 0], 29), (OA, #[.int .i64 U, .slice a m c], 29)]) ∧ Hid (AccP (fun z => OA + 1 ≤ z ∧ z < wl.heap.size) 60 wl (.slice a m c) l) ∧ Hid (Src L B wl b (k + 2 + 10 * m)) ∧ Hid (Ip (fun z => lo ≤ z ∧ z < w.heap.size) wl [.int .i64 size, .slice at0 rs.length ct0] ((size, rs) : Tmpl)) ∧ Hid (wl.cell? ⟨tb, 1, none⟩ = some (.slice at0 rs.length ct0))) (fun i _ => (intOf i).toNat)
  case atStart => exact ⟨0, K, wz17, none, 0, [], by omega, rfl, ⟨rfl, fun e he => by cases he⟩, ⟨by omega, HBT9.out⟩, HST.out, AccP.nil _ _ _, HSR9.out, HTF9.out, HTC9.out⟩
  case round =>
    clear HST HSR9 HBT9 HTF9 HTC9
    obtain ⟨m, n, wz, a, c, l, hmn, rfl, hl, hwz, hst, hac, hsr, htf, htc⟩ := hrel
    have HAC := hac
    have HSR := hsr
    have HTF := htf
    have tc1 := htc.out
    have hwz1 := hwz.out.1
    have HBT := Lib.hid hwz.out.2
    have hs0 := hst.out
    have hszr := hst.out.hi
    have hlo0 := hst.out.lo
    have HLN := Lib.hid hl.out.1
    clear hac hsr htf htc
    have k0_0 := hs0.cellAt 0 rfl 0 rfl
    have k0_1 := hs0.cellAt 0 rfl 1 rfl
    have k1_0 := hs0.cellAt 1 rfl 0 rfl
    have k1_1 := hs0.cellAt 1 rfl 1 rfl
    by_cases hlt : 0 < n
    · have hltI : (0 : Int) < n := by omega
      by_cases hrs : 0 < rs.length
      · have hrsI : (0 : Int) < rs.length := by omega
        have hdn : IntKind.i64.wrap ((n : Int) - 1) = ((n - 1 : Nat) : Int) := by rw [i64_in _ (by omega)]; omega
        go_wp2_with fail
        refine (pickG_c rs.length L B b (k + 2 + 10 * m) _ HSR.out (by omega) (by omega)).mono ?_
        rintro e w23 ⟨r3, rfl, hr4, hr5, hrw23, hbw23⟩
        obtain ⟨wz24, hs25, hz_wz24, hy_wz24, hc_wz24⟩ := hs0.cut hbw23 (by intro k hk; simp only [List.mem_singleton] at hk; omega)
        have hz_w23 : wr.heap.size ≤ w23.heap.size := by have h9 := hbw23.size; (try simp at h9); omega
        have HAC_26 := Lib.hid (AccP.butL HAC.out hbw23 (by intro k hk; simp only [List.mem_singleton] at hk; omega))
        clear HAC
        have HSR_27 := Lib.hid hrw23
        clear HSR
        have HBT_28 := Lib.hid (HBT.out.trans hc_wz24)
        clear HBT
        have HTF_29 := Lib.hid (Ip.butL HTF.out hbw23 (by intro k hk; simp only [List.mem_singleton] at hk; (try simp only); omega))
        clear HTF
        have tc1_30 := cell_but hbw23 tc1 (by simp only [List.mem_singleton]; omega)
        clear tc1
        clear hrw23 hc_wz24
        clear k0_0 k0_1 k1_0 k1_1
        have k0_0 := hs25.cellAt 0 rfl 0 rfl
        have k0_1 := hs25.cellAt 0 rfl 1 rfl
        have k1_0 := hs25.cellAt 1 rfl 0 rfl
        have k1_1 := hs25.cellAt 1 rfl 1 rfl
        have hr6 := hr5 (by omega)
        obtain ⟨j, rfl⟩ : ∃ j : Nat, r3 = j := ⟨r3.toNat, by omega⟩
        have hj : j < rs.length := by omega
        have hs31 := hs25.alloc #[.int .i64 j, .slice none 0 0] 60 (n := w23.heap.size) (by simp)
        have tc1_32 := cellL (belowA _ (.cells #[.int .i64 j, .slice none 0 0] 60)) tc1_30
        clear tc1_30
        have HAC_33 := Lib.hid (AccP.mono HAC_26.out (belowA _ (.cells #[.int .i64 j, .slice none 0 0] 60)))
        clear HAC_26
        have HSR_34 := Lib.hid (Src.mono HSR_27.out (belowA _ (.cells #[.int .i64 j, .slice none 0 0] 60)))
        clear HSR_27
        have HTF_35 := Lib.hid (Ip.mono HTF_29.out (belowA _ (.cells #[.int .i64 j, .slice none 0 0] 60)))
        clear HTF_29
        clear k0_0 k0_1 k1_0 k1_1
        have k0_0 := hs31.cellAt 0 rfl 0 rfl
        have k0_1 := hs31.cellAt 0 rfl 1 rfl
        have k1_0 := hs31.cellAt 1 rfl 0 rfl
        have k1_1 := hs31.cellAt 1 rfl 1 rfl
        have k2_0 := hs31.cellAt 2 rfl 0 rfl
        have k2_1 := hs31.cellAt 2 rfl 1 rfl
        have hrd := Ip.rd HTF_35.out
        have zt := rd_cons rfl hrd
        obtain ⟨at1, ct1, e1, hsl⟩ := rd_list zt.2
        simp only [Value.slice.injEq] at e1
        obtain ⟨rfl, -, rfl⟩ := e1
        obtain ⟨bR, oR, u0, u1, rfl, q0, q1, hy⟩ := rdSl_two rfl hsl j hj
        have hy0 := rd_cons rfl hy
        obtain ⟨rfl, _⟩ := rd_i1 hy0.1
        have hrok := HRL.out.2.2 rs[j] (List.getElem_mem hj)
        have har := (relOk_get hrok).2.1
        obtain ⟨AR, hAR⟩ : ∃ AR : Nat, rs[j].1 = (AR : Int) := ⟨rs[j].1.toNat, by omega⟩
        have HAR := Lib.hid (show ((AR : Nat) : Int) = (rs.getD j (0, [])).1 by rw [← hAR]; simp [List.getD, hj])
        have hAR4 : AR ≤ 4 := by omega
        rw [hAR] at q0
        have Q0 := q0
        clear hrd zt hsl hy hy0 hrok har hAR q0 q1
        obtain ⟨CA, hCA⟩ : ∃ z, z = w23.heap.size := ⟨_, rfl⟩
        have hCA2 : OA + 1 ≤ CA := by omega
        go_upto_region 6 with fail
        refine wp_region_noPanic (wp_region_tree4 (fun w' => w'.cell? ⟨w.heap.size, 0, none⟩ = some (.int .i64 0) ∧ w'.cell? ⟨w.heap.size, 1, none⟩ = some (.slice none 0 0) ∧ w'.cell? ⟨OA, 0, none⟩ = some (.int .i64 U) ∧ w'.cell? ⟨OA, 1, none⟩ = some (.slice a m c) ∧ w'.cell? ⟨w23.heap.size, 0, none⟩ = some (.int .i64 j) ∧ w'.cell? ⟨w23.heap.size, 1, none⟩ = some (.slice none 0 0) ∧ w'.cell? ⟨tb, 1, none⟩ = some (.slice (some ⟨bR, oR, none⟩) rs.length ct0) ∧ w'.cell? ⟨bR, oR + j * 2, none⟩ = some (.int .i64 AR)) (.float 0 (.float 1 (.float 2 (.float 3 (.float 4 (.float 5 (.float 6 (.float 7 (.float 8 (.float 9 .nil)))))))))) (by kernel_rfl) (by kernel_rfl) (by kernel_rfl) rfl ?_ (fun _ _ _ _ _ h => h) ?_)
        · exact ⟨(hs31.drew).cellAt 0 rfl 0 rfl, (hs31.drew).cellAt 0 rfl 1 rfl, (hs31.drew).cellAt 1 rfl 0 rfl, (hs31.drew).cellAt 1 rfl 1 rfl, (hs31.drew).cellAt 2 rfl 0 rfl, (hs31.drew).cellAt 2 rfl 1 rfl, cellL (belowD _) tc1_32, cellL (belowD _) Q0⟩
        have hs36 := hs31.drew
        have tc1_37 := cellL (belowD _) tc1_32
        clear tc1_32
        have Q0_38 := cellL (belowD _) Q0
        clear Q0
        have HAC_39 := Lib.hid (AccP.mono HAC_33.out (belowD _))
        clear HAC_33
        have HSR_40 := Lib.hid (Src.mono HSR_34.out (belowD _))
        clear HSR_34
        have HTF_41 := Lib.hid (Ip.mono HTF_35.out (belowD _))
        clear HTF_35
        clear k0_0 k0_1 k1_0 k1_1 k2_0 k2_1
        have hz_wd42 : w23.heap.size + 1 ≤ ((w23.alloc (.cells #[.int .i64 j, .slice none 0 0] 60)).drew).heap.size := by simp
        generalize hgen_wd42 : (w23.alloc (.cells #[.int .i64 j, .slice none 0 0] 60)).drew = wd42 at *
        have HG_wd42 := Lib.hid hgen_wd42
        clear hgen_wd42
        (repeat (first | (apply t4_skip rfl (by rfl); try simp only [Act.put, List.setIfInBounds_toArray, List.set_cons_zero, List.set_cons_succ]) | (apply t4_float rfl (by rfl); (· (intro w' hS; go_simp <;> with_reducible rfl)); (try simp only [Act.put, List.setIfInBounds_toArray, List.set_cons_zero, List.set_cons_succ]))))
        have k0_0 := hs36.cellAt 0 rfl 0 rfl
        have k0_1 := hs36.cellAt 0 rfl 1 rfl
        have k1_0 := hs36.cellAt 1 rfl 0 rfl
        have k1_1 := hs36.cellAt 1 rfl 1 rfl
        have k2_0 := hs36.cellAt 2 rfl 0 rfl
        have k2_1 := hs36.cellAt 2 rfl 1 rfl
        refine t4_nil (NoPanic.normal ?_)
        go_wp2_with fail
        have HST := Lib.hid hs36
        have HSR9 := Lib.hid HSR_40.out
        have HBT9 := Lib.hid HBT_28.out
        have HTF9 := Lib.hid HTF_41.out
        have HTC9 := Lib.hid tc1_37
        have HAC9 := Lib.hid HAC_39.out
        have hzC : wr.heap.size ≤ CA := by omega
        obtain ⟨X, hX⟩ : ∃ X, X = wr.heap.size := ⟨_, rfl⟩
        rw [← hX] at hzC
        rw [← hCA] at HST ⊢
        clear hCA
        go_loopw [10] (fun i wl => ∃ (p q : Nat) (wz : World) (s : Option Addr) (cs : Nat) (sc : List Int), p + q = AR ∧ i = .int .i64 q ∧ Hid (sc.length = p ∧ ∀ x, x ∈ sc → 0 ≤ x ∧ x < (U : Int)) ∧ Hid ((w.heap.size ≤ wz.heap.size ∧ wz.heap.size ≤ OA + 1) ∧ But [b] w wz) ∧ Hid (St wz (CA + 1) wl [(w.heap.size, #[.int .i64 0, .slice none 0 0], 29), (OA, #[.int .i64 U, .slice a m c], 29), (CA, #[.int .i64 j, .slice s p cs], 60)]) ∧ Hid (AccP (fun z => OA + 1 ≤ z ∧ z < X) 60 wl (.slice a m c) l) ∧ Hid (AccP (fun z => CA + 1 ≤ z ∧ z < wl.heap.size) 2 wl (.slice s p cs) sc) ∧ Hid (Src L B wl b (k + 2 + 10 * m + 1 + p)) ∧ Hid (Ip (fun z => lo ≤ z ∧ z < w.heap.size) wl [.int .i64 size, .slice (some ⟨bR, oR, none⟩) rs.length ct0] ((size, rs) : Tmpl)) ∧ Hid (wl.cell? ⟨tb, 1, none⟩ = some (.slice (some ⟨bR, oR, none⟩) rs.length ct0))) (fun i _ => (intOf i).toNat)
        case atStart => exact ⟨0, AR, wz24, none, 0, [], by omega, rfl, ⟨rfl, fun e he => by cases he⟩, ⟨⟨by omega, by omega⟩, HBT9.out⟩, HST.out, HAC9.out.wk (fun z hz => ⟨hz.1, by omega⟩), AccP.nil _ _ _, HSR9.out, HTF9.out, HTC9.out⟩
        case round =>
          clear HST HSR9 HBT9 HTF9 HTC9 HAC9
          have hOX : OA + 1 ≤ X := by omega
          clear hX
          obtain ⟨p, q, wz2, s, cs, sc, hpq, rfl, hsc, hwz2, hst2, hac2, hin, hsr2, htf2, htc2⟩ := hrel
          have HAC := hac2
          have HIN := hin
          have HSR := hsr2
          have HTF := htf2
          have tc1 := htc2.out
          have hwz3 := hwz2.out.1.1
          have hwz4 := hwz2.out.1.2
          have HBT := Lib.hid hwz2.out.2
          have hs2 := hst2.out
          have hszr2 := hst2.out.hi
          have hlo2 := hst2.out.lo
          have HSN := Lib.hid hsc.out.1
          clear hac2 hin hsr2 htf2 htc2 hs0 hst
          have k0_0 := hs2.cellAt 0 rfl 0 rfl
          have k0_1 := hs2.cellAt 0 rfl 1 rfl
          have k1_0 := hs2.cellAt 1 rfl 0 rfl
          have k1_1 := hs2.cellAt 1 rfl 1 rfl
          have k2_0 := hs2.cellAt 2 rfl 0 rfl
          have k2_1 := hs2.cellAt 2 rfl 1 rfl
          by_cases hlq : 0 < q
          · have hlqI : (0 : Int) < q := by omega
            have hdq : IntKind.i64.wrap ((q : Int) - 1) = ((q - 1 : Nat) : Int) := by rw [i64_in _ (by omega)]; omega
            go_upto_region 9 with fail
            refine wp_region_noPanic (wp_region_tree4 (fun w' => w'.cell? ⟨w.heap.size, 0, none⟩ = some (.int .i64 0) ∧ w'.cell? ⟨w.heap.size, 1, none⟩ = some (.slice none 0 0) ∧ w'.cell? ⟨OA, 0, none⟩ = some (.int .i64 U) ∧ w'.cell? ⟨OA, 1, none⟩ = some (.slice a m c) ∧ w'.cell? ⟨CA, 0, none⟩ = some (.int .i64 j) ∧ w'.cell? ⟨CA, 1, none⟩ = some (.slice s p cs) ∧ w'.cell? ⟨tb, 1, none⟩ = some (.slice (some ⟨bR, oR, none⟩) rs.length ct0)) (.float 0 (.float 1 (.float 2 (.float 3 (.float 4 (.hard 5 (.hard 6 (.hard 7 (.float 8 (.last 9 .nil)))))))))) (by kernel_rfl) (by kernel_rfl) (by kernel_rfl) rfl ?_ (fun _ _ _ _ _ h => h) ?_)
            · exact ⟨(hs2.drew).cellAt 0 rfl 0 rfl, (hs2.drew).cellAt 0 rfl 1 rfl, (hs2.drew).cellAt 1 rfl 0 rfl, (hs2.drew).cellAt 1 rfl 1 rfl, (hs2.drew).cellAt 2 rfl 0 rfl, (hs2.drew).cellAt 2 rfl 1 rfl, cellL (belowD _) tc1⟩
            have hs43 := hs2.drew
            have tc1_44 := cellL (belowD _) tc1
            clear tc1
            have HAC_45 := Lib.hid (AccP.mono HAC.out (belowD _))
            clear HAC
            have HIN_46 := Lib.hid (AccP.mono HIN.out (belowD _))
            clear HIN
            have HSR_47 := Lib.hid (Src.mono HSR.out (belowD _))
            clear HSR
            have HTF_48 := Lib.hid (Ip.mono HTF.out (belowD _))
            clear HTF
            clear k0_0 k0_1 k1_0 k1_1 k2_0 k2_1
            have hz_wd49 : wr.heap.size ≤ (wr.drew).heap.size := by simp
            generalize hgen_wd49 : wr.drew = wd49 at *
            have HG_wd49 := Lib.hid hgen_wd49
            clear hgen_wd49
            (repeat (first | (apply t4_skip rfl (by rfl); try simp only [Act.put, List.setIfInBounds_toArray, List.set_cons_zero, List.set_cons_succ]) | (apply t4_float rfl (by rfl); (· (intro w' hS; go_simp <;> with_reducible rfl)); (try simp only [Act.put, List.setIfInBounds_toArray, List.set_cons_zero, List.set_cons_succ]))))
            refine t4_hard rfl (by rfl) (fun K hK => ?_)
            go_wp2_with (go_at_call 38; refine (pickG_c U L B b (k + 2 + 10 * m + 1 + p) _ HSR_47.out (by omega) (by omega)).mono ?_; rintro e w50 ⟨r9, rfl, h90, h91, hrw50, hbw50⟩)
            obtain ⟨wz51, hs52, hz_wz51, hy_wz51, hc_wz51⟩ := hs43.cut hbw50 (by intro k hk; simp only [List.mem_singleton] at hk; omega)
            have hz_w50 : wd49.heap.size ≤ w50.heap.size := by have h9 := hbw50.size; (try simp at h9); omega
            have HAC_53 := Lib.hid (AccP.butL HAC_45.out hbw50 (by intro k hk; simp only [List.mem_singleton] at hk; omega))
            clear HAC_45
            have HIN_54 := Lib.hid (AccP.butL HIN_46.out hbw50 (by intro k hk; simp only [List.mem_singleton] at hk; omega))
            clear HIN_46
            have HSR_55 := Lib.hid hrw50
            clear HSR_47
            have HBT_56 := Lib.hid (HBT.out.trans hc_wz51)
            clear HBT
            have HTF_57 := Lib.hid (Ip.butL HTF_48.out hbw50 (by intro k hk; simp only [List.mem_singleton] at hk; (try simp only); omega))
            clear HTF_48
            have tc1_58 := cell_but hbw50 tc1_44 (by simp only [List.mem_singleton]; omega)
            clear tc1_44
            clear hrw50 hc_wz51
            have h92 := h91 (by omega)
            have HI9 := Lib.hid (show I64 r9 from ⟨by omega, by omega⟩)
            refine ⟨⟨hs52.cellAt 0 rfl 0 rfl, hs52.cellAt 0 rfl 1 rfl, hs52.cellAt 1 rfl 0 rfl, hs52.cellAt 1 rfl 1 rfl, hs52.cellAt 2 rfl 0 rfl, hs52.cellAt 2 rfl 1 rfl, tc1_58⟩, ?_⟩
            (repeat (first | (apply t4_skip rfl (by rfl); try simp only [Act.put, List.setIfInBounds_toArray, List.set_cons_zero, List.set_cons_succ]) | (apply t4_float rfl (by rfl); (· (intro w' hS; go_simp <;> with_reducible rfl)); (try simp only [Act.put, List.setIfInBounds_toArray, List.set_cons_zero, List.set_cons_succ]))))
            refine t4_hard rfl (by rfl) (fun K hK => ?_)
            go_wp2_with fail
            have hs59 := hs52.alloc #[.int .i64 r9] 2 (n := w50.heap.size) (by simp)
            have tc1_60 := cellL (belowA _ (.cells #[.int .i64 r9] 2)) tc1_58
            clear tc1_58
            have HAC_61 := Lib.hid (AccP.mono HAC_53.out (belowA _ (.cells #[.int .i64 r9] 2)))
            clear HAC_53
            have HIN_62 := Lib.hid (AccP.mono HIN_54.out (belowA _ (.cells #[.int .i64 r9] 2)))
            clear HIN_54
            have HSR_63 := Lib.hid (Src.mono HSR_55.out (belowA _ (.cells #[.int .i64 r9] 2)))
            clear HSR_55
            have HTF_64 := Lib.hid (Ip.mono HTF_57.out (belowA _ (.cells #[.int .i64 r9] 2)))
            clear HTF_57
            refine ⟨⟨hs59.cellAt 0 rfl 0 rfl, hs59.cellAt 0 rfl 1 rfl, hs59.cellAt 1 rfl 0 rfl, hs59.cellAt 1 rfl 1 rfl, hs59.cellAt 2 rfl 0 rfl, hs59.cellAt 2 rfl 1 rfl, tc1_60⟩, ?_⟩
            (repeat (first | (apply t4_skip rfl (by rfl); try simp only [Act.put, List.setIfInBounds_toArray, List.set_cons_zero, List.set_cons_succ]) | (apply t4_float rfl (by rfl); (· (intro w' hS; go_simp <;> with_reducible rfl)); (try simp only [Act.put, List.setIfInBounds_toArray, List.set_cons_zero, List.set_cons_succ]))))
            refine t4_hard rfl (by rfl) (fun K hK => ?_)
            have hsW := hs59.hi
            have hlnw := HSN.out
            refine wp_append_accP _ _ _ _ rfl E_ints rfl HIN_62.out (ip_int1 (C := fun _ => False) HI9.out) (fun z h1 h2 => h2) ⟨w50.heap.size, 0, none⟩ 1 rfl (news1 (hs59.cellAt 3 rfl 0 rfl)) (by omega) ?_
            simp only [HSN.out]
            intro a8 c8 w8 hA8 hB8
            have hz8 := hB8.size
            have hs8 := hs59.butP hB8 (fun z hz => by have := hz.1; omega) (fun x hx hA => by have h1 := hA.1; have h2 := hA.2; simp at hx; rcases hx with rfl | rfl | rfl | rfl <;> (try simp only at h1 h2) <;> omega)
            have HIN8 := Lib.hid (AccP.wk hA8.tight (C := fun z => CA + 1 ≤ z ∧ z < w8.heap.size) (fun z hz => ⟨by
              rcases hz.1 with h | h | h
              · exact h.1
              · exact h.elim
              · rw [h]; (try simp); omega, hz.2⟩))
            clear hA8
            clear HIN_62
            have tc1_65 := cellB hB8 tc1_60 (by intro hA9; (try simp only at hA9); omega)
            clear tc1_60
            have HAC_66 := Lib.hid (AccP.butP HAC_61.out hB8 (fun z h1 h2 => by (try simp only at h1 h2); omega))
            clear HAC_61
            have HSR_67 := Lib.hid (Src.below (B := B) HSR_63.out (hB8.below (fun z hz => by (try simp only at hz); omega) (by (try simp); omega)))
            clear HSR_63
            have HTF_68 := Lib.hid (Ip.butP HTF_64.out hB8 (fun z h1 h2 => by (try simp only at h1 h2); omega))
            clear HTF_64
            refine hK _ _ ⟨⟨hs8.cellAt 0 rfl 0 rfl, hs8.cellAt 0 rfl 1 rfl, hs8.cellAt 1 rfl 0 rfl, hs8.cellAt 1 rfl 1 rfl, hs8.cellAt 2 rfl 0 rfl, hs8.cellAt 2 rfl 1 rfl, tc1_65⟩, ?_⟩
            (repeat (first | (apply t4_skip rfl (by rfl); try simp only [Act.put, List.setIfInBounds_toArray, List.set_cons_zero, List.set_cons_succ]) | (apply t4_float rfl (by rfl); (· (intro w' hS; go_simp <;> with_reducible rfl)); (try simp only [Act.put, List.setIfInBounds_toArray, List.set_cons_zero, List.set_cons_succ]))))
            refine t4_last rfl (by rfl) (fun K hK => ?_)
            have k0_0 := hs8.cellAt 0 rfl 0 rfl
            have k0_1 := hs8.cellAt 0 rfl 1 rfl
            have k1_0 := hs8.cellAt 1 rfl 0 rfl
            have k1_1 := hs8.cellAt 1 rfl 1 rfl
            have k2_0 := hs8.cellAt 2 rfl 0 rfl
            have k2_1 := hs8.cellAt 2 rfl 1 rfl
            have k3_0 := hs8.cellAt 3 rfl 0 rfl
            have hs69 := hs8.low (B' := CA + 1) (bx' := [(w.heap.size, #[.int .i64 0, .slice none 0 0], 29), (OA, #[.int .i64 U, .slice a m c], 29), (CA, #[.int .i64 j, .slice s p cs], 60)]) (by omega) (by (try simp) <;> omega) (fun x hx => by simp only [List.mem_cons, List.not_mem_nil, or_false] at hx; rcases hx with rfl | rfl | rfl <;> (refine ⟨?_, ?_⟩ <;> (try simp) <;> (try omega)))
            have f2_0 := hs69.freeAt 2 rfl 0
            have f2_1 := hs69.freeAt 2 rfl 1
            go_wp2_with fail
            refine t4_nil (NoPanic.normal ?_)
            have HINS := Lib.hid (AccP.wk (AccP.setCell HIN8.out (b := CA) (o := 1) (.slice a8 (p + 1) c8) (by simp <;> omega)) (C := fun z => CA + 1 ≤ z ∧ z < (w8.setCell ⟨CA, 1, none⟩ (.slice a8 (p + 1) c8)).heap.size) (fun z hz => by simpa [World.setCell] using hz))
            have hs70 := hs69.set (p := [_, _]) (by simp <;> omega) 1 (.slice a8 (p + 1) c8)
            have tc1_71 := (cell_put (b' := CA) (o' := 1) (u := .slice a8 (p + 1) c8) tc1_65 (by (try simp) <;> omega))
            clear tc1_65
            have HAC_72 := Lib.hid (AccP.setCell (b := CA) (o := 1) HAC_66.out (.slice a8 (p + 1) c8) (by intro hA9; (try simp only at hA9); omega))
            clear HAC_66
            have HSR_73 := Lib.hid (Src.below (B := B) HSR_67.out ((Below.refl B _).setCell (p := ⟨CA, 1, none⟩) (by (try simp) <;> omega) (.slice a8 (p + 1) c8)))
            clear HSR_67
            have HTF_74 := Lib.hid (Ip.setCell (b := CA) (o := 1) HTF_68.out (.slice a8 (p + 1) c8) (by intro hA9; (try simp only at hA9); omega))
            clear HTF_68
            clear k0_0 k0_1 k1_0 k1_1 k2_0 k2_1 k3_0
            have hz_wE : w8.heap.size ≤ ((w8.setCell ⟨CA, 1, none⟩ (.slice a8 (p + 1) c8))).heap.size := by simp [World.setCell]
            generalize hgen_wE : (w8.setCell ⟨CA, 1, none⟩ (.slice a8 (p + 1) c8)) = wE at *
            clear hgen_wE
            have k0_0 := hs70.cellAt 0 rfl 0 rfl
            have k0_1 := hs70.cellAt 0 rfl 1 rfl
            have k1_0 := hs70.cellAt 1 rfl 0 rfl
            have k1_1 := hs70.cellAt 1 rfl 1 rfl
            have k2_0 := hs70.cellAt 2 rfl 0 rfl
            have k2_1 := hs70.cellAt 2 rfl 1 rfl
            go_wp2_with fail
            go_roundw
            case rel =>
              refine ⟨p + 1, q - 1, wz51, a8, c8, sc ++ [r9], by omega, rfl, ⟨by simp [HSN.out], fun x hx => ?_⟩, ⟨⟨by omega, by omega⟩, HBT_56.out⟩, hs70, HAC_72.out, HINS.out, HSR_73.out.more (by omega), HTF_74.out, tc1_71⟩
              rcases List.mem_append.1 hx with hx | hx
              · exact hsc.out.2 x hx
              · simp only [List.mem_singleton] at hx; subst hx; exact ⟨h90, h92⟩
            case measure => simp [intOf]; omega
          · obtain rfl : q = 0 := by omega
            obtain rfl : p = AR := by omega
            have hnq : ¬ (0 : Int) < (0 : Int) := by omega
            have HIR := Lib.hid (ip_icD (k := (j : Int)) ⟨by omega, by omega⟩ HIN.out.ip)
            have hlnw := HLN.out
            have hsnw := HSN.out
            have q9 := (hs2.cellAt 1 rfl 1 rfl)
            have HCOK := Lib.hid (conOk_of (size := size) hj (by rw [hsnw]; exact HAR.out) hsc.out.2)
            have hb9 := belowA wr (.cells #[.int .i64 j, .slice s p cs] 60)
            have HS9 := Lib.hid (hs2.step hb9)
            have HR9 := Lib.hid (HSR.out.below (hb9.mono (by omega)))
            have HTF9 := Lib.hid (HTF.out.mono hb9)
            have HTC9 := Lib.hid (cellL hb9 tc1)
            have HSZ9 := Lib.hid (show (wr.alloc (.cells #[.int .i64 j, .slice s p cs] 60)).heap.size = wr.heap.size + 1 by simp)
            go_wp2_with (at_builtin; refine wpList_append_accP _ rfl _ _ _ rfl E_cons rfl (AccP.mono HAC.out (belowA _ _)) (Ip.mono HIR.out (belowA _ _)) (fun z h1 h2 => by (try simp only at h1 h2); omega) ⟨wr.heap.size, 0, none⟩ 1 rfl (news2 (cell_at_block (heap_alloc_new _ _)) (cell_at_block (heap_alloc_new _ _))) (by omega) ?_; simp only [HLN.out]; intro a8 c8 w8 hA8 hB8; have hs8 := HS9.out.butP hB8 (fun z hz => by have := hz.1; omega) (fun x hx hA => by have h1 := hA.1; have h2 := hA.2; simp at hx; rcases hx with rfl | rfl | rfl <;> (try simp only at h1 h2) <;> omega); have q2 := hs8.cellAt 1 rfl 1 rfl; have f2 := hs8.freeAt 1 rfl 1)
            have hz8 := hB8.size
            have hz9 : wr.heap.size < w8.heap.size := by have := HSZ9.out; omega
            have hs7 := hs8.low (B' := OA + 1) (bx' := [(w.heap.size, #[.int .i64 0, .slice none 0 0], 29), (OA, #[.int .i64 U, .slice a m c], 29)]) (by omega) (by omega) (fun x hx => ⟨by simp at hx ⊢; rcases hx with rfl | rfl <;> simp, by simp at hx; rcases hx with rfl | rfl <;> (try simp only) <;> omega⟩)
            have HQ8 := Lib.hid (hs7.set (p := [_]) (by simp <;> omega) 1 (.slice a8 (m + 1) c8))
            have HA9 := Lib.hid ((AccP.setCell (b := OA) (o := 1) hA8.tight (.slice a8 (m + 1) c8) (by intro hA9; have h1 := hA9.1; (try simp at h1); omega)).wk (C := fun z => OA + 1 ≤ z ∧ z < w8.heap.size) (fun z hz => by
              have h2 := hz.2
              have h3 := HSZ9.out
              rcases hz.1 with h | h | h
              · (try simp only at h); omega
              · (try simp only at h); omega
              · rw [h] at h2 ⊢; omega))
            have HR8 := Lib.hid ((HR9.out.below (hB8.below (fun z hz => by have := hz.1; omega) (by have := HSZ9.out; omega))).below ((Below.refl B w8).setCell (p := ⟨OA, 1, none⟩) (by (try simp); omega) (.slice a8 (m + 1) c8)))
            have HTF8 := Lib.hid (Ip.setCell (b := OA) (o := 1) (HTF9.out.butP hB8 (fun z h1 h2 => by (try simp only at h1 h2); omega)) (.slice a8 (m + 1) c8) (by intro hA9; (try simp only at hA9); omega))
            have HTC8 := Lib.hid (cell_put (b' := OA) (o' := 1) (u := .slice a8 (m + 1) c8) (cellB hB8 HTC9.out (by intro hA9; (try simp only at hA9); omega)) (by (try simp) <;> omega))
            have HSZ := Lib.hid (show (w8.setCell ⟨OA, 1, none⟩ (.slice a8 (m + 1) c8)).heap.size = w8.heap.size by simp [World.setCell])
            go_wp2_with fail
            go_roundw
            case measure => simp [intOf]; omega
            refine ⟨m + 1, n - 1, wz2, a8, c8, l ++ [((j : Int), sc)], by omega, rfl, ⟨by simp [hlnw], fun e he => ?_⟩, ⟨by omega, HBT.out⟩, HQ8.out, ?_, HR8.out.more (by omega), HTF8.out, HTC8.out⟩
            · rcases List.mem_append.1 he with he | he
              · exact hl.out.2 e he
              · simp only [List.mem_singleton] at he; subst he; exact HCOK.out
            · exact HA9.out.wk (fun z hz => by rw [HSZ.out]; exact hz)
      · have hrsI : ¬ (0 : Int) < rs.length := by omega
        have f0_0 := hs0.freeAt 0 rfl 0
        have f0_1 := hs0.freeAt 0 rfl 1
        go_wp2_with fail
        have HFR := Lib.hid (HAC.out.ip.fresh (lo := w.heap.size) (fun k hk => by have := hk.1; omega))
        have hs9 := (hs0.set (p := []) (by simp <;> omega) 0 (.int .i64 U)).set (p := []) (by simp <;> omega) 1 (.slice a m c)
        have x0 := hs9.cellAt 0 rfl 0 rfl
        have x1 := hs9.cellAt 0 rfl 1 rfl
        have HSF := Lib.hid ((HSR.out.below ((Below.refl B _).setCell (p := ⟨w.heap.size, 0, none⟩) (by simp; omega) (.int .i64 U))).below ((Below.refl B _).setCell (p := ⟨w.heap.size, 1, none⟩) (by simp; omega) (.slice a m c)))
        have HAS := AccP.setCell (AccP.setCell HAC.out (b := w.heap.size) (o := 0) (.int .i64 U) (by simp; omega)) (b := w.heap.size) (o := 1) (.slice a m c) (by simp; omega)
        refine bodyPost_ret (v := .agg #[.int .i64 U, .slice a m c]) (by simp [results, Tryz.results69, go_sem, x0, x1]) rfl ⟨U, .slice a m c, rfl, l, ?_, instOk_of HOK.out (by omega) (by rw [HLN.out]; omega) hl.out.2, ⟨hUm.2, by rw [HLN.out]; omega⟩, HSF.out.more (by omega), HBT.out.trans (but_of hs9.bel)⟩
        exact HAS.wk (fun k hk => by have := hk.1; omega)
    · have hltI : ¬ (0 : Int) < n := by omega
      have f0_0 := hs0.freeAt 0 rfl 0
      have f0_1 := hs0.freeAt 0 rfl 1
      go_wp2_with fail
      have HFR := Lib.hid (HAC.out.ip.fresh (lo := w.heap.size) (fun k hk => by have := hk.1; omega))
      have hs9 := (hs0.set (p := []) (by simp <;> omega) 0 (.int .i64 U)).set (p := []) (by simp <;> omega) 1 (.slice a m c)
      have x0 := hs9.cellAt 0 rfl 0 rfl
      have x1 := hs9.cellAt 0 rfl 1 rfl
      have HSF := Lib.hid ((HSR.out.below ((Below.refl B _).setCell (p := ⟨w.heap.size, 0, none⟩) (by simp; omega) (.int .i64 U))).below ((Below.refl B _).setCell (p := ⟨w.heap.size, 1, none⟩) (by simp; omega) (.slice a m c)))
      have HAS := AccP.setCell (AccP.setCell HAC.out (b := w.heap.size) (o := 0) (.int .i64 U) (by simp; omega)) (b := w.heap.size) (o := 1) (.slice a m c) (by simp; omega)
      refine bodyPost_ret (v := .agg #[.int .i64 U, .slice a m c]) (by simp [results, Tryz.results69, go_sem, x0, x1]) rfl ⟨U, .slice a m c, rfl, l, ?_, instOk_of HOK.out (by omega) (by rw [HLN.out]; omega) hl.out.2, ⟨hUm.2, by rw [HLN.out]; omega⟩, HSF.out.more (by omega), HBT.out.trans (but_of hs9.bel)⟩
      exact HAS.wk (fun k hk => by have := hk.1; omega)
end Go.Proofs.YtamkfnkikiekaaaGreat

