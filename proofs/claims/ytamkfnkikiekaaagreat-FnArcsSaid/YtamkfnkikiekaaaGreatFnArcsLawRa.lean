/-
  THE LAW FnArcs, WALKED.
-/
import Derived.Test.YtamkfnkikiekaaaGreatArcsCRa
import Derived.Test.YtamkfnkikiekaaaGreatArcsARa
import Derived.Test.YtamkfnkikiekaaaGreatDomBRa
import Derived.Test.YtamkfnkikiekaaaGreatArcFBRa
import Derived.Test.YtamkfnkikiekaaaGreatMakeArcsSRa
import Derived.Test.YtamkfnkikiekaaaGreatReplayRa
namespace Go.Proofs.YtamkfnkikiekaaaGreat
open Go.RowKit Go.Shelf Go.IntWalk
open Rep (Rd Own sz)
set_option linter.unusedSimpArgs false
set_option linter.unusedVariables false

set_option maxRecDepth 100000 in
set_option maxHeartbeats 16000000 in
theorem FnArcs_c (co mo : List Byte) (ac am : Option Addr) (nc nm cc cm : Nat) (w : World) (h0 : Rd w [.slice ac nc cc] co) (h1 : Rd w [.slice am nm cm] mo) :
    Calls Tryz.prog 3 #[.slice ac nc cc, .slice am nm cm] w fun e w' => e = .returned (.bool true) ∧ Below w.heap.size w w' := by
  have hl0 := (byt_of h0).2.2
  have hl1 := (byt_of h1).2.2
  have HCo := Lib.hid h0
  have HMo := Lib.hid h1
  clear h0 h1
  go_enter Tryz.func3, Tryz.ntmps3
  go_wp2_with fail
  refine (f6big_c ac nc cc _ hl0).mono ?_
  rintro e w1 ⟨rfl, rfl⟩
  cases hlg : (decide (4096 < nc)) with
  | true =>
    clear hlg
    go_wp2_with fail
    go_ret
    exact ⟨rfl, (St.start w).bel⟩
  | false =>
  clear hlg
  go_wp2_with fail
  refine (f6big_c am nm cm _ hl1).mono ?_
  rintro e w2 ⟨rfl, rfl⟩
  cases hlg : (decide (4096 < nm)) with
  | true =>
    clear hlg
    go_wp2_with fail
    go_ret
    exact ⟨rfl, (St.start w).bel⟩
  | false =>
  clear hlg
  go_wp2_with fail
  refine (P6Hard_c ac nc cc co _ (Rd.mono HCo.out (St.start w).bel)).mono ?_
  rintro e w3 ⟨size, vars, v, v2, rfl, rs, l, rdT, rdX, hok, hbw3⟩
  have hz_w3 : w.heap.size ≤ w3.heap.size := by have h9 := hbw3.size; (try simp at h9); omega
  have hs4 := (St.start w).step hbw3
  have hsz := (tmplOk_get (instOk_get hok).1).1
  have hvr := (instOk_get hok).2.1
  simp only at hsz hvr
  obtain ⟨SZ, rfl⟩ : ∃ SZ : Nat, size = (SZ : Int) := ⟨size.toNat, by omega⟩
  obtain ⟨U, rfl⟩ : ∃ U : Nat, vars = (U : Int) := ⟨vars.toNat, by omega⟩
  obtain ⟨aT, cT, rfl, _⟩ := rd_list (rd_cons rfl rdT).2
  obtain ⟨aX, cX, rfl, _⟩ := rd_list (rd_cons rfl rdX).2
  have HT := Lib.hid rdT
  have HX := Lib.hid rdX
  have HOK := Lib.hid hok
  clear rdT rdX hok
  have hz_wK : w3.heap.size ≤ (w3).heap.size := by simp
  generalize hgen_wK : w3 = wK at *
  clear hgen_wK
  go_upto_region 4 with fail
  have hs5 := hs4.alloc #[.int .i64 SZ, .slice aT rs.length cT] 26 (n := wK.heap.size) (by simp)
  have HT_6 := Lib.hid (Rd.mono HT.out (belowA _ (.cells #[.int .i64 SZ, .slice aT rs.length cT] 26)))
  clear HT
  have HX_7 := Lib.hid (Rd.mono HX.out (belowA _ (.cells #[.int .i64 SZ, .slice aT rs.length cT] 26)))
  clear HX
  have k0_0 := hs5.cellAt 0 rfl 0 rfl
  have k0_1 := hs5.cellAt 0 rfl 1 rfl
  have hs8 := hs5.alloc #[.int .i64 U, .slice aX l.length cX] 29 (n := wK.heap.size + 1) (by simp)
  have HT_9 := Lib.hid (Rd.mono HT_6.out (belowA _ (.cells #[.int .i64 U, .slice aX l.length cX] 29)))
  clear HT_6
  have HX_10 := Lib.hid (Rd.mono HX_7.out (belowA _ (.cells #[.int .i64 U, .slice aX l.length cX] 29)))
  clear HX_7
  clear k0_0 k0_1
  have k0_0 := hs8.cellAt 0 rfl 0 rfl
  have k0_1 := hs8.cellAt 0 rfl 1 rfl
  have k1_0 := hs8.cellAt 1 rfl 0 rfl
  have k1_1 := hs8.cellAt 1 rfl 1 rfl
  have hz_wA : wK.heap.size + 1 + 1 ≤ (((wK.alloc (.cells #[.int .i64 SZ, .slice aT rs.length cT] 26)).alloc (.cells #[.int .i64 U, .slice aX l.length cX] 29))).heap.size := by simp
  generalize hgen_wA : ((wK.alloc (.cells #[.int .i64 SZ, .slice aT rs.length cT] 26)).alloc (.cells #[.int .i64 U, .slice aX l.length cX] 29)) = wA at *
  clear hgen_wA
  go_wp2_with fail
  refine (FullDomains_c ((SZ : Int), rs) ((U : Int), l) _ _ _ _ _ HT_9.out HX_10.out HOK.out).mono ?_
  rintro e w11 ⟨vF, rfl, frF, hbw11⟩
  have hz_w11 : wA.heap.size ≤ w11.heap.size := by have h9 := hbw11.size; (try simp at h9); omega
  have hs12 := hs8.step hbw11
  have HT_13 := Lib.hid (Rd.mono HT_9.out hbw11)
  clear HT_9
  have HX_14 := Lib.hid (Rd.mono HX_10.out hbw11)
  clear HX_10
  clear k0_0 k0_1 k1_0 k1_1
  have k0_0 := hs12.cellAt 0 rfl 0 rfl
  have k0_1 := hs12.cellAt 0 rfl 1 rfl
  have k1_0 := hs12.cellAt 1 rfl 0 rfl
  have k1_1 := hs12.cellAt 1 rfl 1 rfl
  simp only [Int.toNat_natCast] at frF
  have HLAW := Lib.hid (arc_law (t := ((SZ : Int), rs)) (x := ((U : Int), l)) U SZ HOK.out rfl rfl)
  have hfew := HLAW.out.few
  generalize fullD SZ U = D0 at *
  generalize arcsF ((SZ : Int), rs) ((U : Int), l) D0 = AF at *
  obtain ⟨D, M⟩ := AF
  obtain ⟨aF, cF, rfl, _⟩ := rd_list frF.rd
  have HF := Lib.hid frF.rd
  clear frF
  go_wp2_with fail
  refine (MakeArcs_c ((SZ : Int), rs) _ _ ((U : Int), l) _ _ D0 _ _ HT_13.out HX_14.out HF.out (fun d hd => by have := HLAW.out.short0 d hd; omega)).mono ?_
  rintro e w15 ⟨u0, u1, rfl, frL, hbw15⟩
  have hz_w15 : w11.heap.size ≤ w15.heap.size := by have h9 := hbw15.size; (try simp at h9); omega
  have hs16 := hs12.step hbw15
  have HT_17 := Lib.hid (Rd.mono HT_13.out hbw15)
  clear HT_13
  have HX_18 := Lib.hid (Rd.mono HX_14.out hbw15)
  clear HX_14
  have HF_19 := Lib.hid (Rd.mono HF.out hbw15)
  clear HF
  clear k0_0 k0_1 k1_0 k1_1
  have k0_0 := hs16.cellAt 0 rfl 0 rfl
  have k0_1 := hs16.cellAt 0 rfl 1 rfl
  have k1_0 := hs16.cellAt 1 rfl 0 rfl
  have k1_1 := hs16.cellAt 1 rfl 1 rfl
  rw [HLAW.out.e0] at frL ⊢
  have zL := rd_cons rfl frL.rd
  obtain ⟨aL, cL, rfl, _⟩ := rd_list zL.1
  obtain ⟨aN, cN, rfl, _⟩ := rd_list zL.2
  have HL := Lib.hid zL.1
  have HN := Lib.hid zL.2
  clear frL zL
  go_wp2_with fail
  refine (sMakeArcs_c ((SZ : Int), rs) _ _ ((U : Int), l) _ _ D0 _ _ HT_17.out HX_18.out HF_19.out (fun d hd => by have := HLAW.out.short0 d hd; omega)).mono ?_
  rintro e w20 ⟨u0, u1, rfl, frL, hbw20⟩
  have hz_w20 : w15.heap.size ≤ w20.heap.size := by have h9 := hbw20.size; (try simp at h9); omega
  have hs21 := hs16.step hbw20
  have HT_22 := Lib.hid (Rd.mono HT_17.out hbw20)
  clear HT_17
  have HX_23 := Lib.hid (Rd.mono HX_18.out hbw20)
  clear HX_18
  have HF_24 := Lib.hid (Rd.mono HF_19.out hbw20)
  clear HF_19
  have HL_25 := Lib.hid (Rd.mono HL.out hbw20)
  clear HL
  have HN_26 := Lib.hid (Rd.mono HN.out hbw20)
  clear HN
  clear k0_0 k0_1 k1_0 k1_1
  have k0_0 := hs21.cellAt 0 rfl 0 rfl
  have k0_1 := hs21.cellAt 0 rfl 1 rfl
  have k1_0 := hs21.cellAt 1 rfl 0 rfl
  have k1_1 := hs21.cellAt 1 rfl 1 rfl
  rw [HLAW.out.e0] at frL ⊢
  have zL := rd_cons rfl frL.rd
  obtain ⟨aE, cE, rfl, _⟩ := rd_list zL.1
  obtain ⟨aM, cM, rfl, _⟩ := rd_list zL.2
  have HE := Lib.hid zL.1
  have HM := Lib.hid zL.2
  clear frL zL
  simp only
  go_wp2_with fail
  refine (SameLists_t D _ _ _ HL_25.out HE.out).mono ?_
  rintro e w27 ⟨rfl, hbw27⟩
  have hz_w27 : w20.heap.size ≤ w27.heap.size := by have h9 := hbw27.size; (try simp at h9); omega
  have hs28 := hs21.step hbw27
  have HT_29 := Lib.hid (Rd.mono HT_22.out hbw27)
  clear HT_22
  have HX_30 := Lib.hid (Rd.mono HX_23.out hbw27)
  clear HX_23
  have HF_31 := Lib.hid (Rd.mono HF_24.out hbw27)
  clear HF_24
  have HL_32 := Lib.hid (Rd.mono HL_25.out hbw27)
  clear HL_25
  have HN_33 := Lib.hid (Rd.mono HN_26.out hbw27)
  clear HN_26
  have HE_34 := Lib.hid (Rd.mono HE.out hbw27)
  clear HE
  have HM_35 := Lib.hid (Rd.mono HM.out hbw27)
  clear HM
  clear k0_0 k0_1 k1_0 k1_1
  have k0_0 := hs28.cellAt 0 rfl 0 rfl
  have k0_1 := hs28.cellAt 0 rfl 1 rfl
  have k1_0 := hs28.cellAt 1 rfl 0 rfl
  have k1_1 := hs28.cellAt 1 rfl 1 rfl
  have hmm : ((M.length : Int) != (M.length : Int)) = false := by simp
  go_wp2_with fail
  refine (ValidDomains_c ((SZ : Int), rs) _ _ ((U : Int), l) _ _ D _ _ HT_29.out HX_30.out HE_34.out (fun d hd => by have := HLAW.out.short d hd; omega)).mono ?_
  rintro e w36 ⟨rfl, hbw36⟩
  have hz_w36 : w27.heap.size ≤ w36.heap.size := by have h9 := hbw36.size; (try simp at h9); omega
  have hs37 := hs28.step hbw36
  have HT_38 := Lib.hid (Rd.mono HT_29.out hbw36)
  clear HT_29
  have HX_39 := Lib.hid (Rd.mono HX_30.out hbw36)
  clear HX_30
  have HF_40 := Lib.hid (Rd.mono HF_31.out hbw36)
  clear HF_31
  have HL_41 := Lib.hid (Rd.mono HL_32.out hbw36)
  clear HL_32
  have HN_42 := Lib.hid (Rd.mono HN_33.out hbw36)
  clear HN_33
  have HE_43 := Lib.hid (Rd.mono HE_34.out hbw36)
  clear HE_34
  have HM_44 := Lib.hid (Rd.mono HM_35.out hbw36)
  clear HM_35
  clear k0_0 k0_1 k1_0 k1_1
  have k0_0 := hs37.cellAt 0 rfl 0 rfl
  have k0_1 := hs37.cellAt 0 rfl 1 rfl
  have k1_0 := hs37.cellAt 1 rfl 0 rfl
  have k1_1 := hs37.cellAt 1 rfl 1 rfl
  rw [HLAW.out.valid]
  go_wp2_with fail
  go_loopw [15] (fun i wl => ∃ k : Nat, k ≤ M.length ∧ i = .int .i64 k ∧ Hid (Below (w36).heap.size w36 wl)) (fun i _ => M.length - (intOf i).toNat)
  case atStart => exact ⟨0, Nat.zero_le _, rfl, Below.refl _ _⟩
  case round =>
  obtain ⟨k, hk, rfl, hbl⟩ := hrel
  have HBC := hbl
  have hbl2 := hbl.out
  have hz_wr : w36.heap.size ≤ wr.heap.size := by have h9 := hbl2.size; (try simp at h9); omega
  have hs45 := hs37.step hbl2
  have HT_46 := Lib.hid (Rd.mono HT_38.out hbl2)
  clear HT_38
  have HX_47 := Lib.hid (Rd.mono HX_39.out hbl2)
  clear HX_39
  have HF_48 := Lib.hid (Rd.mono HF_40.out hbl2)
  clear HF_40
  have HL_49 := Lib.hid (Rd.mono HL_41.out hbl2)
  clear HL_41
  have HN_50 := Lib.hid (Rd.mono HN_42.out hbl2)
  clear HN_42
  have HE_51 := Lib.hid (Rd.mono HE_43.out hbl2)
  clear HE_43
  have HM_52 := Lib.hid (Rd.mono HM_44.out hbl2)
  clear HM_44
  clear k0_0 k0_1 k1_0 k1_1
  have k0_0 := hs45.cellAt 0 rfl 0 rfl
  have k0_1 := hs45.cellAt 0 rfl 1 rfl
  have k1_0 := hs45.cellAt 1 rfl 0 rfl
  have k1_1 := hs45.cellAt 1 rfl 1 rfl
  clear hbl2 hbl
  by_cases hlt : k < M.length
  · have hkl : (k : Int) < M.length := by omega
    obtain ⟨bN, oN, rfl, n0, n1, n2, _⟩ := step_cells HN_50.out k hlt
    obtain ⟨bM, oM, rfl, m0, m1, m2, _⟩ := step_cells HM_52.out k hlt
    generalize M[k] = EK at n0 n1 n2 m0 m1 m2
    obtain ⟨e0, e1, e2⟩ := EK
    simp only at n0 n1 n2 m0 m1 m2
    go_upto_region 12 with fail
    refine wp_region_noPanic (wp_region_tree4 (fun w' => w'.cell? ⟨wK.heap.size, 0, none⟩ = some (.int .i64 SZ) ∧ w'.cell? ⟨wK.heap.size, 1, none⟩ = some (.slice aT rs.length cT) ∧ w'.cell? ⟨wK.heap.size + 1, 0, none⟩ = some (.int .i64 U) ∧ w'.cell? ⟨wK.heap.size + 1, 1, none⟩ = some (.slice aX l.length cX) ∧ w'.cell? ⟨bN, oN + k * 3, none⟩ = some (.int .i64 e0) ∧ w'.cell? ⟨bN, oN + k * 3 + 1, none⟩ = some (.int .i64 e1) ∧ w'.cell? ⟨bN, oN + k * 3 + 2, none⟩ = some (.int .i64 e2) ∧ w'.cell? ⟨bM, oM + k * 3, none⟩ = some (.int .i64 e0) ∧ w'.cell? ⟨bM, oM + k * 3 + 1, none⟩ = some (.int .i64 e1) ∧ w'.cell? ⟨bM, oM + k * 3 + 2, none⟩ = some (.int .i64 e2)) (.float 0 (.float 1 (.float 2 (.float 3 (.float 4 (.float 5 (.float 6 (.float 7 (.float 8 .nil))))))))) (by kernel_rfl) (by kernel_rfl) (by kernel_rfl) rfl ?_ (fun _ _ _ _ _ h => h) ?_)
    · exact ⟨(hs45.drew).cellAt 0 rfl 0 rfl, (hs45.drew).cellAt 0 rfl 1 rfl, (hs45.drew).cellAt 1 rfl 0 rfl, (hs45.drew).cellAt 1 rfl 1 rfl, cellL (belowD _) n0, cellL (belowD _) n1, cellL (belowD _) n2, cellL (belowD _) m0, cellL (belowD _) m1, cellL (belowD _) m2⟩
    have hs53 := hs45.drew
    have n0_54 := cellL (belowD _) n0
    clear n0
    have n1_55 := cellL (belowD _) n1
    clear n1
    have n2_56 := cellL (belowD _) n2
    clear n2
    have m0_57 := cellL (belowD _) m0
    clear m0
    have m1_58 := cellL (belowD _) m1
    clear m1
    have m2_59 := cellL (belowD _) m2
    clear m2
    have HT_60 := Lib.hid (Rd.mono HT_46.out (belowD _))
    clear HT_46
    have HX_61 := Lib.hid (Rd.mono HX_47.out (belowD _))
    clear HX_47
    have HF_62 := Lib.hid (Rd.mono HF_48.out (belowD _))
    clear HF_48
    have HL_63 := Lib.hid (Rd.mono HL_49.out (belowD _))
    clear HL_49
    have HN_64 := Lib.hid (Rd.mono HN_50.out (belowD _))
    clear HN_50
    have HE_65 := Lib.hid (Rd.mono HE_51.out (belowD _))
    clear HE_51
    have HM_66 := Lib.hid (Rd.mono HM_52.out (belowD _))
    clear HM_52
    have HBC_67 := Lib.hid (HBC.out.trans (((belowD _)).mono HBC.out.size))
    clear HBC
    clear k0_0 k0_1 k1_0 k1_1
    have hz_wd68 : wr.heap.size ≤ (wr.drew).heap.size := by simp
    generalize hgen_wd68 : wr.drew = wd68 at *
    have HG_wd68 := Lib.hid hgen_wd68
    clear hgen_wd68
    (repeat (first | (apply t4_skip rfl (by rfl); try simp only [Act.put, List.setIfInBounds_toArray, List.set_cons_zero, List.set_cons_succ]) | (apply t4_float rfl (by rfl); (· (intro w' hS; go_simp <;> with_reducible rfl)); (try simp only [Act.put, List.setIfInBounds_toArray, List.set_cons_zero, List.set_cons_succ]))))
    have k0_0 := hs53.cellAt 0 rfl 0 rfl
    have k0_1 := hs53.cellAt 0 rfl 1 rfl
    have k1_0 := hs53.cellAt 1 rfl 0 rfl
    have k1_1 := hs53.cellAt 1 rfl 1 rfl
    refine t4_nil (NoPanic.normal ?_)
    go_wp2_with fail
    go_roundw
    case rel => exact ⟨k + 1, hlt, by go_num, HBC_67.out⟩
    case measure => simp [intOf]; omega
  obtain rfl : k = M.length := by omega
  have hnl : ¬ ((M.length : Int) < (M.length : Int)) := by omega
  clear HBC hlt hk
  go_wp2_with fail
  refine (ReplayArcs_c ((SZ : Int), rs) _ _ ((U : Int), l) _ _ D0 _ M _ _ HT_46.out HX_47.out HF_48.out HM_52.out (fun d hd => by have := HLAW.out.short0 d hd; omega) (by have := HLAW.out.few; omega)).mono ?_
  rintro e w69 ⟨u0, rfl, frB, hbw69⟩
  have hz_w69 : wr.heap.size ≤ w69.heap.size := by have h9 := hbw69.size; (try simp at h9); omega
  have hs70 := hs45.step hbw69
  have HT_71 := Lib.hid (Rd.mono HT_46.out hbw69)
  clear HT_46
  have HX_72 := Lib.hid (Rd.mono HX_47.out hbw69)
  clear HX_47
  have HF_73 := Lib.hid (Rd.mono HF_48.out hbw69)
  clear HF_48
  have HL_74 := Lib.hid (Rd.mono HL_49.out hbw69)
  clear HL_49
  have HN_75 := Lib.hid (Rd.mono HN_50.out hbw69)
  clear HN_50
  have HE_76 := Lib.hid (Rd.mono HE_51.out hbw69)
  clear HE_51
  have HM_77 := Lib.hid (Rd.mono HM_52.out hbw69)
  clear HM_52
  clear k0_0 k0_1 k1_0 k1_1
  have k0_0 := hs70.cellAt 0 rfl 0 rfl
  have k0_1 := hs70.cellAt 0 rfl 1 rfl
  have k1_0 := hs70.cellAt 1 rfl 0 rfl
  have k1_1 := hs70.cellAt 1 rfl 1 rfl
  rw [HLAW.out.rep] at frB ⊢
  simp only at frB ⊢
  obtain ⟨aB, cB, rfl, _⟩ := rd_list frB.rd
  have HBk := Lib.hid frB.rd
  clear frB
  go_wp2_with fail
  refine (IsArcConsistent_c ((SZ : Int), rs) _ _ ((U : Int), l) _ _ D _ _ HT_71.out HX_72.out HE_76.out (fun d hd => by have := HLAW.out.short d hd; omega)).mono ?_
  rintro e w78 ⟨rfl, hbw78⟩
  have hz_w78 : w69.heap.size ≤ w78.heap.size := by have h9 := hbw78.size; (try simp at h9); omega
  have hs79 := hs70.step hbw78
  have HT_80 := Lib.hid (Rd.mono HT_71.out hbw78)
  clear HT_71
  have HX_81 := Lib.hid (Rd.mono HX_72.out hbw78)
  clear HX_72
  have HF_82 := Lib.hid (Rd.mono HF_73.out hbw78)
  clear HF_73
  have HL_83 := Lib.hid (Rd.mono HL_74.out hbw78)
  clear HL_74
  have HN_84 := Lib.hid (Rd.mono HN_75.out hbw78)
  clear HN_75
  have HE_85 := Lib.hid (Rd.mono HE_76.out hbw78)
  clear HE_76
  have HM_86 := Lib.hid (Rd.mono HM_77.out hbw78)
  clear HM_77
  have HBk_87 := Lib.hid (Rd.mono HBk.out hbw78)
  clear HBk
  clear k0_0 k0_1 k1_0 k1_1
  have k0_0 := hs79.cellAt 0 rfl 0 rfl
  have k0_1 := hs79.cellAt 0 rfl 1 rfl
  have k1_0 := hs79.cellAt 1 rfl 0 rfl
  have k1_1 := hs79.cellAt 1 rfl 1 rfl
  rw [HLAW.out.isc]
  simp only
  go_wp2_with fail
  refine (MakeArcs_c ((SZ : Int), rs) _ _ ((U : Int), l) _ _ D _ _ HT_80.out HX_81.out HE_85.out (fun d hd => by have := HLAW.out.short d hd; omega)).mono ?_
  rintro e w88 ⟨u0, u1, rfl, frL, hbw88⟩
  have hz_w88 : w78.heap.size ≤ w88.heap.size := by have h9 := hbw88.size; (try simp at h9); omega
  have hs89 := hs79.step hbw88
  have HT_90 := Lib.hid (Rd.mono HT_80.out hbw88)
  clear HT_80
  have HX_91 := Lib.hid (Rd.mono HX_81.out hbw88)
  clear HX_81
  have HF_92 := Lib.hid (Rd.mono HF_82.out hbw88)
  clear HF_82
  have HL_93 := Lib.hid (Rd.mono HL_83.out hbw88)
  clear HL_83
  have HN_94 := Lib.hid (Rd.mono HN_84.out hbw88)
  clear HN_84
  have HE_95 := Lib.hid (Rd.mono HE_85.out hbw88)
  clear HE_85
  have HM_96 := Lib.hid (Rd.mono HM_86.out hbw88)
  clear HM_86
  have HBk_97 := Lib.hid (Rd.mono HBk_87.out hbw88)
  clear HBk_87
  clear k0_0 k0_1 k1_0 k1_1
  have k0_0 := hs89.cellAt 0 rfl 0 rfl
  have k0_1 := hs89.cellAt 0 rfl 1 rfl
  have k1_0 := hs89.cellAt 1 rfl 0 rfl
  have k1_1 := hs89.cellAt 1 rfl 1 rfl
  rw [HLAW.out.again] at frL ⊢
  simp only at frL ⊢
  have zL := rd_cons rfl frL.rd
  obtain ⟨aG, cG, rfl, _⟩ := rd_list zL.1
  obtain ⟨aO, cO, rfl, _⟩ := rd_list zL.2
  have HG := Lib.hid zL.1
  clear frL zL
  go_wp2_with fail
  refine (SameLists_t D _ _ _ HBk_97.out HE_95.out).mono ?_
  rintro e w98 ⟨rfl, hbw98⟩
  have hz_w98 : w88.heap.size ≤ w98.heap.size := by have h9 := hbw98.size; (try simp at h9); omega
  have hs99 := hs89.step hbw98
  have HT_100 := Lib.hid (Rd.mono HT_90.out hbw98)
  clear HT_90
  have HX_101 := Lib.hid (Rd.mono HX_91.out hbw98)
  clear HX_91
  have HF_102 := Lib.hid (Rd.mono HF_92.out hbw98)
  clear HF_92
  have HL_103 := Lib.hid (Rd.mono HL_93.out hbw98)
  clear HL_93
  have HN_104 := Lib.hid (Rd.mono HN_94.out hbw98)
  clear HN_94
  have HE_105 := Lib.hid (Rd.mono HE_95.out hbw98)
  clear HE_95
  have HM_106 := Lib.hid (Rd.mono HM_96.out hbw98)
  clear HM_96
  have HBk_107 := Lib.hid (Rd.mono HBk_97.out hbw98)
  clear HBk_97
  have HG_108 := Lib.hid (Rd.mono HG.out hbw98)
  clear HG
  clear k0_0 k0_1 k1_0 k1_1
  have k0_0 := hs99.cellAt 0 rfl 0 rfl
  have k0_1 := hs99.cellAt 0 rfl 1 rfl
  have k1_0 := hs99.cellAt 1 rfl 0 rfl
  have k1_1 := hs99.cellAt 1 rfl 1 rfl
  go_wp2_with fail
  refine (SameLists_t D _ _ _ HG_108.out HE_105.out).mono ?_
  rintro e w109 ⟨rfl, hbw109⟩
  have hz_w109 : w98.heap.size ≤ w109.heap.size := by have h9 := hbw109.size; (try simp at h9); omega
  have hs110 := hs99.step hbw109
  have HT_111 := Lib.hid (Rd.mono HT_100.out hbw109)
  clear HT_100
  have HX_112 := Lib.hid (Rd.mono HX_101.out hbw109)
  clear HX_101
  have HF_113 := Lib.hid (Rd.mono HF_102.out hbw109)
  clear HF_102
  have HL_114 := Lib.hid (Rd.mono HL_103.out hbw109)
  clear HL_103
  have HN_115 := Lib.hid (Rd.mono HN_104.out hbw109)
  clear HN_104
  have HE_116 := Lib.hid (Rd.mono HE_105.out hbw109)
  clear HE_105
  have HM_117 := Lib.hid (Rd.mono HM_106.out hbw109)
  clear HM_106
  have HBk_118 := Lib.hid (Rd.mono HBk_107.out hbw109)
  clear HBk_107
  have HG_119 := Lib.hid (Rd.mono HG_108.out hbw109)
  clear HG_108
  clear k0_0 k0_1 k1_0 k1_1
  have k0_0 := hs110.cellAt 0 rfl 0 rfl
  have k0_1 := hs110.cellAt 0 rfl 1 rfl
  have k1_0 := hs110.cellAt 1 rfl 0 rfl
  have k1_1 := hs110.cellAt 1 rfl 1 rfl
  go_wp2_with fail
  refine (sAllSolutions_c ((SZ : Int), rs) ((U : Int), l) _ _ _ _ _ HT_111.out HX_112.out).mono ?_
  rintro e w120 ⟨vA, rfl, frA, hbw120⟩
  have hz_w120 : w109.heap.size ≤ w120.heap.size := by have h9 := hbw120.size; (try simp at h9); omega
  have hs121 := hs110.step hbw120
  have HT_122 := Lib.hid (Rd.mono HT_111.out hbw120)
  clear HT_111
  have HX_123 := Lib.hid (Rd.mono HX_112.out hbw120)
  clear HX_112
  have HF_124 := Lib.hid (Rd.mono HF_113.out hbw120)
  clear HF_113
  have HL_125 := Lib.hid (Rd.mono HL_114.out hbw120)
  clear HL_114
  have HN_126 := Lib.hid (Rd.mono HN_115.out hbw120)
  clear HN_115
  have HE_127 := Lib.hid (Rd.mono HE_116.out hbw120)
  clear HE_116
  have HM_128 := Lib.hid (Rd.mono HM_117.out hbw120)
  clear HM_117
  have HBk_129 := Lib.hid (Rd.mono HBk_118.out hbw120)
  clear HBk_118
  have HG_130 := Lib.hid (Rd.mono HG_119.out hbw120)
  clear HG_119
  clear k0_0 k0_1 k1_0 k1_1
  have k0_0 := hs121.cellAt 0 rfl 0 rfl
  have k0_1 := hs121.cellAt 0 rfl 1 rfl
  have k1_0 := hs121.cellAt 1 rfl 0 rfl
  have k1_1 := hs121.cellAt 1 rfl 1 rfl
  have HSND := Lib.hid HLAW.out.sound
  have HCOD := Lib.hid HLAW.out.code
  generalize allSF ((SZ : Int), rs) ((U : Int), l) = AS at *
  obtain ⟨AL, CD⟩ := AS
  simp only at frA HSND HCOD ⊢
  obtain ⟨aA, cA, rfl, hslA⟩ := rd_list frA.rd
  have hbA := (rdSl_len hslA).2
  unfold maxLen at hbA
  have HA := Lib.hid frA.rd
  clear frA hslA
  clear HBk_129
  clear HG_130
  clear HN_126
  clear HL_125
  go_wp2_with fail
  go_loopw [26] (fun iv wl => ∃ i : Nat, i ≤ AL.length ∧ iv = .int .i64 i ∧ Hid (Below (w120).heap.size w120 wl)) (fun iv _ => AL.length - (intOf iv).toNat)
  case atStart => exact ⟨0, Nat.zero_le _, rfl, Below.refl _ _⟩
  case round =>
  obtain ⟨i, hi, rfl, hbl⟩ := hrel
  obtain ⟨wO, hwO⟩ : ∃ x, x = wr := ⟨_, rfl⟩
  subst hwO
  have HBD := hbl
  have hbl2 := hbl.out
  have hz_wO : w120.heap.size ≤ wO.heap.size := by have h9 := hbl2.size; (try simp at h9); omega
  have hs131 := hs121.step hbl2
  have HT_132 := Lib.hid (Rd.mono HT_122.out hbl2)
  clear HT_122
  have HX_133 := Lib.hid (Rd.mono HX_123.out hbl2)
  clear HX_123
  have HF_134 := Lib.hid (Rd.mono HF_124.out hbl2)
  clear HF_124
  have HE_135 := Lib.hid (Rd.mono HE_127.out hbl2)
  clear HE_127
  have HM_136 := Lib.hid (Rd.mono HM_128.out hbl2)
  clear HM_128
  have HA_137 := Lib.hid (Rd.mono HA.out hbl2)
  clear HA
  clear k0_0 k0_1 k1_0 k1_1
  have k0_0 := hs131.cellAt 0 rfl 0 rfl
  have k0_1 := hs131.cellAt 0 rfl 1 rfl
  have k1_0 := hs131.cellAt 1 rfl 0 rfl
  have k1_1 := hs131.cellAt 1 rfl 1 rfl
  clear hbl2 hbl
  by_cases hlt : i < AL.length
  · have hil : (i : Int) < AL.length := by omega
    obtain ⟨_, _, e1, hsl⟩ := rd_list HA_137.out
    simp only [Value.slice.injEq] at e1
    obtain ⟨rfl, -, rfl⟩ := e1
    obtain ⟨bA, oA, y, rfl, qA, hy⟩ := rdSl_one rfl hsl i hlt
    have hS := HSND.out AL[i] (List.getElem_mem hlt)
    generalize AL[i] = Y at hS hy
    obtain ⟨aY, cY, rfl, _⟩ := rd_list hy
    obtain ⟨hYL, hYS⟩ := hS
    have HYN := Lib.hid hYL
    rw [hYL] at hy qA
    have HYS := Lib.hid hYS
    have HY := Lib.hid hy
    clear hsl hy hYL hYS
    go_wp2_with fail
    go_loopw [27] (fun iv wl => ∃ v : Nat, v ≤ U ∧ iv = .int .i64 v ∧ Hid (Below (wO).heap.size wO wl)) (fun iv _ => U - (intOf iv).toNat)
    case atStart => exact ⟨0, Nat.zero_le _, rfl, Below.refl _ _⟩
    case round =>
      obtain ⟨v, hv, rfl, hbl⟩ := hrel
      have HBI := hbl
      have hbl2 := hbl.out
      have hz_wr : wO.heap.size ≤ wr.heap.size := by have h9 := hbl2.size; (try simp at h9); omega
      have hs138 := hs131.step hbl2
      have qA_139 := cellL hbl2 qA
      clear qA
      have HT_140 := Lib.hid (Rd.mono HT_132.out hbl2)
      clear HT_132
      have HX_141 := Lib.hid (Rd.mono HX_133.out hbl2)
      clear HX_133
      have HF_142 := Lib.hid (Rd.mono HF_134.out hbl2)
      clear HF_134
      have HE_143 := Lib.hid (Rd.mono HE_135.out hbl2)
      clear HE_135
      have HM_144 := Lib.hid (Rd.mono HM_136.out hbl2)
      clear HM_136
      have HA_145 := Lib.hid (Rd.mono HA_137.out hbl2)
      clear HA_137
      have HBD_146 := Lib.hid (HBD.out.trans ((hbl2).mono HBD.out.size))
      clear HBD
      have HY_147 := Lib.hid (Rd.mono HY.out hbl2)
      clear HY
      clear k0_0 k0_1 k1_0 k1_1
      have k0_0 := hs138.cellAt 0 rfl 0 rfl
      have k0_1 := hs138.cellAt 0 rfl 1 rfl
      have k1_0 := hs138.cellAt 1 rfl 0 rfl
      have k1_1 := hs138.cellAt 1 rfl 1 rfl
      clear hbl2 hbl
      by_cases hvU : v < U
      · have hvI : (v : Int) < U := by omega
        have hlD := HLAW.out.len
        have hvD : v < D.length := by omega
        obtain ⟨_, _, e1, hsl⟩ := rd_list HE_143.out
        simp only [Value.slice.injEq] at e1
        obtain ⟨rfl, -, rfl⟩ := e1
        obtain ⟨bE, oE, dv, rfl, qE, hdv⟩ := rdSl_one rfl hsl v hvD
        obtain ⟨bY, oY, rfl, qY, hIY⟩ := rd_int_at HY_147.out v (by rw [HYN.out]; exact hvU)
        have hh := HYS.out v hvU
        have g1 : D.getD v [] = D[v] := by simp [List.getD, hvD]
        have g2 : Y.getD v 0 = Y[v]'(by rw [HYN.out]; exact hvU) := by simp [List.getD, HYN.out, hvU]
        rw [g1, g2] at hh
        clear g1 g2 hsl
        generalize D[v] = DV at *
        generalize Y[v]'(by rw [HYN.out]; exact hvU) = YV at *
        obtain ⟨aD, cD, rfl, _⟩ := rd_list hdv
        have HHH := Lib.hid hh
        have HDV := Lib.hid hdv
        clear hh hdv hlD
        go_upto_region 26 with fail
        refine wp_region_noPanic (wp_region_tree4 (fun w' => w'.cell? ⟨wK.heap.size, 0, none⟩ = some (.int .i64 SZ) ∧ w'.cell? ⟨wK.heap.size, 1, none⟩ = some (.slice aT rs.length cT) ∧ w'.cell? ⟨wK.heap.size + 1, 0, none⟩ = some (.int .i64 U) ∧ w'.cell? ⟨wK.heap.size + 1, 1, none⟩ = some (.slice aX l.length cX) ∧ w'.cell? ⟨bA, oA + i, none⟩ = some (.slice (some ⟨bY, oY, none⟩) U cY) ∧ w'.cell? ⟨bE, oE + v, none⟩ = some (.slice aD DV.length cD) ∧ w'.cell? ⟨bY, oY + v, none⟩ = some (.int .i64 YV)) (.float 0 (.float 1 (.float 2 (.float 3 (.float 4 (.float 5 (.float 6 (.float 7 (.float 8 (.float 9 (.float 10 (.hard 11 (.float 12 .nil))))))))))))) (by kernel_rfl) (by kernel_rfl) (by kernel_rfl) rfl ?_ (fun _ _ _ _ _ h => h) ?_)
        · exact ⟨(hs138.drew).cellAt 0 rfl 0 rfl, (hs138.drew).cellAt 0 rfl 1 rfl, (hs138.drew).cellAt 1 rfl 0 rfl, (hs138.drew).cellAt 1 rfl 1 rfl, cellL (belowD _) qA_139, cellL (belowD _) qE, cellL (belowD _) qY⟩
        have hs148 := hs138.drew
        have qA_149 := cellL (belowD _) qA_139
        clear qA_139
        have qE_150 := cellL (belowD _) qE
        clear qE
        have qY_151 := cellL (belowD _) qY
        clear qY
        have HT_152 := Lib.hid (Rd.mono HT_140.out (belowD _))
        clear HT_140
        have HX_153 := Lib.hid (Rd.mono HX_141.out (belowD _))
        clear HX_141
        have HF_154 := Lib.hid (Rd.mono HF_142.out (belowD _))
        clear HF_142
        have HE_155 := Lib.hid (Rd.mono HE_143.out (belowD _))
        clear HE_143
        have HM_156 := Lib.hid (Rd.mono HM_144.out (belowD _))
        clear HM_144
        have HA_157 := Lib.hid (Rd.mono HA_145.out (belowD _))
        clear HA_145
        have HBD_158 := Lib.hid (HBD_146.out.trans (((belowD _)).mono HBD_146.out.size))
        clear HBD_146
        have HY_159 := Lib.hid (Rd.mono HY_147.out (belowD _))
        clear HY_147
        have HBI_160 := Lib.hid (HBI.out.trans (((belowD _)).mono HBI.out.size))
        clear HBI
        have HDV_161 := Lib.hid (Rd.mono HDV.out (belowD _))
        clear HDV
        clear k0_0 k0_1 k1_0 k1_1
        have hz_wd162 : wr.heap.size ≤ (wr.drew).heap.size := by simp
        generalize hgen_wd162 : wr.drew = wd162 at *
        have HG_wd162 := Lib.hid hgen_wd162
        clear hgen_wd162
        (repeat (first | (apply t4_skip rfl (by rfl); try simp only [Act.put, List.setIfInBounds_toArray, List.set_cons_zero, List.set_cons_succ]) | (apply t4_float rfl (by rfl); (· (intro w' hS; go_simp <;> with_reducible rfl)); (try simp only [Act.put, List.setIfInBounds_toArray, List.set_cons_zero, List.set_cons_succ]))))
        refine t4_hard rfl (by rfl) (fun K hK => ?_)
        go_wp2_with (go_at_call 14; refine (HasNumber_c DV _ YV _ HDV_161.out).mono ?_; rintro e w163 ⟨rfl, hbw163⟩)
        have hz_w163 : wd162.heap.size ≤ w163.heap.size := by have h9 := hbw163.size; (try simp at h9); omega
        have hs164 := hs148.step hbw163
        have qA_165 := cellL hbw163 qA_149
        clear qA_149
        have qE_166 := cellL hbw163 qE_150
        clear qE_150
        have qY_167 := cellL hbw163 qY_151
        clear qY_151
        have HT_168 := Lib.hid (Rd.mono HT_152.out hbw163)
        clear HT_152
        have HX_169 := Lib.hid (Rd.mono HX_153.out hbw163)
        clear HX_153
        have HF_170 := Lib.hid (Rd.mono HF_154.out hbw163)
        clear HF_154
        have HE_171 := Lib.hid (Rd.mono HE_155.out hbw163)
        clear HE_155
        have HM_172 := Lib.hid (Rd.mono HM_156.out hbw163)
        clear HM_156
        have HA_173 := Lib.hid (Rd.mono HA_157.out hbw163)
        clear HA_157
        have HBD_174 := Lib.hid (HBD_158.out.trans ((hbw163).mono HBD_158.out.size))
        clear HBD_158
        have HY_175 := Lib.hid (Rd.mono HY_159.out hbw163)
        clear HY_159
        have HBI_176 := Lib.hid (HBI_160.out.trans ((hbw163).mono HBI_160.out.size))
        clear HBI_160
        have HDV_177 := Lib.hid (Rd.mono HDV_161.out hbw163)
        clear HDV_161
        rw [HHH.out]
        refine ⟨⟨hs164.cellAt 0 rfl 0 rfl, hs164.cellAt 0 rfl 1 rfl, hs164.cellAt 1 rfl 0 rfl, hs164.cellAt 1 rfl 1 rfl, qA_165, qE_166, qY_167⟩, ?_⟩
        (repeat (first | (apply t4_skip rfl (by rfl); try simp only [Act.put, List.setIfInBounds_toArray, List.set_cons_zero, List.set_cons_succ]) | (apply t4_float rfl (by rfl); (· (intro w' hS; go_simp <;> with_reducible rfl)); (try simp only [Act.put, List.setIfInBounds_toArray, List.set_cons_zero, List.set_cons_succ]))))
        have k0_0 := hs164.cellAt 0 rfl 0 rfl
        have k0_1 := hs164.cellAt 0 rfl 1 rfl
        have k1_0 := hs164.cellAt 1 rfl 0 rfl
        have k1_1 := hs164.cellAt 1 rfl 1 rfl
        refine t4_nil (NoPanic.normal ?_)
        go_wp2_with fail
        go_roundw
        case rel => exact ⟨v + 1, hvU, by go_num, HBI_176.out⟩
        case measure => simp [intOf]; omega
      · obtain rfl : v = U := by omega
        have hnv : ¬ ((v : Int) < (v : Int)) := by omega
        go_wp2_with fail
        go_roundw
        case rel => exact ⟨i + 1, hlt, by go_num, HBD_146.out⟩
        case measure => simp [intOf]; omega
  obtain rfl : i = AL.length := by omega
  have hnl2 : ¬ ((AL.length : Int) < (AL.length : Int)) := by omega
  clear HBD hlt hi
  by_cases hM0 : M.length = 0
  · have hM1 : ((M.length : Int) == 0) = true := by simp [hM0]
    clear hM0
    rcases HCOD.out with h | h
    · subst h
      go_wp2_with fail
      go_ret
      exact ⟨rfl, hs131.bel⟩
    · subst h
      go_wp2_with fail
      go_ret
      exact ⟨rfl, hs131.bel⟩
  have hM1 : ((M.length : Int) == 0) = false := by rw [beq_eq_false_iff_ne]; omega
  clear hM0
  go_wp2_with fail
  refine (P6Pick_c am nm cm mo (M.length : Int) _ (Rd.mono HMo.out hs131.bel) (by omega)).mono ?_
  rintro e w178 ⟨vk, rfl, hk0, hk1, hbw178⟩
  have hz_w178 : wO.heap.size ≤ w178.heap.size := by have h9 := hbw178.size; (try simp at h9); omega
  have hs179 := hs131.step hbw178
  have HT_180 := Lib.hid (Rd.mono HT_132.out hbw178)
  clear HT_132
  have HX_181 := Lib.hid (Rd.mono HX_133.out hbw178)
  clear HX_133
  have HF_182 := Lib.hid (Rd.mono HF_134.out hbw178)
  clear HF_134
  have HE_183 := Lib.hid (Rd.mono HE_135.out hbw178)
  clear HE_135
  have HM_184 := Lib.hid (Rd.mono HM_136.out hbw178)
  clear HM_136
  have HA_185 := Lib.hid (Rd.mono HA_137.out hbw178)
  clear HA_137
  clear k0_0 k0_1 k1_0 k1_1
  have k0_0 := hs179.cellAt 0 rfl 0 rfl
  have k0_1 := hs179.cellAt 0 rfl 1 rfl
  have k1_0 := hs179.cellAt 1 rfl 0 rfl
  have k1_1 := hs179.cellAt 1 rfl 1 rfl
  have hM2 : (M.length : Int) ≠ 0 := by intro h; rw [h] at hM1; exact absurd hM1 (by decide)
  have hk2 := hk1 (by omega)
  obtain ⟨kk, rfl⟩ : ∃ kk : Nat, vk = (kk : Int) := ⟨vk.toNat, by omega⟩
  have hkM : kk < M.length := by omega
  obtain ⟨bM, oM, rfl, m0, m1, m2, hI3⟩ := step_cells HM_184.out kk hkM
  have HTW := Lib.hid (HLAW.out.twice kk hkM)
  have HIM := Lib.hid (show ∀ x, x ∈ M → I64 x.1 ∧ I64 x.2.1 ∧ I64 x.2.2 from fun x hx => by
    obtain ⟨i, hi, rfl⟩ := List.getElem_of_mem hx
    obtain ⟨_, _, _, _, _, _, h⟩ := step_cells HM_184.out i hi
    exact h)
  generalize M[kk] = EK at m0 m1 m2 hI3 HTW
  obtain ⟨e0, e1, e2⟩ := EK
  simp only at m0 m1 m2 hI3
  have hbM := World.block_lt_of_cell? _ _ m0
  clear hk0 hk1
  have HHS := Lib.hid hs179
  have HMS := Lib.hid HM_184.out
  have HTS := Lib.hid HT_180.out
  have HXS := Lib.hid HX_181.out
  have HFS := Lib.hid HF_182.out
  have hsS := St.start w178
  clear k0_0 k0_1 k1_0 k1_1
  go_upto_region 31 with fail
  refine wp_region_noPanic (wp_region_tree4 (fun w' => w'.cell? ⟨bM, oM + kk * 3, none⟩ = some (.int .i64 e0) ∧ w'.cell? ⟨bM, oM + kk * 3 + 1, none⟩ = some (.int .i64 e1) ∧ w'.cell? ⟨bM, oM + kk * 3 + 2, none⟩ = some (.int .i64 e2)) (.float 1 (.float 3 (.float 4 (.float 5 (.float 6 (.fork2 0 (.fork2 2 (.hard 7 (.hard 8 (.float 9 .nil))) 7 (.hard 2 (.hard 8 (.float 9 .nil)))) 7 (.hard 0 (.hard 2 (.hard 8 (.float 9 .nil)))))))))) (by kernel_rfl) (by kernel_rfl) (by kernel_rfl) rfl ?_ (fun _ _ _ _ _ h => h) ?_)
  · exact ⟨cellL (belowD _) m0, cellL (belowD _) m1, cellL (belowD _) m2⟩
  have hs186 := hsS.drew
  have m0_187 := cellL (belowD _) m0
  clear m0
  have m1_188 := cellL (belowD _) m1
  clear m1
  have m2_189 := cellL (belowD _) m2
  clear m2
  have hz_wd190 : w178.heap.size ≤ (w178.drew).heap.size := by simp
  generalize hgen_wd190 : w178.drew = wd190 at *
  have HG_wd190 := Lib.hid hgen_wd190
  clear hgen_wd190
  (repeat (first | (apply t4_skip rfl (by rfl); try simp only [Act.put, List.setIfInBounds_toArray, List.set_cons_zero, List.set_cons_succ]) | (apply t4_float rfl (by rfl); (· (intro w' hS; go_simp <;> with_reducible rfl)); (try simp only [Act.put, List.setIfInBounds_toArray, List.set_cons_zero, List.set_cons_succ]))))
  refine t4_fork2 ?_ ?_
  · refine t4_hard rfl (by rfl) (fun K hK => ?_)
    go_wp2_with fail
    have hEAL : w178.heap.size ≤ wd190.heap.size := by omega
    have hrow0 := row_made (size := 3) wd190 41
    have hb0 := belowA wd190 (.cells #[] 41)
    have hEA1 : wd190.heap.size + 1 ≤ (wd190.alloc (.cells #[] 41)).heap.size := by simp
    generalize wd190.alloc (.cells #[] 41) = wE0 at *
    have HRE := Lib.hid hrow0
    clear hrow0
    have hz_wE0 : wd190.heap.size ≤ wE0.heap.size := by have h9 := hb0.size; (try simp at h9); omega
    have hs191 := hs186.step hb0
    have m0_192 := cellL hb0 m0_187
    clear m0_187
    have m1_193 := cellL hb0 m1_188
    clear m1_188
    have m2_194 := cellL hb0 m2_189
    clear m2_189
    refine ⟨⟨m0_192, m1_193, m2_194⟩, ?_⟩
    (repeat (first | (apply t4_skip rfl (by rfl); try simp only [Act.put, List.setIfInBounds_toArray, List.set_cons_zero, List.set_cons_succ]) | (apply t4_float rfl (by rfl); (· (intro w' hS; go_simp <;> with_reducible rfl)); (try simp only [Act.put, List.setIfInBounds_toArray, List.set_cons_zero, List.set_cons_succ]))))
    refine t4_fork2 ?_ ?_
    · refine t4_hard rfl (by rfl) (fun K hK => ?_)
      refine wp_append_rows _ _ _ _ rfl E_arcs rfl HRE.out (v := .slice (some ⟨wd190.heap.size, 0, none⟩) 0 0) (m := M.length) (vs := flat3 M) (flat3_length M) (flat3_one M) ⟨bM, oM, none⟩ cM rfl (steps_news (Rd.mono HMS.out hs191.bel)) (by omega) (by omega) ?_
      simp only [Nat.zero_add, List.nil_append]
      intro g2 c2 w8 hg2 hrow2 hB8 hlt2
      have hz8 := hB8.size
      have hbp := hB8.butP (A := fun z => z = wd190.heap.size) (fun k hk => by simpa [Value.ownBlock] using hk)
      have hs8 := hs191.butP hbp (fun z hz => by (try simp only at hz); omega) (fun x hx => by cases hx)
      have hg2L : w178.heap.size ≤ g2 := by
        rcases hg2 with h | h
        · have h9 : wd190.heap.size = g2 := by simpa [Value.ownBlock] using h
          omega
        · rw [h]; omega
      have HR2 := Lib.hid hrow2
      clear hrow2 hg2
      clear HRE
      have m0_195 := cellB hbp m0_192 (by intro hA9; (try simp only at hA9); omega)
      clear m0_192
      have m1_196 := cellB hbp m1_193 (by intro hA9; (try simp only at hA9); omega)
      clear m1_193
      have m2_197 := cellB hbp m2_194 (by intro hA9; (try simp only at hA9); omega)
      clear m2_194
      refine hK _ _ ⟨⟨m0_195, m1_196, m2_197⟩, ?_⟩
      (repeat (first | (apply t4_skip rfl (by rfl); try simp only [Act.put, List.setIfInBounds_toArray, List.set_cons_zero, List.set_cons_succ]) | (apply t4_float rfl (by rfl); (· (intro w' hS; go_simp <;> with_reducible rfl)); (try simp only [Act.put, List.setIfInBounds_toArray, List.set_cons_zero, List.set_cons_succ]))))
      refine t4_hard rfl (by rfl) (fun K hK => ?_)
      go_wp2_with fail
      have hb7 := belowA w8 (.cells #[.int .i64 e0, .int .i64 e1, .int .i64 e2] 41)
      have y0 : (w8.alloc (.cells #[.int .i64 e0, .int .i64 e1, .int .i64 e2] 41)).cell? ⟨w8.heap.size, 0, none⟩ = some (.int .i64 e0) := cell_at_block (heap_alloc_new _ _)
      have y1 : (w8.alloc (.cells #[.int .i64 e0, .int .i64 e1, .int .i64 e2] 41)).cell? ⟨w8.heap.size, 1, none⟩ = some (.int .i64 e1) := cell_at_block (heap_alloc_new _ _)
      have y2 : (w8.alloc (.cells #[.int .i64 e0, .int .i64 e1, .int .i64 e2] 41)).cell? ⟨w8.heap.size, 2, none⟩ = some (.int .i64 e2) := cell_at_block (heap_alloc_new _ _)
      have hE1L : w178.heap.size ≤ w8.heap.size := by omega
      have hE11 : w8.heap.size + 1 ≤ (w8.alloc (.cells #[.int .i64 e0, .int .i64 e1, .int .i64 e2] 41)).heap.size := by simp
      generalize w8.alloc (.cells #[.int .i64 e0, .int .i64 e1, .int .i64 e2] 41) = w7 at *
      have hz_w7 : w8.heap.size ≤ w7.heap.size := by have h9 := hb7.size; (try simp at h9); omega
      have hs198 := hs8.step hb7
      have m0_199 := cellL hb7 m0_195
      clear m0_195
      have m1_200 := cellL hb7 m1_196
      clear m1_196
      have m2_201 := cellL hb7 m2_197
      clear m2_197
      have HR2_202 := Lib.hid (ownsRow_below HR2.out hb7)
      clear HR2
      refine ⟨⟨m0_199, m1_200, m2_201⟩, ?_⟩
      (repeat (first | (apply t4_skip rfl (by rfl); try simp only [Act.put, List.setIfInBounds_toArray, List.set_cons_zero, List.set_cons_succ]) | (apply t4_float rfl (by rfl); (· (intro w' hS; go_simp <;> with_reducible rfl)); (try simp only [Act.put, List.setIfInBounds_toArray, List.set_cons_zero, List.set_cons_succ]))))
      refine t4_hard rfl (by rfl) (fun K hK => ?_)
      refine wp_append_row _ _ _ _ rfl E_arcs rfl HR2_202.out (v := .slice (some ⟨g2, 0, none⟩) M.length c2) (vs := [.int .i64 e0, .int .i64 e1, .int .i64 e2]) rfl (fun u hu => by simp at hu; rcases hu with rfl | rfl | rfl <;> rfl) ⟨w8.heap.size, 0, none⟩ 1 rfl (news3 y0 y1 y2) (by omega) ?_
      intro g3 c3 w9 hg3 hrow3 hB9 hlt3
      have hz9 := hB9.size
      have hbq := hB9.butP (A := fun z => z = g2) (fun k hk => by simpa [Value.ownBlock] using hk)
      have hs9 := hs198.butP hbq (fun z hz => by (try simp only at hz); omega) (fun x hx => by cases hx)
      have HR3 := Lib.hid hrow3
      clear hrow3 hg3
      clear HR2_202
      clear y0
      clear y1
      clear y2
      have m0_203 := cellB hbq m0_199 (by intro hA9; (try simp only at hA9); omega)
      clear m0_199
      have m1_204 := cellB hbq m1_200 (by intro hA9; (try simp only at hA9); omega)
      clear m1_200
      have m2_205 := cellB hbq m2_201 (by intro hA9; (try simp only at hA9); omega)
      clear m2_201
      refine hK _ _ ⟨⟨m0_203, m1_204, m2_205⟩, ?_⟩
      (repeat (first | (apply t4_skip rfl (by rfl); try simp only [Act.put, List.setIfInBounds_toArray, List.set_cons_zero, List.set_cons_succ]) | (apply t4_float rfl (by rfl); (· (intro w' hS; go_simp <;> with_reducible rfl)); (try simp only [Act.put, List.setIfInBounds_toArray, List.set_cons_zero, List.set_cons_succ]))))
      refine t4_nil (NoPanic.normal ?_)
      have t0 := cellL hs9.bel (HHS.out.cellAt 0 rfl 0 rfl)
      have t1 := cellL hs9.bel (HHS.out.cellAt 0 rfl 1 rfl)
      have t2 := cellL hs9.bel (HHS.out.cellAt 1 rfl 0 rfl)
      have t3 := cellL hs9.bel (HHS.out.cellAt 1 rfl 1 rfl)
      have hrd3 := Lib.hid (steps_rd (M := M ++ [(e0, e1, e2)]) (by rw [flat3_snoc]; exact HR3.out) (by simp) (fun x hx => by
        rcases List.mem_append.1 hx with h | h
        · exact HIM.out x h
        · simp only [List.mem_singleton] at h; subst h; exact hI3))
      have hML := Lib.hid (show (M ++ [(e0, e1, e2)]).length ≤ 1048576 by simp; omega)
      go_wp2_with fail
      refine (ReplayArcs_c ((SZ : Int), rs) _ _ ((U : Int), l) _ _ D0 _ (M ++ [(e0, e1, e2)]) _ _ (Rd.mono HTS.out hs9.bel) (Rd.mono HXS.out hs9.bel) (Rd.mono HFS.out hs9.bel) hrd3.out (fun d hd => by have := HLAW.out.short0 d hd; omega) hML.out).mono ?_
      rintro e wZ ⟨u0, rfl, frZ, hbZ⟩
      rw [HTW.out] at frZ ⊢
      simp only at frZ ⊢
      have HZZ := Lib.hid ((HHS.out.bel.trans (hs9.bel.mono HHS.out.bel.size)).trans (hbZ.mono (Nat.le_trans HHS.out.bel.size hs9.bel.size)))
      clear frZ hbZ hrd3 hML
      go_wp2_with fail
      go_ret
      exact ⟨rfl, HZZ.out⟩
    · refine t4_hard rfl (by rfl) (fun K hK => ?_)
      go_wp2_with fail
      have hb7 := belowA wE0 (.cells #[.int .i64 e0, .int .i64 e1, .int .i64 e2] 41)
      have y0 : (wE0.alloc (.cells #[.int .i64 e0, .int .i64 e1, .int .i64 e2] 41)).cell? ⟨wE0.heap.size, 0, none⟩ = some (.int .i64 e0) := cell_at_block (heap_alloc_new _ _)
      have y1 : (wE0.alloc (.cells #[.int .i64 e0, .int .i64 e1, .int .i64 e2] 41)).cell? ⟨wE0.heap.size, 1, none⟩ = some (.int .i64 e1) := cell_at_block (heap_alloc_new _ _)
      have y2 : (wE0.alloc (.cells #[.int .i64 e0, .int .i64 e1, .int .i64 e2] 41)).cell? ⟨wE0.heap.size, 2, none⟩ = some (.int .i64 e2) := cell_at_block (heap_alloc_new _ _)
      have hE1L : w178.heap.size ≤ wE0.heap.size := by omega
      have hE11 : wE0.heap.size + 1 ≤ (wE0.alloc (.cells #[.int .i64 e0, .int .i64 e1, .int .i64 e2] 41)).heap.size := by simp
      generalize wE0.alloc (.cells #[.int .i64 e0, .int .i64 e1, .int .i64 e2] 41) = w7 at *
      have hz_w7 : wE0.heap.size ≤ w7.heap.size := by have h9 := hb7.size; (try simp at h9); omega
      have hs206 := hs191.step hb7
      have m0_207 := cellL hb7 m0_192
      clear m0_192
      have m1_208 := cellL hb7 m1_193
      clear m1_193
      have m2_209 := cellL hb7 m2_194
      clear m2_194
      have HRE_210 := Lib.hid (ownsRow_below HRE.out hb7)
      clear HRE
      refine ⟨⟨m0_207, m1_208, m2_209⟩, ?_⟩
      (repeat (first | (apply t4_skip rfl (by rfl); try simp only [Act.put, List.setIfInBounds_toArray, List.set_cons_zero, List.set_cons_succ]) | (apply t4_float rfl (by rfl); (· (intro w' hS; go_simp <;> with_reducible rfl)); (try simp only [Act.put, List.setIfInBounds_toArray, List.set_cons_zero, List.set_cons_succ]))))
      refine t4_hard rfl (by rfl) (fun K hK => ?_)
      refine wp_append_rows _ _ _ _ rfl E_arcs rfl HRE_210.out (v := .slice (some ⟨wd190.heap.size, 0, none⟩) 0 0) (m := M.length) (vs := flat3 M) (flat3_length M) (flat3_one M) ⟨bM, oM, none⟩ cM rfl (steps_news (Rd.mono HMS.out hs206.bel)) (by omega) (by omega) ?_
      simp only [Nat.zero_add, List.nil_append]
      intro g2 c2 w8 hg2 hrow2 hB8 hlt2
      have hz8 := hB8.size
      have hbp := hB8.butP (A := fun z => z = wd190.heap.size) (fun k hk => by simpa [Value.ownBlock] using hk)
      have hs8 := hs206.butP hbp (fun z hz => by (try simp only at hz); omega) (fun x hx => by cases hx)
      have hg2L : w178.heap.size ≤ g2 := by
        rcases hg2 with h | h
        · have h9 : wd190.heap.size = g2 := by simpa [Value.ownBlock] using h
          omega
        · rw [h]; omega
      have HR2 := Lib.hid hrow2
      clear hrow2 hg2
      clear HRE_210
      have m0_211 := cellB hbp m0_207 (by intro hA9; (try simp only at hA9); omega)
      clear m0_207
      have m1_212 := cellB hbp m1_208 (by intro hA9; (try simp only at hA9); omega)
      clear m1_208
      have m2_213 := cellB hbp m2_209 (by intro hA9; (try simp only at hA9); omega)
      clear m2_209
      have y0_214 := cellB hbp y0 (by intro hA9; (try simp only at hA9); omega)
      clear y0
      have y1_215 := cellB hbp y1 (by intro hA9; (try simp only at hA9); omega)
      clear y1
      have y2_216 := cellB hbp y2 (by intro hA9; (try simp only at hA9); omega)
      clear y2
      refine hK _ _ ⟨⟨m0_211, m1_212, m2_213⟩, ?_⟩
      (repeat (first | (apply t4_skip rfl (by rfl); try simp only [Act.put, List.setIfInBounds_toArray, List.set_cons_zero, List.set_cons_succ]) | (apply t4_float rfl (by rfl); (· (intro w' hS; go_simp <;> with_reducible rfl)); (try simp only [Act.put, List.setIfInBounds_toArray, List.set_cons_zero, List.set_cons_succ]))))
      refine t4_hard rfl (by rfl) (fun K hK => ?_)
      refine wp_append_row _ _ _ _ rfl E_arcs rfl HR2.out (v := .slice (some ⟨g2, 0, none⟩) M.length c2) (vs := [.int .i64 e0, .int .i64 e1, .int .i64 e2]) rfl (fun u hu => by simp at hu; rcases hu with rfl | rfl | rfl <;> rfl) ⟨wE0.heap.size, 0, none⟩ 1 rfl (news3 y0_214 y1_215 y2_216) (by omega) ?_
      intro g3 c3 w9 hg3 hrow3 hB9 hlt3
      have hz9 := hB9.size
      have hbq := hB9.butP (A := fun z => z = g2) (fun k hk => by simpa [Value.ownBlock] using hk)
      have hs9 := hs8.butP hbq (fun z hz => by (try simp only at hz); omega) (fun x hx => by cases hx)
      have HR3 := Lib.hid hrow3
      clear hrow3 hg3
      clear HR2
      clear y0_214
      clear y1_215
      clear y2_216
      have m0_217 := cellB hbq m0_211 (by intro hA9; (try simp only at hA9); omega)
      clear m0_211
      have m1_218 := cellB hbq m1_212 (by intro hA9; (try simp only at hA9); omega)
      clear m1_212
      have m2_219 := cellB hbq m2_213 (by intro hA9; (try simp only at hA9); omega)
      clear m2_213
      refine hK _ _ ⟨⟨m0_217, m1_218, m2_219⟩, ?_⟩
      (repeat (first | (apply t4_skip rfl (by rfl); try simp only [Act.put, List.setIfInBounds_toArray, List.set_cons_zero, List.set_cons_succ]) | (apply t4_float rfl (by rfl); (· (intro w' hS; go_simp <;> with_reducible rfl)); (try simp only [Act.put, List.setIfInBounds_toArray, List.set_cons_zero, List.set_cons_succ]))))
      refine t4_nil (NoPanic.normal ?_)
      have t0 := cellL hs9.bel (HHS.out.cellAt 0 rfl 0 rfl)
      have t1 := cellL hs9.bel (HHS.out.cellAt 0 rfl 1 rfl)
      have t2 := cellL hs9.bel (HHS.out.cellAt 1 rfl 0 rfl)
      have t3 := cellL hs9.bel (HHS.out.cellAt 1 rfl 1 rfl)
      have hrd3 := Lib.hid (steps_rd (M := M ++ [(e0, e1, e2)]) (by rw [flat3_snoc]; exact HR3.out) (by simp) (fun x hx => by
        rcases List.mem_append.1 hx with h | h
        · exact HIM.out x h
        · simp only [List.mem_singleton] at h; subst h; exact hI3))
      have hML := Lib.hid (show (M ++ [(e0, e1, e2)]).length ≤ 1048576 by simp; omega)
      go_wp2_with fail
      refine (ReplayArcs_c ((SZ : Int), rs) _ _ ((U : Int), l) _ _ D0 _ (M ++ [(e0, e1, e2)]) _ _ (Rd.mono HTS.out hs9.bel) (Rd.mono HXS.out hs9.bel) (Rd.mono HFS.out hs9.bel) hrd3.out (fun d hd => by have := HLAW.out.short0 d hd; omega) hML.out).mono ?_
      rintro e wZ ⟨u0, rfl, frZ, hbZ⟩
      rw [HTW.out] at frZ ⊢
      simp only at frZ ⊢
      have HZZ := Lib.hid ((HHS.out.bel.trans (hs9.bel.mono HHS.out.bel.size)).trans (hbZ.mono (Nat.le_trans HHS.out.bel.size hs9.bel.size)))
      clear frZ hbZ hrd3 hML
      go_wp2_with fail
      go_ret
      exact ⟨rfl, HZZ.out⟩
  · refine t4_hard rfl (by rfl) (fun K hK => ?_)
    go_wp2_with fail
    have hb7 := belowA wd190 (.cells #[.int .i64 e0, .int .i64 e1, .int .i64 e2] 41)
    have y0 : (wd190.alloc (.cells #[.int .i64 e0, .int .i64 e1, .int .i64 e2] 41)).cell? ⟨wd190.heap.size, 0, none⟩ = some (.int .i64 e0) := cell_at_block (heap_alloc_new _ _)
    have y1 : (wd190.alloc (.cells #[.int .i64 e0, .int .i64 e1, .int .i64 e2] 41)).cell? ⟨wd190.heap.size, 1, none⟩ = some (.int .i64 e1) := cell_at_block (heap_alloc_new _ _)
    have y2 : (wd190.alloc (.cells #[.int .i64 e0, .int .i64 e1, .int .i64 e2] 41)).cell? ⟨wd190.heap.size, 2, none⟩ = some (.int .i64 e2) := cell_at_block (heap_alloc_new _ _)
    have hE1L : w178.heap.size ≤ wd190.heap.size := by omega
    have hE11 : wd190.heap.size + 1 ≤ (wd190.alloc (.cells #[.int .i64 e0, .int .i64 e1, .int .i64 e2] 41)).heap.size := by simp
    generalize wd190.alloc (.cells #[.int .i64 e0, .int .i64 e1, .int .i64 e2] 41) = w7 at *
    have hz_w7 : wd190.heap.size ≤ w7.heap.size := by have h9 := hb7.size; (try simp at h9); omega
    have hs220 := hs186.step hb7
    have m0_221 := cellL hb7 m0_187
    clear m0_187
    have m1_222 := cellL hb7 m1_188
    clear m1_188
    have m2_223 := cellL hb7 m2_189
    clear m2_189
    refine ⟨⟨m0_221, m1_222, m2_223⟩, ?_⟩
    (repeat (first | (apply t4_skip rfl (by rfl); try simp only [Act.put, List.setIfInBounds_toArray, List.set_cons_zero, List.set_cons_succ]) | (apply t4_float rfl (by rfl); (· (intro w' hS; go_simp <;> with_reducible rfl)); (try simp only [Act.put, List.setIfInBounds_toArray, List.set_cons_zero, List.set_cons_succ]))))
    refine t4_hard rfl (by rfl) (fun K hK => ?_)
    go_wp2_with fail
    have hEAL : w178.heap.size ≤ w7.heap.size := by omega
    have hrow0 := row_made (size := 3) w7 41
    have hb0 := belowA w7 (.cells #[] 41)
    have hEA1 : w7.heap.size + 1 ≤ (w7.alloc (.cells #[] 41)).heap.size := by simp
    generalize w7.alloc (.cells #[] 41) = wE0 at *
    have HRE := Lib.hid hrow0
    clear hrow0
    have hz_wE0 : w7.heap.size ≤ wE0.heap.size := by have h9 := hb0.size; (try simp at h9); omega
    have hs224 := hs220.step hb0
    have m0_225 := cellL hb0 m0_221
    clear m0_221
    have m1_226 := cellL hb0 m1_222
    clear m1_222
    have m2_227 := cellL hb0 m2_223
    clear m2_223
    have y0_228 := cellL hb0 y0
    clear y0
    have y1_229 := cellL hb0 y1
    clear y1
    have y2_230 := cellL hb0 y2
    clear y2
    refine ⟨⟨m0_225, m1_226, m2_227⟩, ?_⟩
    (repeat (first | (apply t4_skip rfl (by rfl); try simp only [Act.put, List.setIfInBounds_toArray, List.set_cons_zero, List.set_cons_succ]) | (apply t4_float rfl (by rfl); (· (intro w' hS; go_simp <;> with_reducible rfl)); (try simp only [Act.put, List.setIfInBounds_toArray, List.set_cons_zero, List.set_cons_succ]))))
    refine t4_hard rfl (by rfl) (fun K hK => ?_)
    refine wp_append_rows _ _ _ _ rfl E_arcs rfl HRE.out (v := .slice (some ⟨w7.heap.size, 0, none⟩) 0 0) (m := M.length) (vs := flat3 M) (flat3_length M) (flat3_one M) ⟨bM, oM, none⟩ cM rfl (steps_news (Rd.mono HMS.out hs224.bel)) (by omega) (by omega) ?_
    simp only [Nat.zero_add, List.nil_append]
    intro g2 c2 w8 hg2 hrow2 hB8 hlt2
    have hz8 := hB8.size
    have hbp := hB8.butP (A := fun z => z = w7.heap.size) (fun k hk => by simpa [Value.ownBlock] using hk)
    have hs8 := hs224.butP hbp (fun z hz => by (try simp only at hz); omega) (fun x hx => by cases hx)
    have hg2L : w178.heap.size ≤ g2 := by
      rcases hg2 with h | h
      · have h9 : w7.heap.size = g2 := by simpa [Value.ownBlock] using h
        omega
      · rw [h]; omega
    have HR2 := Lib.hid hrow2
    clear hrow2 hg2
    clear HRE
    have m0_231 := cellB hbp m0_225 (by intro hA9; (try simp only at hA9); omega)
    clear m0_225
    have m1_232 := cellB hbp m1_226 (by intro hA9; (try simp only at hA9); omega)
    clear m1_226
    have m2_233 := cellB hbp m2_227 (by intro hA9; (try simp only at hA9); omega)
    clear m2_227
    have y0_234 := cellB hbp y0_228 (by intro hA9; (try simp only at hA9); omega)
    clear y0_228
    have y1_235 := cellB hbp y1_229 (by intro hA9; (try simp only at hA9); omega)
    clear y1_229
    have y2_236 := cellB hbp y2_230 (by intro hA9; (try simp only at hA9); omega)
    clear y2_230
    refine hK _ _ ⟨⟨m0_231, m1_232, m2_233⟩, ?_⟩
    (repeat (first | (apply t4_skip rfl (by rfl); try simp only [Act.put, List.setIfInBounds_toArray, List.set_cons_zero, List.set_cons_succ]) | (apply t4_float rfl (by rfl); (· (intro w' hS; go_simp <;> with_reducible rfl)); (try simp only [Act.put, List.setIfInBounds_toArray, List.set_cons_zero, List.set_cons_succ]))))
    refine t4_hard rfl (by rfl) (fun K hK => ?_)
    refine wp_append_row _ _ _ _ rfl E_arcs rfl HR2.out (v := .slice (some ⟨g2, 0, none⟩) M.length c2) (vs := [.int .i64 e0, .int .i64 e1, .int .i64 e2]) rfl (fun u hu => by simp at hu; rcases hu with rfl | rfl | rfl <;> rfl) ⟨wd190.heap.size, 0, none⟩ 1 rfl (news3 y0_234 y1_235 y2_236) (by omega) ?_
    intro g3 c3 w9 hg3 hrow3 hB9 hlt3
    have hz9 := hB9.size
    have hbq := hB9.butP (A := fun z => z = g2) (fun k hk => by simpa [Value.ownBlock] using hk)
    have hs9 := hs8.butP hbq (fun z hz => by (try simp only at hz); omega) (fun x hx => by cases hx)
    have HR3 := Lib.hid hrow3
    clear hrow3 hg3
    clear HR2
    clear y0_234
    clear y1_235
    clear y2_236
    have m0_237 := cellB hbq m0_231 (by intro hA9; (try simp only at hA9); omega)
    clear m0_231
    have m1_238 := cellB hbq m1_232 (by intro hA9; (try simp only at hA9); omega)
    clear m1_232
    have m2_239 := cellB hbq m2_233 (by intro hA9; (try simp only at hA9); omega)
    clear m2_233
    refine hK _ _ ⟨⟨m0_237, m1_238, m2_239⟩, ?_⟩
    (repeat (first | (apply t4_skip rfl (by rfl); try simp only [Act.put, List.setIfInBounds_toArray, List.set_cons_zero, List.set_cons_succ]) | (apply t4_float rfl (by rfl); (· (intro w' hS; go_simp <;> with_reducible rfl)); (try simp only [Act.put, List.setIfInBounds_toArray, List.set_cons_zero, List.set_cons_succ]))))
    refine t4_nil (NoPanic.normal ?_)
    have t0 := cellL hs9.bel (HHS.out.cellAt 0 rfl 0 rfl)
    have t1 := cellL hs9.bel (HHS.out.cellAt 0 rfl 1 rfl)
    have t2 := cellL hs9.bel (HHS.out.cellAt 1 rfl 0 rfl)
    have t3 := cellL hs9.bel (HHS.out.cellAt 1 rfl 1 rfl)
    have hrd3 := Lib.hid (steps_rd (M := M ++ [(e0, e1, e2)]) (by rw [flat3_snoc]; exact HR3.out) (by simp) (fun x hx => by
      rcases List.mem_append.1 hx with h | h
      · exact HIM.out x h
      · simp only [List.mem_singleton] at h; subst h; exact hI3))
    have hML := Lib.hid (show (M ++ [(e0, e1, e2)]).length ≤ 1048576 by simp; omega)
    go_wp2_with fail
    refine (ReplayArcs_c ((SZ : Int), rs) _ _ ((U : Int), l) _ _ D0 _ (M ++ [(e0, e1, e2)]) _ _ (Rd.mono HTS.out hs9.bel) (Rd.mono HXS.out hs9.bel) (Rd.mono HFS.out hs9.bel) hrd3.out (fun d hd => by have := HLAW.out.short0 d hd; omega) hML.out).mono ?_
    rintro e wZ ⟨u0, rfl, frZ, hbZ⟩
    rw [HTW.out] at frZ ⊢
    simp only at frZ ⊢
    have HZZ := Lib.hid ((HHS.out.bel.trans (hs9.bel.mono HHS.out.bel.size)).trans (hbZ.mono (Nat.le_trans HHS.out.bel.size hs9.bel.size)))
    clear frZ hbZ hrd3 hML
    go_wp2_with fail
    go_ret
    exact ⟨rfl, HZZ.out⟩

end Go.Proofs.YtamkfnkikiekaaaGreat

