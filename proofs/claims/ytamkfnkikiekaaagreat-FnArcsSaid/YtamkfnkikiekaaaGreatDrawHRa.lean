/-
  CONTRACTS of drawing (the reference's side): a template and an instance, often without a solution.
-/
import Derived.Test.YtamkfnkikiekaaaGreatDrawERa
namespace Go.Proofs.YtamkfnkikiekaaaGreat
open Go.RowKit Go.Shelf Go.IntWalk
open Rep (Rd Own sz)
set_option linter.unusedSimpArgs false
set_option linter.unusedVariables false

theorem quo_small {j SZ PN : Nat} (hS : 2 ≤ SZ) (hj : j < PN) (hP : PN ≤ 100) :
    ∃ Q R : Nat, (j : Int).tdiv SZ = (Q : Int) ∧ (j : Int).tmod SZ = (R : Int) ∧ Q ≤ 100 ∧ R ≤ 100 := by
  refine ⟨j / SZ, j % SZ, by rw [Int.tdiv_eq_ediv_of_nonneg (by omega)]; simp, by rw [Int.tmod_eq_emod_of_nonneg (by omega)]; simp, ?_, ?_⟩
  · have := Nat.div_le_self j SZ; omega
  · have := Nat.mod_le j SZ; omega
set_option maxRecDepth 100000 in
set_option maxHeartbeats 16000000 in
theorem l08Hard_c (L B b k : Nat) (w : World) (h : Src L B w b k) (hB : B ≤ w.heap.size) (hk : k ≤ 300000000) :
    Calls Tryz.prog 16 #[.pointer (some ⟨b, 0, none⟩)] w fun e w' => ∃ (s U : Int) (v v2 : Value), e = .returned (.tuple #[.agg #[.int .i64 s, v], .agg #[.int .i64 U, v2]]) ∧ ∃ (rs : List RelT) (l : List OpT), Firm w.heap.size w' [.int .i64 s, v] ((s, rs) : Tmpl) ∧ Firm w.heap.size w' [.int .i64 U, v2] ((U, l) : Inst) ∧ Src L B w' b (k + 60000) ∧ But [b] w w' := by
  have hbw := h.lt
  have HSR := Lib.hid h
  have HBT := Lib.hid (But.refl [b] w)
  clear h
  have hs1 := (St.start w).alloc #[.int .i64 0, .slice none 0 0] 26 (n := w.heap.size) (by simp)
  have HSR_2 := Lib.hid (Src.mono HSR.out (belowA _ (.cells #[.int .i64 0, .slice none 0 0] 26)))
  clear HSR
  have k0_0 := hs1.cellAt 0 rfl 0 rfl
  have k0_1 := hs1.cellAt 0 rfl 1 rfl
  have hs3 := hs1.alloc #[.int .i64 0, .slice none 0 0] 29 (n := w.heap.size + 1) (by simp)
  have HSR_4 := Lib.hid (Src.mono HSR_2.out (belowA _ (.cells #[.int .i64 0, .slice none 0 0] 29)))
  clear HSR_2
  clear k0_0 k0_1
  have k0_0 := hs3.cellAt 0 rfl 0 rfl
  have k0_1 := hs3.cellAt 0 rfl 1 rfl
  have k1_0 := hs3.cellAt 1 rfl 0 rfl
  have k1_1 := hs3.cellAt 1 rfl 1 rfl
  go_enter Tryz.func16, Tryz.ntmps16
  go_wp2_with fail
  refine (one_c 4 L B b k _ HSR_4.out (by omega) (by omega) (by omega)).mono ?_
  rintro e w5 ⟨yes, rfl, hrw5, hbw5⟩
  obtain ⟨wz6, hs7, hz_wz6, hy_wz6, hc_wz6⟩ := hs3.cut hbw5 (by intro k hk; simp only [List.mem_singleton] at hk; omega)
  have hz_w5 : w.heap.size + 1 + 1 ≤ w5.heap.size := by have h9 := hbw5.size; (try simp at h9); omega
  have HSR_8 := Lib.hid hrw5
  clear HSR_4
  have HBT_9 := Lib.hid (HBT.out.trans hc_wz6)
  clear HBT
  clear hrw5 hc_wz6
  clear k0_0 k0_1 k1_0 k1_1
  have k0_0 := hs7.cellAt 0 rfl 0 rfl
  have k0_1 := hs7.cellAt 0 rfl 1 rfl
  have k1_0 := hs7.cellAt 1 rfl 0 rfl
  have k1_1 := hs7.cellAt 1 rfl 1 rfl
  cases yes with
  | true =>
    go_wp2_with fail
    refine (l05Bent_c L B b (k + 1) _ HSR_8.out (by (try simp); omega) (by omega)).mono ?_
    rintro e w10 ⟨S3, U3, V3, V4, rfl, LT, LI, fi1, fi2, hrw10, hbw10⟩
    obtain ⟨wz11, hs12, hz_wz11, hy_wz11, hc_wz11⟩ := hs7.cut hbw10 (by intro k hk; simp only [List.mem_singleton] at hk; omega)
    have hz_w10 : w5.heap.size ≤ w10.heap.size := by have h9 := hbw10.size; (try simp at h9); omega
    have HSR_13 := Lib.hid hrw10
    clear HSR_8
    have HBT_14 := Lib.hid (HBT_9.out.trans hc_wz11)
    clear HBT_9
    clear hrw10 hc_wz11
    clear k0_0 k0_1 k1_0 k1_1
    have k0_0 := hs12.cellAt 0 rfl 0 rfl
    have k0_1 := hs12.cellAt 0 rfl 1 rfl
    have k1_0 := hs12.cellAt 1 rfl 0 rfl
    have k1_1 := hs12.cellAt 1 rfl 1 rfl
    have HF1 := Lib.hid (fi1.low (lo' := w.heap.size + 1 + 1) (by (try simp); omega))
    have HF2 := Lib.hid (fi2.low (lo' := w.heap.size + 1 + 1) (by (try simp); omega))
    obtain ⟨a3, c3, rfl, _⟩ := rd_list (rd_cons rfl fi1.rd).2
    obtain ⟨a4, c4, rfl, _⟩ := rd_list (rd_cons rfl fi2.rd).2
    clear fi1 fi2
    have f0_0 := hs12.freeAt 0 rfl 0
    have f0_1 := hs12.freeAt 0 rfl 1
    have f1_0 := hs12.freeAt 1 rfl 0
    have f1_1 := hs12.freeAt 1 rfl 1
    go_wp2_with fail
    have hs15 := hs12.set (p := []) (by simp <;> omega) 0 (.int .i64 S3)
    have hs16 := hs15.set (p := []) (by simp <;> omega) 1 ((.slice a3 LT.length c3))
    have HSR_17 := Lib.hid (Src.below (B := B) (Src.below (B := B) HSR_13.out ((Below.refl B _).setCell (p := ⟨w.heap.size, 0, none⟩) (by (try simp) <;> omega) (.int .i64 S3))) ((Below.refl B _).setCell (p := ⟨w.heap.size, 1, none⟩) (by (try simp) <;> omega) ((.slice a3 LT.length c3))))
    clear HSR_13
    have HF1_18 := Lib.hid (Firm.setCell (b := w.heap.size) (o := 1) (Firm.setCell (b := w.heap.size) (o := 0) HF1.out (.int .i64 S3) (by (try simp) <;> omega)) ((.slice a3 LT.length c3)) (by (try simp) <;> omega))
    clear HF1
    have HF2_19 := Lib.hid (Firm.setCell (b := w.heap.size) (o := 1) (Firm.setCell (b := w.heap.size) (o := 0) HF2.out (.int .i64 S3) (by (try simp) <;> omega)) ((.slice a3 LT.length c3)) (by (try simp) <;> omega))
    clear HF2
    clear k0_0 k0_1 k1_0 k1_1
    have hz_wP : w10.heap.size ≤ (((w10.setCell ⟨w.heap.size, 0, none⟩ (.int .i64 S3)).setCell ⟨w.heap.size, 1, none⟩ ((.slice a3 LT.length c3)))).heap.size := by simp [World.setCell]
    generalize hgen_wP : ((w10.setCell ⟨w.heap.size, 0, none⟩ (.int .i64 S3)).setCell ⟨w.heap.size, 1, none⟩ ((.slice a3 LT.length c3))) = wP at *
    clear hgen_wP
    have k0_0 := hs16.cellAt 0 rfl 0 rfl
    have k0_1 := hs16.cellAt 0 rfl 1 rfl
    have k1_0 := hs16.cellAt 1 rfl 0 rfl
    have k1_1 := hs16.cellAt 1 rfl 1 rfl
    have hs20 := hs16.set (p := [_]) (by simp <;> omega) 0 (.int .i64 U3)
    have hs21 := hs20.set (p := [_]) (by simp <;> omega) 1 ((.slice a4 LI.length c4))
    have HSR_22 := Lib.hid (Src.below (B := B) (Src.below (B := B) HSR_17.out ((Below.refl B _).setCell (p := ⟨w.heap.size + 1, 0, none⟩) (by (try simp) <;> omega) (.int .i64 U3))) ((Below.refl B _).setCell (p := ⟨w.heap.size + 1, 1, none⟩) (by (try simp) <;> omega) ((.slice a4 LI.length c4))))
    clear HSR_17
    have HF1_23 := Lib.hid (Firm.setCell (b := w.heap.size + 1) (o := 1) (Firm.setCell (b := w.heap.size + 1) (o := 0) HF1_18.out (.int .i64 U3) (by (try simp) <;> omega)) ((.slice a4 LI.length c4)) (by (try simp) <;> omega))
    clear HF1_18
    have HF2_24 := Lib.hid (Firm.setCell (b := w.heap.size + 1) (o := 1) (Firm.setCell (b := w.heap.size + 1) (o := 0) HF2_19.out (.int .i64 U3) (by (try simp) <;> omega)) ((.slice a4 LI.length c4)) (by (try simp) <;> omega))
    clear HF2_19
    clear k0_0 k0_1 k1_0 k1_1
    have hz_wQ : wP.heap.size ≤ (((wP.setCell ⟨w.heap.size + 1, 0, none⟩ (.int .i64 U3)).setCell ⟨w.heap.size + 1, 1, none⟩ ((.slice a4 LI.length c4)))).heap.size := by simp [World.setCell]
    generalize hgen_wQ : ((wP.setCell ⟨w.heap.size + 1, 0, none⟩ (.int .i64 U3)).setCell ⟨w.heap.size + 1, 1, none⟩ ((.slice a4 LI.length c4))) = wQ at *
    clear hgen_wQ
    have k0_0 := hs21.cellAt 0 rfl 0 rfl
    have k0_1 := hs21.cellAt 0 rfl 1 rfl
    have k1_0 := hs21.cellAt 1 rfl 0 rfl
    have k1_1 := hs21.cellAt 1 rfl 1 rfl
    have x0 := (hs21.cellAt 0 rfl 0 rfl)
    have x1 := (hs21.cellAt 0 rfl 1 rfl)
    have x2 := (hs21.cellAt 1 rfl 0 rfl)
    have x3 := (hs21.cellAt 1 rfl 1 rfl)
    exact bodyPost_ret (v := .tuple #[.agg #[.int .i64 S3, (.slice a3 LT.length c3)], .agg #[.int .i64 U3, (.slice a4 LI.length c4)]]) (by simp [results, Tryz.results16, go_sem, x0, x1, x2, x3]) rfl ⟨S3, U3, _, _, rfl, LT, LI, HF1_23.out.low (by omega), HF2_24.out.low (by omega), HSR_22.out.more (by omega), HBT_14.out.trans (but_of hs21.bel)⟩
  | false =>
    go_wp2_with fail
    refine (pick_c 2 L B b (k + 1) _ HSR_8.out (by omega) (by omega) (by omega)).mono ?_
    rintro e w25 ⟨r0, rfl, hr0, hr1, hrw25, hbw25⟩
    obtain ⟨wz26, hs27, hz_wz26, hy_wz26, hc_wz26⟩ := hs7.cut hbw25 (by intro k hk; simp only [List.mem_singleton] at hk; omega)
    have hz_w25 : w5.heap.size ≤ w25.heap.size := by have h9 := hbw25.size; (try simp at h9); omega
    have HSR_28 := Lib.hid hrw25
    clear HSR_8
    have HBT_29 := Lib.hid (HBT_9.out.trans hc_wz26)
    clear HBT_9
    clear hrw25 hc_wz26
    clear k0_0 k0_1 k1_0 k1_1
    have k0_0 := hs27.cellAt 0 rfl 0 rfl
    have k0_1 := hs27.cellAt 0 rfl 1 rfl
    have k1_0 := hs27.cellAt 1 rfl 0 rfl
    have k1_1 := hs27.cellAt 1 rfl 1 rfl
    obtain ⟨SZ, hSZ⟩ : ∃ SZ : Nat, 2 + r0 = (SZ : Int) := ⟨(2 + r0).toNat, by omega⟩
    have hw1 : IntKind.i64.wrap (2 + r0) = (SZ : Int) := by rw [hSZ]; exact i64_in _ (by omega)
    have hSZ2 : 2 ≤ SZ ∧ SZ ≤ 3 := by omega
    obtain ⟨PN, hPN⟩ : ∃ PN : Nat, PN = SZ * SZ := ⟨_, rfl⟩
    have hPN9 : PN ≤ 9 := by rw [hPN]; rcases (show SZ = 2 ∨ SZ = 3 by omega) with h | h <;> rw [h] <;> decide
    have hwm : IntKind.i64.wrap ((SZ : Int) * SZ) = (PN : Int) := by
      have h1 : (SZ : Int) * SZ = (PN : Int) := by rw [hPN]; push_cast; rfl
      rw [h1]; exact i64_in _ (by omega)
    have HPN := Lib.hid hPN
    clear hPN
    clear hSZ
    have hs30 := hs27.alloc #[.int .i64 SZ, .slice none 0 0] 26 (n := w25.heap.size) (by simp)
    have HSR_31 := Lib.hid (Src.mono HSR_28.out (belowA _ (.cells #[.int .i64 SZ, .slice none 0 0] 26)))
    clear HSR_28
    clear k0_0 k0_1 k1_0 k1_1
    have k0_0 := hs30.cellAt 0 rfl 0 rfl
    have k0_1 := hs30.cellAt 0 rfl 1 rfl
    have k1_0 := hs30.cellAt 1 rfl 0 rfl
    have k1_1 := hs30.cellAt 1 rfl 1 rfl
    have k2_0 := hs30.cellAt 2 rfl 0 rfl
    have k2_1 := hs30.cellAt 2 rfl 1 rfl
    have hs32 := hs30.alloc #[.int .i64 2, .slice none 0 0] 57 (n := w25.heap.size + 1) (by simp)
    have HSR_33 := Lib.hid (Src.mono HSR_31.out (belowA _ (.cells #[.int .i64 2, .slice none 0 0] 57)))
    clear HSR_31
    clear k0_0 k0_1 k1_0 k1_1 k2_0 k2_1
    have k0_0 := hs32.cellAt 0 rfl 0 rfl
    have k0_1 := hs32.cellAt 0 rfl 1 rfl
    have k1_0 := hs32.cellAt 1 rfl 0 rfl
    have k1_1 := hs32.cellAt 1 rfl 1 rfl
    have k2_0 := hs32.cellAt 2 rfl 0 rfl
    have k2_1 := hs32.cellAt 2 rfl 1 rfl
    have k3_0 := hs32.cellAt 3 rfl 0 rfl
    have k3_1 := hs32.cellAt 3 rfl 1 rfl
    go_wp2_with fail
    have HST := Lib.hid hs32
    have HSR9 := Lib.hid HSR_33.out
    have HBT9 := Lib.hid HBT_29.out
    obtain ⟨TA, hTA⟩ : ∃ z, z = w25.heap.size := ⟨_, rfl⟩
    have hTL : w.heap.size + 1 + 1 ≤ TA := by omega
    rw [← hTA] at HST ⊢
    clear hTA
    go_loopw [7] (fun i wl => ∃ (j n : Nat) (wz : World) (a : Option Addr) (c : Nat) (l : List (List Int)), j ≤ PN ∧ i = .int .i64 j ∧ Hid (l.length = n ∧ n ≤ j) ∧ Hid (wz.heap.size = w.heap.size ∧ But [b] w wz) ∧ Hid (St wz (TA + 1 + 1) wl [(w.heap.size, #[.int .i64 0, .slice none 0 0], 26), (w.heap.size + 1, #[.int .i64 0, .slice none 0 0], 29), (TA, #[.int .i64 SZ, .slice none 0 0], 26), (TA + 1, #[.int .i64 2, .slice a n c], 57)]) ∧ Hid (AccP (fun z => TA + 1 + 1 ≤ z ∧ z < wl.heap.size) 47 wl (.slice a n c) l) ∧ Hid (Src L B wl b (k + 2))) (fun i _ => PN - (intOf i).toNat)
    case atStart => exact ⟨0, 0, wz26, none, 0, [], Nat.zero_le _, rfl, ⟨rfl, Nat.le_refl _⟩, ⟨by omega, HBT9.out⟩, HST.out, AccP.nil _ _ _, HSR9.out.more (by omega)⟩
    case round =>
      clear HST HSR9 HBT9
      obtain ⟨j, n, wz, a, c, l, hj, rfl, hl, hwz, hst, hac, hsr⟩ := hrel
      have HLN := Lib.hid hl.out.1
      have hnj := hl.out.2
      have HAC := hac
      have HSR := hsr
      have hwz1 := hwz.out.1
      have HBT := Lib.hid hwz.out.2
      have hs0 := hst.out
      have hszr := hst.out.hi
      have hlo0 := hst.out.lo
      clear hac hsr hl hwz hst
      have k0_0 := hs0.cellAt 0 rfl 0 rfl
      have k0_1 := hs0.cellAt 0 rfl 1 rfl
      have k1_0 := hs0.cellAt 1 rfl 0 rfl
      have k1_1 := hs0.cellAt 1 rfl 1 rfl
      have k2_0 := hs0.cellAt 2 rfl 0 rfl
      have k2_1 := hs0.cellAt 2 rfl 1 rfl
      have k3_0 := hs0.cellAt 3 rfl 0 rfl
      have k3_1 := hs0.cellAt 3 rfl 1 rfl
      by_cases hlt : j < PN
      · have hltI : (j : Int) < PN := by omega
        obtain ⟨QD, RM, hqd, hrm, hq9, hr9⟩ := quo_small hSZ2.1 hlt (by omega)
        have hwq : IntKind.i64.wrap (QD : Int) = (QD : Int) := i64_in _ (by omega)
        have hwr : IntKind.i64.wrap (RM : Int) = (RM : Int) := i64_in _ (by omega)
        have hsz0 : SZ ≠ 0 := by omega
        have hsz1 : (SZ : Int) ≠ 0 := by omega
        by_cases hqr : QD = RM
        · have hb : ((QD : Int) != (RM : Int)) = false := by simp [hqr]
          go_upto_region 9 with fail
          refine wp_region_noPanic (wp_region_tree4 (fun w' => w'.cell? ⟨w.heap.size, 0, none⟩ = some (.int .i64 0) ∧ w'.cell? ⟨w.heap.size, 1, none⟩ = some (.slice none 0 0) ∧ w'.cell? ⟨w.heap.size + 1, 0, none⟩ = some (.int .i64 0) ∧ w'.cell? ⟨w.heap.size + 1, 1, none⟩ = some (.slice none 0 0) ∧ w'.cell? ⟨TA, 0, none⟩ = some (.int .i64 SZ) ∧ w'.cell? ⟨TA, 1, none⟩ = some (.slice none 0 0) ∧ w'.cell? ⟨TA + 1, 0, none⟩ = some (.int .i64 2) ∧ w'.cell? ⟨TA + 1, 1, none⟩ = some (.slice a n c)) (.float 0 (.float 1 (.float 2 (.float 3 (.float 4 (.float 5 (.float 6 .nil))))))) (by kernel_rfl) (by kernel_rfl) (by kernel_rfl) rfl ?_ (fun _ _ _ _ _ h => h) ?_)
          · exact ⟨(hs0.drew).cellAt 0 rfl 0 rfl, (hs0.drew).cellAt 0 rfl 1 rfl, (hs0.drew).cellAt 1 rfl 0 rfl, (hs0.drew).cellAt 1 rfl 1 rfl, (hs0.drew).cellAt 2 rfl 0 rfl, (hs0.drew).cellAt 2 rfl 1 rfl, (hs0.drew).cellAt 3 rfl 0 rfl, (hs0.drew).cellAt 3 rfl 1 rfl⟩
          have hs34 := hs0.drew
          have HAC_35 := Lib.hid (AccP.mono HAC.out (belowD _))
          clear HAC
          have HSR_36 := Lib.hid (Src.mono HSR.out (belowD _))
          clear HSR
          clear k0_0 k0_1 k1_0 k1_1 k2_0 k2_1 k3_0 k3_1
          have hz_wd37 : wr.heap.size ≤ (wr.drew).heap.size := by simp
          generalize hgen_wd37 : wr.drew = wd37 at *
          have HG_wd37 := Lib.hid hgen_wd37
          clear hgen_wd37
          (repeat (first | (apply t4_skip rfl (by rfl); try simp only [Act.put, List.setIfInBounds_toArray, List.set_cons_zero, List.set_cons_succ]) | (apply t4_float rfl (by rfl); (· (intro w' hS; go_simp <;> with_reducible rfl)); (try simp only [Act.put, List.setIfInBounds_toArray, List.set_cons_zero, List.set_cons_succ]))))
          have k0_0 := hs34.cellAt 0 rfl 0 rfl
          have k0_1 := hs34.cellAt 0 rfl 1 rfl
          have k1_0 := hs34.cellAt 1 rfl 0 rfl
          have k1_1 := hs34.cellAt 1 rfl 1 rfl
          have k2_0 := hs34.cellAt 2 rfl 0 rfl
          have k2_1 := hs34.cellAt 2 rfl 1 rfl
          have k3_0 := hs34.cellAt 3 rfl 0 rfl
          have k3_1 := hs34.cellAt 3 rfl 1 rfl
          refine t4_nil (NoPanic.normal ?_)
          go_wp2_with fail
          go_roundw
          case rel => exact ⟨j + 1, n, wz, a, c, l, by omega, by go_num, ⟨HLN.out, by omega⟩, ⟨by omega, HBT.out⟩, hs34, HAC_35.out.wk (fun z hz => ⟨hz.1, by omega⟩), HSR_36.out⟩
          case measure => simp [intOf]; omega
        · have hb : ((QD : Int) != (RM : Int)) = true := by simp; omega
          go_upto_region 9 with fail
          refine wp_region_noPanic (wp_region_tree4 (fun w' => w'.cell? ⟨w.heap.size, 0, none⟩ = some (.int .i64 0) ∧ w'.cell? ⟨w.heap.size, 1, none⟩ = some (.slice none 0 0) ∧ w'.cell? ⟨w.heap.size + 1, 0, none⟩ = some (.int .i64 0) ∧ w'.cell? ⟨w.heap.size + 1, 1, none⟩ = some (.slice none 0 0) ∧ w'.cell? ⟨TA, 0, none⟩ = some (.int .i64 SZ) ∧ w'.cell? ⟨TA, 1, none⟩ = some (.slice none 0 0) ∧ w'.cell? ⟨TA + 1, 0, none⟩ = some (.int .i64 2) ∧ w'.cell? ⟨TA + 1, 1, none⟩ = some (.slice a n c)) (.float 0 (.float 1 (.float 2 (.float 3 (.float 4 (.float 5 (.float 6 .nil))))))) (by kernel_rfl) (by kernel_rfl) (by kernel_rfl) rfl ?_ (fun _ _ _ _ _ h => h) ?_)
          · exact ⟨(hs0.drew).cellAt 0 rfl 0 rfl, (hs0.drew).cellAt 0 rfl 1 rfl, (hs0.drew).cellAt 1 rfl 0 rfl, (hs0.drew).cellAt 1 rfl 1 rfl, (hs0.drew).cellAt 2 rfl 0 rfl, (hs0.drew).cellAt 2 rfl 1 rfl, (hs0.drew).cellAt 3 rfl 0 rfl, (hs0.drew).cellAt 3 rfl 1 rfl⟩
          have hs38 := hs0.drew
          have HAC_39 := Lib.hid (AccP.mono HAC.out (belowD _))
          clear HAC
          have HSR_40 := Lib.hid (Src.mono HSR.out (belowD _))
          clear HSR
          clear k0_0 k0_1 k1_0 k1_1 k2_0 k2_1 k3_0 k3_1
          have hz_wd41 : wr.heap.size ≤ (wr.drew).heap.size := by simp
          generalize hgen_wd41 : wr.drew = wd41 at *
          have HG_wd41 := Lib.hid hgen_wd41
          clear hgen_wd41
          (repeat (first | (apply t4_skip rfl (by rfl); try simp only [Act.put, List.setIfInBounds_toArray, List.set_cons_zero, List.set_cons_succ]) | (apply t4_float rfl (by rfl); (· (intro w' hS; go_simp <;> with_reducible rfl)); (try simp only [Act.put, List.setIfInBounds_toArray, List.set_cons_zero, List.set_cons_succ]))))
          have k0_0 := hs38.cellAt 0 rfl 0 rfl
          have k0_1 := hs38.cellAt 0 rfl 1 rfl
          have k1_0 := hs38.cellAt 1 rfl 0 rfl
          have k1_1 := hs38.cellAt 1 rfl 1 rfl
          have k2_0 := hs38.cellAt 2 rfl 0 rfl
          have k2_1 := hs38.cellAt 2 rfl 1 rfl
          have k3_0 := hs38.cellAt 3 rfl 0 rfl
          have k3_1 := hs38.cellAt 3 rfl 1 rfl
          refine t4_nil (NoPanic.normal ?_)
          go_upto_region 10 with fail
          refine wp_region_noPanic (wp_region_tree4 (fun w' => w'.cell? ⟨w.heap.size, 0, none⟩ = some (.int .i64 0) ∧ w'.cell? ⟨w.heap.size, 1, none⟩ = some (.slice none 0 0) ∧ w'.cell? ⟨w.heap.size + 1, 0, none⟩ = some (.int .i64 0) ∧ w'.cell? ⟨w.heap.size + 1, 1, none⟩ = some (.slice none 0 0) ∧ w'.cell? ⟨TA, 0, none⟩ = some (.int .i64 SZ) ∧ w'.cell? ⟨TA, 1, none⟩ = some (.slice none 0 0) ∧ w'.cell? ⟨TA + 1, 0, none⟩ = some (.int .i64 2) ∧ w'.cell? ⟨TA + 1, 1, none⟩ = some (.slice a n c)) (.float 0 (.float 1 (.float 2 (.float 3 (.float 4 (.float 5 (.float 6 (.float 7 (.hard 8 (.hard 9 (.hard 10 (.float 11 (.last 12 .nil))))))))))))) (by kernel_rfl) (by kernel_rfl) (by kernel_rfl) rfl ?_ (fun _ _ _ _ _ h => h) ?_)
          · exact ⟨(hs38.drew).cellAt 0 rfl 0 rfl, (hs38.drew).cellAt 0 rfl 1 rfl, (hs38.drew).cellAt 1 rfl 0 rfl, (hs38.drew).cellAt 1 rfl 1 rfl, (hs38.drew).cellAt 2 rfl 0 rfl, (hs38.drew).cellAt 2 rfl 1 rfl, (hs38.drew).cellAt 3 rfl 0 rfl, (hs38.drew).cellAt 3 rfl 1 rfl⟩
          have hs42 := hs38.drew
          have HAC_43 := Lib.hid (AccP.mono HAC_39.out (belowD _))
          clear HAC_39
          have HSR_44 := Lib.hid (Src.mono HSR_40.out (belowD _))
          clear HSR_40
          clear k0_0 k0_1 k1_0 k1_1 k2_0 k2_1 k3_0 k3_1
          have hz_wd45 : wd41.heap.size ≤ (wd41.drew).heap.size := by simp
          generalize hgen_wd45 : wd41.drew = wd45 at *
          have HG_wd45 := Lib.hid hgen_wd45
          clear hgen_wd45
          (repeat (first | (apply t4_skip rfl (by rfl); try simp only [Act.put, List.setIfInBounds_toArray, List.set_cons_zero, List.set_cons_succ]) | (apply t4_float rfl (by rfl); (· (intro w' hS; go_simp <;> with_reducible rfl)); (try simp only [Act.put, List.setIfInBounds_toArray, List.set_cons_zero, List.set_cons_succ]))))
          refine t4_hard rfl (by rfl) (fun K hK => ?_)
          go_wp2_with fail
          have hs46 := hs42.alloc #[.int .i64 QD, .int .i64 RM] 2 (n := wd45.heap.size) (by simp)
          have HAC_47 := Lib.hid (AccP.mono HAC_43.out (belowA _ (.cells #[.int .i64 QD, .int .i64 RM] 2)))
          clear HAC_43
          have HSR_48 := Lib.hid (Src.mono HSR_44.out (belowA _ (.cells #[.int .i64 QD, .int .i64 RM] 2)))
          clear HSR_44
          have HI0 := Lib.hid ((fresh_ilits [(QD : Int), (RM : Int)] (lo := wd45.heap.size) (hs46.box (wd45.heap.size, #[.int .i64 QD, .int .i64 RM], 2) (by simp)).2.2 (Nat.le_refl _) (fun a ha => by simp at ha; constructor <;> omega) (by simp)).ip)
          refine ⟨⟨hs46.cellAt 0 rfl 0 rfl, hs46.cellAt 0 rfl 1 rfl, hs46.cellAt 1 rfl 0 rfl, hs46.cellAt 1 rfl 1 rfl, hs46.cellAt 2 rfl 0 rfl, hs46.cellAt 2 rfl 1 rfl, hs46.cellAt 3 rfl 0 rfl, hs46.cellAt 3 rfl 1 rfl⟩, ?_⟩
          (repeat (first | (apply t4_skip rfl (by rfl); try simp only [Act.put, List.setIfInBounds_toArray, List.set_cons_zero, List.set_cons_succ]) | (apply t4_float rfl (by rfl); (· (intro w' hS; go_simp <;> with_reducible rfl)); (try simp only [Act.put, List.setIfInBounds_toArray, List.set_cons_zero, List.set_cons_succ]))))
          refine t4_hard rfl (by rfl) (fun K hK => ?_)
          go_wp2_with fail
          have hs49 := hs46.alloc #[.slice (some ⟨wd45.heap.size, 0, none⟩) 2 2] 47 (n := wd45.heap.size + 1) (by simp)
          have HAC_50 := Lib.hid (AccP.mono HAC_47.out (belowA _ (.cells #[.slice (some ⟨wd45.heap.size, 0, none⟩) 2 2] 47)))
          clear HAC_47
          have HSR_51 := Lib.hid (Src.mono HSR_48.out (belowA _ (.cells #[.slice (some ⟨wd45.heap.size, 0, none⟩) 2 2] 47)))
          clear HSR_48
          have HI0_52 := Lib.hid (Ip.mono HI0.out (belowA _ (.cells #[.slice (some ⟨wd45.heap.size, 0, none⟩) 2 2] 47)))
          clear HI0
          refine ⟨⟨hs49.cellAt 0 rfl 0 rfl, hs49.cellAt 0 rfl 1 rfl, hs49.cellAt 1 rfl 0 rfl, hs49.cellAt 1 rfl 1 rfl, hs49.cellAt 2 rfl 0 rfl, hs49.cellAt 2 rfl 1 rfl, hs49.cellAt 3 rfl 0 rfl, hs49.cellAt 3 rfl 1 rfl⟩, ?_⟩
          (repeat (first | (apply t4_skip rfl (by rfl); try simp only [Act.put, List.setIfInBounds_toArray, List.set_cons_zero, List.set_cons_succ]) | (apply t4_float rfl (by rfl); (· (intro w' hS; go_simp <;> with_reducible rfl)); (try simp only [Act.put, List.setIfInBounds_toArray, List.set_cons_zero, List.set_cons_succ]))))
          refine t4_hard rfl (by rfl) (fun K hK => ?_)
          have hlnw := HLN.out
          refine wp_append_accP _ _ _ _ rfl E_lists rfl HAC_50.out HI0_52.out (fun z h1 h2 => by (try simp only at h1 h2); omega) ⟨wd45.heap.size + 1, 0, none⟩ 1 rfl (news1 (hs49.cellAt 5 rfl 0 rfl)) (by omega) ?_
          simp only [HLN.out]
          intro a8 c8 w8 hA8 hB8
          have hz8 := hB8.size
          have hs8 := hs49.butP hB8 (fun z hz => by have := hz.1; omega) (fun x hx hA => by have h1 := hA.1; have h2 := hA.2; simp at hx; rcases hx with rfl | rfl | rfl | rfl | rfl | rfl <;> (try simp only at h1 h2) <;> omega)
          have HA2 := Lib.hid (AccP.wk hA8.tight (C := fun z => TA + 1 + 1 ≤ z ∧ z < w8.heap.size) (fun z hz => ⟨by
            have h2 := hz.2
            rcases hz.1 with h | h | h
            · exact h.1
            · (try simp only at h); omega
            · rw [h]; (try simp); omega, hz.2⟩))
          clear hA8
          clear HAC_50
          clear HI0_52
          have HSR_53 := Lib.hid (Src.below (B := B) HSR_51.out (hB8.below (fun z hz => by (try simp only at hz); omega) (by (try simp); omega)))
          clear HSR_51
          refine hK _ _ ⟨⟨hs8.cellAt 0 rfl 0 rfl, hs8.cellAt 0 rfl 1 rfl, hs8.cellAt 1 rfl 0 rfl, hs8.cellAt 1 rfl 1 rfl, hs8.cellAt 2 rfl 0 rfl, hs8.cellAt 2 rfl 1 rfl, hs8.cellAt 3 rfl 0 rfl, hs8.cellAt 3 rfl 1 rfl⟩, ?_⟩
          (repeat (first | (apply t4_skip rfl (by rfl); try simp only [Act.put, List.setIfInBounds_toArray, List.set_cons_zero, List.set_cons_succ]) | (apply t4_float rfl (by rfl); (· (intro w' hS; go_simp <;> with_reducible rfl)); (try simp only [Act.put, List.setIfInBounds_toArray, List.set_cons_zero, List.set_cons_succ]))))
          refine t4_last rfl (by rfl) (fun K hK => ?_)
          have k0_0 := hs8.cellAt 0 rfl 0 rfl
          have k0_1 := hs8.cellAt 0 rfl 1 rfl
          have k1_0 := hs8.cellAt 1 rfl 0 rfl
          have k1_1 := hs8.cellAt 1 rfl 1 rfl
          have k2_0 := hs8.cellAt 2 rfl 0 rfl
          have k2_1 := hs8.cellAt 2 rfl 1 rfl
          have k3_0 := hs8.cellAt 3 rfl 0 rfl
          have k3_1 := hs8.cellAt 3 rfl 1 rfl
          have k4_0 := hs8.cellAt 4 rfl 0 rfl
          have k4_1 := hs8.cellAt 4 rfl 1 rfl
          have k5_0 := hs8.cellAt 5 rfl 0 rfl
          have hs54 := hs8.low (B' := TA + 1 + 1) (bx' := [(w.heap.size, #[.int .i64 0, .slice none 0 0], 26), (w.heap.size + 1, #[.int .i64 0, .slice none 0 0], 29), (TA, #[.int .i64 SZ, .slice none 0 0], 26), (TA + 1, #[.int .i64 2, .slice a n c], 57)]) (by omega) (by (try simp) <;> omega) (fun x hx => by simp only [List.mem_cons, List.not_mem_nil, or_false] at hx; rcases hx with rfl | rfl | rfl | rfl <;> (refine ⟨?_, ?_⟩ <;> (try simp) <;> (try omega)))
          have f3_0 := hs54.freeAt 3 rfl 0
          have f3_1 := hs54.freeAt 3 rfl 1
          go_wp2_with fail
          refine t4_nil (NoPanic.normal ?_)
          have hs55 := hs54.set (p := [_, _, _]) (by simp <;> omega) 1 (.slice a8 (n + 1) c8)
          have HSR_56 := Lib.hid (Src.below (B := B) HSR_53.out ((Below.refl B _).setCell (p := ⟨TA + 1, 1, none⟩) (by (try simp) <;> omega) (.slice a8 (n + 1) c8)))
          clear HSR_53
          have HA2_57 := Lib.hid (AccP.setCell (b := TA + 1) (o := 1) HA2.out (.slice a8 (n + 1) c8) (by intro hA9; (try simp only at hA9); omega))
          clear HA2
          clear k0_0 k0_1 k1_0 k1_1 k2_0 k2_1 k3_0 k3_1 k4_0 k4_1 k5_0
          have hz_wE : w8.heap.size ≤ ((w8.setCell ⟨TA + 1, 1, none⟩ (.slice a8 (n + 1) c8))).heap.size := by simp [World.setCell]
          generalize hgen_wE : (w8.setCell ⟨TA + 1, 1, none⟩ (.slice a8 (n + 1) c8)) = wE at *
          clear hgen_wE
          have k0_0 := hs55.cellAt 0 rfl 0 rfl
          have k0_1 := hs55.cellAt 0 rfl 1 rfl
          have k1_0 := hs55.cellAt 1 rfl 0 rfl
          have k1_1 := hs55.cellAt 1 rfl 1 rfl
          have k2_0 := hs55.cellAt 2 rfl 0 rfl
          have k2_1 := hs55.cellAt 2 rfl 1 rfl
          have k3_0 := hs55.cellAt 3 rfl 0 rfl
          have k3_1 := hs55.cellAt 3 rfl 1 rfl
          go_wp2_with fail
          go_roundw
          case rel => exact ⟨j + 1, n + 1, wz, a8, c8, l ++ [[(QD : Int), (RM : Int)]], by omega, by go_num, ⟨by simp [hlnw], by omega⟩, ⟨by omega, HBT.out⟩, hs55, HA2_57.out.wk (fun z hz => ⟨hz.1, by omega⟩), HSR_56.out⟩
          case measure => simp [intOf]; omega
      · obtain rfl : j = PN := by omega
        have hnl : ¬ ((j : Int) < j) := by omega
        have HRL := Lib.hid (ip_relD (k := 2) ⟨by omega, by omega⟩ HAC.out.ip)
        have q9 := (hs0.cellAt 2 rfl 1 rfl)
        have q8 := (hs0.cellAt 3 rfl 0 rfl)
        have q7 := (hs0.cellAt 3 rfl 1 rfl)
        have hb9 := belowA wr (.cells #[.int .i64 2, .slice a n c] 57)
        have HS9 := Lib.hid (hs0.step hb9)
        have HR9 := Lib.hid (HSR.out.below (hb9.mono (by omega)))
        have HSZ9 := Lib.hid (show (wr.alloc (.cells #[.int .i64 2, .slice a n c] 57)).heap.size = wr.heap.size + 1 by simp)
        have HBT8 := Lib.hid HBT.out
        go_wp2_with (at_builtin; go_loud (refine wpList_append_accP _ rfl _ _ _ rfl E_rels rfl (AccP.nil (α := RelT) (fun _ => False) _ _) (Ip.mono HRL.out (belowA _ _)) (fun z h1 h2 => h1) ⟨wr.heap.size, 0, none⟩ 1 rfl (news2 (cell_at_block (heap_alloc_new _ _)) (cell_at_block (heap_alloc_new _ _))) (by simp) ?_); simp only [List.length_nil, Nat.zero_add, List.nil_append]; intro a8 c8 w8a hA8 hB8; have hs8 := HS9.out.butP hB8 (fun z hz => hz.elim) (fun x hx hA => hA.elim); have q2 := hs8.cellAt 2 rfl 1 rfl; have f2 := hs8.freeAt 2 rfl 1)
        have hz8 := hB8.size
        have hz9 : wr.heap.size + 1 ≤ w8a.heap.size := by have := HSZ9.out; omega
        have HSZ := Lib.hid (show (w8a.setCell ⟨TA, 1, none⟩ (.slice a8 1 c8)).heap.size = w8a.heap.size by simp [World.setCell])
        have HQ8 := hs8.set (p := [_, _]) (by simp <;> omega) 1 (.slice a8 1 c8)
        obtain ⟨RL0, hRL0⟩ : ∃ z : List RelT, z = [((2 : Int), l)] := ⟨_, rfl⟩
        rw [← hRL0] at hA8
        have HRN := Lib.hid (show RL0.length = 1 by rw [hRL0]; rfl)
        clear hRL0
        have HRB := Lib.hid ((AccP.setCell (b := TA) (o := 1) hA8.tight (.slice a8 1 c8) (by intro hA9; have h1 := hA9.1; rcases h1 with h | h | h; exact h; (try simp only at h); omega; (try simp at h); omega)).wk (C := fun z => TA + 1 + 1 ≤ z ∧ z < w8a.heap.size) (fun z hz => by
          have h2 := hz.2
          have h3 := HSZ9.out
          rcases hz.1 with h | h | h
          · exact h.elim
          · (try simp only at h); omega
          · rw [h] at h2 ⊢; omega))
        have HSR := Lib.hid ((HR9.out.below (hB8.below (fun z hz => hz.elim) (by have := HSZ9.out; omega))).below ((Below.refl B w8a).setCell (p := ⟨TA, 1, none⟩) (by (try simp); omega) (.slice a8 1 c8)))
        have hzY : wr.heap.size + 1 ≤ (w8a.setCell ⟨TA, 1, none⟩ (.slice a8 1 c8)).heap.size := by rw [HSZ.out]; exact hz9
        have HRB := Lib.hid (HRB.out.wk (C := fun z => TA + 1 + 1 ≤ z ∧ z < (w8a.setCell ⟨TA, 1, none⟩ (.slice a8 1 c8)).heap.size) (fun z hz => by rw [HSZ.out]; exact hz))
        have HBT := HBT8
        generalize w8a.setCell ⟨TA, 1, none⟩ (.slice a8 1 c8) = wY at *
        clear HBT8 HR9 hA8 HSZ9 HS9 hb9 HRL hB8
        have k0_0 := HQ8.cellAt 0 rfl 0 rfl
        have k0_1 := HQ8.cellAt 0 rfl 1 rfl
        have k1_0 := HQ8.cellAt 1 rfl 0 rfl
        have k1_1 := HQ8.cellAt 1 rfl 1 rfl
        have k2_0 := HQ8.cellAt 2 rfl 0 rfl
        have k2_1 := HQ8.cellAt 2 rfl 1 rfl
        have k3_0 := HQ8.cellAt 3 rfl 0 rfl
        have k3_1 := HQ8.cellAt 3 rfl 1 rfl
        go_wp2_with fail
        refine (one_c 2 L B b (k + 2) _ HSR.out (by omega) (by omega) (by omega)).mono ?_
        rintro e w58 ⟨yes2, rfl, hrw58, hbw58⟩
        obtain ⟨wz59, hs60, hz_wz59, hy_wz59, hc_wz59⟩ := HQ8.cut hbw58 (by intro k hk; simp only [List.mem_singleton] at hk; omega)
        have hz_w58 : wY.heap.size ≤ w58.heap.size := by have h9 := hbw58.size; (try simp at h9); omega
        have HRB_61 := Lib.hid (AccP.butL HRB.out hbw58 (by intro k hk; simp only [List.mem_singleton] at hk; omega))
        clear HRB
        have HSR_62 := Lib.hid hrw58
        clear HSR
        have HBT_63 := Lib.hid (HBT.out.trans hc_wz59)
        clear HBT
        clear hrw58 hc_wz59
        clear k0_0 k0_1 k1_0 k1_1 k2_0 k2_1 k3_0 k3_1
        have k0_0 := hs60.cellAt 0 rfl 0 rfl
        have k0_1 := hs60.cellAt 0 rfl 1 rfl
        have k1_0 := hs60.cellAt 1 rfl 0 rfl
        have k1_1 := hs60.cellAt 1 rfl 1 rfl
        have k2_0 := hs60.cellAt 2 rfl 0 rfl
        have k2_1 := hs60.cellAt 2 rfl 1 rfl
        have k3_0 := hs60.cellAt 3 rfl 0 rfl
        have k3_1 := hs60.cellAt 3 rfl 1 rfl
        cases yes2 with
        | false =>
          go_wp2_with fail
          refine (pick_c 2 L B b (k + 2000) _ (HSR_62.out.more (by omega)) (by omega) (by omega) (by omega)).mono ?_
          rintro e w64 ⟨r4, rfl, hr40, hr41, hrw64, hbw64⟩
          obtain ⟨wz65, hs66, hz_wz65, hy_wz65, hc_wz65⟩ := hs60.cut hbw64 (by intro k hk; simp only [List.mem_singleton] at hk; omega)
          have hz_w64 : w58.heap.size ≤ w64.heap.size := by have h9 := hbw64.size; (try simp at h9); omega
          have HRB_67 := Lib.hid (AccP.butL HRB_61.out hbw64 (by intro k hk; simp only [List.mem_singleton] at hk; omega))
          clear HRB_61
          have HSR_68 := Lib.hid hrw64
          clear HSR_62
          have HBT_69 := Lib.hid (HBT_63.out.trans hc_wz65)
          clear HBT_63
          clear hrw64 hc_wz65
          clear k0_0 k0_1 k1_0 k1_1 k2_0 k2_1 k3_0 k3_1
          have k0_0 := hs66.cellAt 0 rfl 0 rfl
          have k0_1 := hs66.cellAt 0 rfl 1 rfl
          have k1_0 := hs66.cellAt 1 rfl 0 rfl
          have k1_1 := hs66.cellAt 1 rfl 1 rfl
          have k2_0 := hs66.cellAt 2 rfl 0 rfl
          have k2_1 := hs66.cellAt 2 rfl 1 rfl
          have k3_0 := hs66.cellAt 3 rfl 0 rfl
          have k3_1 := hs66.cellAt 3 rfl 1 rfl
          obtain ⟨U, hU⟩ : ∃ U : Nat, 3 + r4 = (U : Int) := ⟨(3 + r4).toNat, by omega⟩
          have hw4 : IntKind.i64.wrap (3 + r4) = (U : Int) := by rw [hU]; exact i64_in _ (by omega)
          have hUU : 3 ≤ U ∧ U ≤ 4 := by omega
          clear hU
          have hs70 := hs66.alloc #[.int .i64 U, .slice none 0 0] 29 (n := w64.heap.size) (by simp)
          have HRB_71 := Lib.hid (AccP.mono HRB_67.out (belowA _ (.cells #[.int .i64 U, .slice none 0 0] 29)))
          clear HRB_67
          have HSR_72 := Lib.hid (Src.mono HSR_68.out (belowA _ (.cells #[.int .i64 U, .slice none 0 0] 29)))
          clear HSR_68
          clear k0_0 k0_1 k1_0 k1_1 k2_0 k2_1 k3_0 k3_1
          have k0_0 := hs70.cellAt 0 rfl 0 rfl
          have k0_1 := hs70.cellAt 0 rfl 1 rfl
          have k1_0 := hs70.cellAt 1 rfl 0 rfl
          have k1_1 := hs70.cellAt 1 rfl 1 rfl
          have k2_0 := hs70.cellAt 2 rfl 0 rfl
          have k2_1 := hs70.cellAt 2 rfl 1 rfl
          have k3_0 := hs70.cellAt 3 rfl 0 rfl
          have k3_1 := hs70.cellAt 3 rfl 1 rfl
          have k4_0 := hs70.cellAt 4 rfl 0 rfl
          have k4_1 := hs70.cellAt 4 rfl 1 rfl
          go_wp2_with fail
          refine (pick_c 7 L B b (k + 2001) _ HSR_72.out (by omega) (by omega) (by omega)).mono ?_
          rintro e w73 ⟨r5, rfl, hr50, hr51, hrw73, hbw73⟩
          obtain ⟨wz74, hs75, hz_wz74, hy_wz74, hc_wz74⟩ := hs70.cut hbw73 (by intro k hk; simp only [List.mem_singleton] at hk; omega)
          have hz_w73 : w64.heap.size + 1 ≤ w73.heap.size := by have h9 := hbw73.size; (try simp at h9); omega
          have HRB_76 := Lib.hid (AccP.butL HRB_71.out hbw73 (by intro k hk; simp only [List.mem_singleton] at hk; omega))
          clear HRB_71
          have HSR_77 := Lib.hid hrw73
          clear HSR_72
          have HBT_78 := Lib.hid (HBT_69.out.trans hc_wz74)
          clear HBT_69
          clear hrw73 hc_wz74
          clear k0_0 k0_1 k1_0 k1_1 k2_0 k2_1 k3_0 k3_1 k4_0 k4_1
          have k0_0 := hs75.cellAt 0 rfl 0 rfl
          have k0_1 := hs75.cellAt 0 rfl 1 rfl
          have k1_0 := hs75.cellAt 1 rfl 0 rfl
          have k1_1 := hs75.cellAt 1 rfl 1 rfl
          have k2_0 := hs75.cellAt 2 rfl 0 rfl
          have k2_1 := hs75.cellAt 2 rfl 1 rfl
          have k3_0 := hs75.cellAt 3 rfl 0 rfl
          have k3_1 := hs75.cellAt 3 rfl 1 rfl
          have k4_0 := hs75.cellAt 4 rfl 0 rfl
          have k4_1 := hs75.cellAt 4 rfl 1 rfl
          obtain ⟨K, hK⟩ : ∃ K : Nat, 3 + r5 = (K : Int) := ⟨(3 + r5).toNat, by omega⟩
          have hw5 : IntKind.i64.wrap (3 + r5) = (K : Int) := by rw [hK]; exact i64_in _ (by omega)
          have hKK : 3 ≤ K ∧ K ≤ 9 := by omega
          clear hK
          go_wp2_with fail
          have HST := Lib.hid hs75
          have HSR9 := Lib.hid HSR_77.out
          have HBT9 := Lib.hid HBT_78.out
          obtain ⟨XA, hXA⟩ : ∃ z, z = w64.heap.size := ⟨_, rfl⟩
          have hXL : TA + 1 + 1 ≤ XA := by omega
          have HRB9 := Lib.hid (HRB_76.out.wk (C := fun z => TA + 1 + 1 ≤ z ∧ z < XA) (fun z hz => ⟨hz.1, by have := hz.2; omega⟩))
          rw [← hXA] at HST ⊢
          clear hXA
          go_loopw [9] (fun i wl => ∃ (m q : Nat) (wz : World) (ax : Option Addr) (cx : Nat) (lx : List OpT), m + q = K ∧ i = .int .i64 q ∧ Hid (lx.length = m) ∧ Hid (wz.heap.size = w.heap.size ∧ But [b] w wz) ∧ Hid (St wz (XA + 1) wl [(w.heap.size, #[.int .i64 0, .slice none 0 0], 26), (w.heap.size + 1, #[.int .i64 0, .slice none 0 0], 29), (TA, #[.int .i64 SZ, .slice a8 1 c8], 26), (TA + 1, #[.int .i64 2, .slice a n c], 57), (XA, #[.int .i64 U, .slice ax m cx], 29)]) ∧ Hid (AccP (fun z => XA + 1 ≤ z ∧ z < wl.heap.size) 60 wl (.slice ax m cx) lx) ∧ Hid (AccP (fun z => TA + 1 + 1 ≤ z ∧ z < XA) 57 wl (.slice a8 1 c8) RL0) ∧ Hid (Src L B wl b (k + 2002 + 10 * m))) (fun i _ => (intOf i).toNat)
          case atStart => exact ⟨0, K, wz74, none, 0, [], by omega, rfl, rfl, ⟨by omega, HBT9.out⟩, HST.out, AccP.nil _ _ _, HRB9.out, HSR9.out.more (by omega)⟩
          case round =>
            clear HST HSR9 HBT9 HRB9
            obtain ⟨m, q, wz2, ax, cx, lx, hmq, rfl, hlx, hwz2, hst2, hac2, hrb2, hsr2⟩ := hrel
            have HCN := hlx
            have HAX := hac2
            have HRB := hrb2
            have HSR := hsr2
            have hwz3 := hwz2.out.1
            have HBT := Lib.hid hwz2.out.2
            have hs2 := hst2.out
            have hszr2 := hst2.out.hi
            have hlo2 := hst2.out.lo
            clear hac2 hrb2 hsr2 hlx hwz2 hst2
            have k0_0 := hs2.cellAt 0 rfl 0 rfl
            have k0_1 := hs2.cellAt 0 rfl 1 rfl
            have k1_0 := hs2.cellAt 1 rfl 0 rfl
            have k1_1 := hs2.cellAt 1 rfl 1 rfl
            have k2_0 := hs2.cellAt 2 rfl 0 rfl
            have k2_1 := hs2.cellAt 2 rfl 1 rfl
            have k3_0 := hs2.cellAt 3 rfl 0 rfl
            have k3_1 := hs2.cellAt 3 rfl 1 rfl
            have k4_0 := hs2.cellAt 4 rfl 0 rfl
            have k4_1 := hs2.cellAt 4 rfl 1 rfl
            by_cases hlq : 0 < q
            · have hlqI : (0 : Int) < q := by omega
              have hdq : IntKind.i64.wrap ((q : Int) - 1) = ((q - 1 : Nat) : Int) := by rw [i64_in _ (by omega)]; omega
              go_wp2_with fail
              refine (pick_c U L B b (k + 2002 + 10 * m) _ HSR.out (by omega) (by omega) (by omega)).mono ?_
              rintro e w79 ⟨a1, rfl, ha10, ha11, hrw79, hbw79⟩
              obtain ⟨wz80, hs81, hz_wz80, hy_wz80, hc_wz80⟩ := hs2.cut hbw79 (by intro k hk; simp only [List.mem_singleton] at hk; omega)
              have hz_w79 : wr.heap.size ≤ w79.heap.size := by have h9 := hbw79.size; (try simp at h9); omega
              have HAX_82 := Lib.hid (AccP.butL HAX.out hbw79 (by intro k hk; simp only [List.mem_singleton] at hk; omega))
              clear HAX
              have HRB_83 := Lib.hid (AccP.butL HRB.out hbw79 (by intro k hk; simp only [List.mem_singleton] at hk; omega))
              clear HRB
              have HSR_84 := Lib.hid hrw79
              clear HSR
              have HBT_85 := Lib.hid (HBT.out.trans hc_wz80)
              clear HBT
              clear hrw79 hc_wz80
              clear k0_0 k0_1 k1_0 k1_1 k2_0 k2_1 k3_0 k3_1 k4_0 k4_1
              have k0_0 := hs81.cellAt 0 rfl 0 rfl
              have k0_1 := hs81.cellAt 0 rfl 1 rfl
              have k1_0 := hs81.cellAt 1 rfl 0 rfl
              have k1_1 := hs81.cellAt 1 rfl 1 rfl
              have k2_0 := hs81.cellAt 2 rfl 0 rfl
              have k2_1 := hs81.cellAt 2 rfl 1 rfl
              have k3_0 := hs81.cellAt 3 rfl 0 rfl
              have k3_1 := hs81.cellAt 3 rfl 1 rfl
              have k4_0 := hs81.cellAt 4 rfl 0 rfl
              have k4_1 := hs81.cellAt 4 rfl 1 rfl
              have hwu : IntKind.i64.wrap ((U : Int) - 1) = (U : Int) - 1 := i64_in _ (by omega)
              have hwa : IntKind.i64.wrap (a1 + 1) = a1 + 1 := i64_in _ (by omega)
              have hu0 : U ≠ 0 := by omega
              have hu1 : (U : Int) ≠ 0 := by omega
              go_upto_region 19 with fail
              refine wp_region_noPanic (wp_region_tree4 (fun w' => w'.cell? ⟨w.heap.size, 0, none⟩ = some (.int .i64 0) ∧ w'.cell? ⟨w.heap.size, 1, none⟩ = some (.slice none 0 0) ∧ w'.cell? ⟨w.heap.size + 1, 0, none⟩ = some (.int .i64 0) ∧ w'.cell? ⟨w.heap.size + 1, 1, none⟩ = some (.slice none 0 0) ∧ w'.cell? ⟨TA, 0, none⟩ = some (.int .i64 SZ) ∧ w'.cell? ⟨TA, 1, none⟩ = some (.slice a8 1 c8) ∧ w'.cell? ⟨TA + 1, 0, none⟩ = some (.int .i64 2) ∧ w'.cell? ⟨TA + 1, 1, none⟩ = some (.slice a n c) ∧ w'.cell? ⟨XA, 0, none⟩ = some (.int .i64 U) ∧ w'.cell? ⟨XA, 1, none⟩ = some (.slice ax m cx)) (.float 0 (.float 1 (.float 2 (.float 3 (.float 4 (.float 5 (.float 8 (.float 9 (.hard 6 (.float 7 (.float 10 (.float 11 .nil)))))))))))) (by kernel_rfl) (by kernel_rfl) (by kernel_rfl) rfl ?_ (fun _ _ _ _ _ h => h) ?_)
              · exact ⟨(hs81.drew).cellAt 0 rfl 0 rfl, (hs81.drew).cellAt 0 rfl 1 rfl, (hs81.drew).cellAt 1 rfl 0 rfl, (hs81.drew).cellAt 1 rfl 1 rfl, (hs81.drew).cellAt 2 rfl 0 rfl, (hs81.drew).cellAt 2 rfl 1 rfl, (hs81.drew).cellAt 3 rfl 0 rfl, (hs81.drew).cellAt 3 rfl 1 rfl, (hs81.drew).cellAt 4 rfl 0 rfl, (hs81.drew).cellAt 4 rfl 1 rfl⟩
              have hs86 := hs81.drew
              have HAX_87 := Lib.hid (AccP.mono HAX_82.out (belowD _))
              clear HAX_82
              have HRB_88 := Lib.hid (AccP.mono HRB_83.out (belowD _))
              clear HRB_83
              have HSR_89 := Lib.hid (Src.mono HSR_84.out (belowD _))
              clear HSR_84
              clear k0_0 k0_1 k1_0 k1_1 k2_0 k2_1 k3_0 k3_1 k4_0 k4_1
              have hz_wd90 : w79.heap.size ≤ (w79.drew).heap.size := by simp
              generalize hgen_wd90 : w79.drew = wd90 at *
              have HG_wd90 := Lib.hid hgen_wd90
              clear hgen_wd90
              (repeat (first | (apply t4_skip rfl (by rfl); try simp only [Act.put, List.setIfInBounds_toArray, List.set_cons_zero, List.set_cons_succ]) | (apply t4_float rfl (by rfl); (· (intro w' hS; go_simp <;> with_reducible rfl)); (try simp only [Act.put, List.setIfInBounds_toArray, List.set_cons_zero, List.set_cons_succ]))))
              refine t4_hard rfl (by rfl) (fun K hK => ?_)
              go_wp2_with (go_at_call 38; refine (pick_c ((U : Int) - 1) L B b (k + 2002 + 10 * m + 1) _ HSR_89.out (by omega) (by omega) (by omega)).mono ?_; rintro e w91 ⟨r6, rfl, hr60, hr61, hrw91, hbw91⟩)
              obtain ⟨wz92, hs93, hz_wz92, hy_wz92, hc_wz92⟩ := hs86.cut hbw91 (by intro k hk; simp only [List.mem_singleton] at hk; omega)
              have hz_w91 : wd90.heap.size ≤ w91.heap.size := by have h9 := hbw91.size; (try simp at h9); omega
              have HAX_94 := Lib.hid (AccP.butL HAX_87.out hbw91 (by intro k hk; simp only [List.mem_singleton] at hk; omega))
              clear HAX_87
              have HRB_95 := Lib.hid (AccP.butL HRB_88.out hbw91 (by intro k hk; simp only [List.mem_singleton] at hk; omega))
              clear HRB_88
              have HSR_96 := Lib.hid hrw91
              clear HSR_89
              have HBT_97 := Lib.hid (HBT_85.out.trans hc_wz92)
              clear HBT_85
              clear hrw91 hc_wz92
              have hw6 : IntKind.i64.wrap (a1 + 1 + r6) = a1 + 1 + r6 := i64_in _ (by omega)
              obtain ⟨BV, hBV⟩ : ∃ BV, BV = (a1 + 1 + r6).tmod (U : Int) := ⟨_, rfl⟩
              have hBV0 : 0 ≤ BV ∧ BV < U := by
                rw [hBV, Int.tmod_eq_emod_of_nonneg (by omega)]
                exact ⟨Int.emod_nonneg _ hu1, Int.emod_lt_of_pos _ (by omega)⟩
              have hBV9 := hBV.symm
              have hwB : IntKind.i64.wrap BV = BV := i64_in _ (by omega)
              clear hBV
              refine ⟨⟨hs93.cellAt 0 rfl 0 rfl, hs93.cellAt 0 rfl 1 rfl, hs93.cellAt 1 rfl 0 rfl, hs93.cellAt 1 rfl 1 rfl, hs93.cellAt 2 rfl 0 rfl, hs93.cellAt 2 rfl 1 rfl, hs93.cellAt 3 rfl 0 rfl, hs93.cellAt 3 rfl 1 rfl, hs93.cellAt 4 rfl 0 rfl, hs93.cellAt 4 rfl 1 rfl⟩, ?_⟩
              (repeat (first | (apply t4_skip rfl (by rfl); try simp only [Act.put, List.setIfInBounds_toArray, List.set_cons_zero, List.set_cons_succ]) | (apply t4_float rfl (by rfl); (· (intro w' hS; go_simp <;> with_reducible rfl)); (try simp only [Act.put, List.setIfInBounds_toArray, List.set_cons_zero, List.set_cons_succ]))))
              have k0_0 := hs93.cellAt 0 rfl 0 rfl
              have k0_1 := hs93.cellAt 0 rfl 1 rfl
              have k1_0 := hs93.cellAt 1 rfl 0 rfl
              have k1_1 := hs93.cellAt 1 rfl 1 rfl
              have k2_0 := hs93.cellAt 2 rfl 0 rfl
              have k2_1 := hs93.cellAt 2 rfl 1 rfl
              have k3_0 := hs93.cellAt 3 rfl 0 rfl
              have k3_1 := hs93.cellAt 3 rfl 1 rfl
              have k4_0 := hs93.cellAt 4 rfl 0 rfl
              have k4_1 := hs93.cellAt 4 rfl 1 rfl
              refine t4_nil (NoPanic.normal ?_)
              go_upto_region 20 with fail
              refine wp_region_noPanic (wp_region_tree4 (fun w' => w'.cell? ⟨w.heap.size, 0, none⟩ = some (.int .i64 0) ∧ w'.cell? ⟨w.heap.size, 1, none⟩ = some (.slice none 0 0) ∧ w'.cell? ⟨w.heap.size + 1, 0, none⟩ = some (.int .i64 0) ∧ w'.cell? ⟨w.heap.size + 1, 1, none⟩ = some (.slice none 0 0) ∧ w'.cell? ⟨TA, 0, none⟩ = some (.int .i64 SZ) ∧ w'.cell? ⟨TA, 1, none⟩ = some (.slice a8 1 c8) ∧ w'.cell? ⟨TA + 1, 0, none⟩ = some (.int .i64 2) ∧ w'.cell? ⟨TA + 1, 1, none⟩ = some (.slice a n c) ∧ w'.cell? ⟨XA, 0, none⟩ = some (.int .i64 U) ∧ w'.cell? ⟨XA, 1, none⟩ = some (.slice ax m cx)) (.float 0 (.float 1 (.float 2 (.float 3 (.float 4 (.float 5 (.float 7 (.float 8 (.fork2 6 (.hard 9 (.float 10 (.hard 11 (.hard 12 (.float 13 (.last 14 .nil)))))) 9 (.hard 6 (.float 10 (.hard 11 (.hard 12 (.float 13 (.last 14 .nil))))))))))))))) (by kernel_rfl) (by kernel_rfl) (by kernel_rfl) rfl ?_ (fun _ _ _ _ _ h => h) ?_)
              · exact ⟨(hs93.drew).cellAt 0 rfl 0 rfl, (hs93.drew).cellAt 0 rfl 1 rfl, (hs93.drew).cellAt 1 rfl 0 rfl, (hs93.drew).cellAt 1 rfl 1 rfl, (hs93.drew).cellAt 2 rfl 0 rfl, (hs93.drew).cellAt 2 rfl 1 rfl, (hs93.drew).cellAt 3 rfl 0 rfl, (hs93.drew).cellAt 3 rfl 1 rfl, (hs93.drew).cellAt 4 rfl 0 rfl, (hs93.drew).cellAt 4 rfl 1 rfl⟩
              have hs98 := hs93.drew
              have HAX_99 := Lib.hid (AccP.mono HAX_94.out (belowD _))
              clear HAX_94
              have HRB_100 := Lib.hid (AccP.mono HRB_95.out (belowD _))
              clear HRB_95
              have HSR_101 := Lib.hid (Src.mono HSR_96.out (belowD _))
              clear HSR_96
              clear k0_0 k0_1 k1_0 k1_1 k2_0 k2_1 k3_0 k3_1 k4_0 k4_1
              have hz_wd102 : w91.heap.size ≤ (w91.drew).heap.size := by simp
              generalize hgen_wd102 : w91.drew = wd102 at *
              have HG_wd102 := Lib.hid hgen_wd102
              clear hgen_wd102
              (repeat (first | (apply t4_skip rfl (by rfl); try simp only [Act.put, List.setIfInBounds_toArray, List.set_cons_zero, List.set_cons_succ]) | (apply t4_float rfl (by rfl); (· (intro w' hS; go_simp <;> with_reducible rfl)); (try simp only [Act.put, List.setIfInBounds_toArray, List.set_cons_zero, List.set_cons_succ]))))
              refine t4_fork2 ?_ ?_
              · refine t4_hard rfl (by rfl) (fun K hK => ?_)
                go_wp2_with (go_at_call 38; refine (pickG_c 1 L B b (k + 2002 + 10 * m + 2) _ HSR_101.out (by omega) (by omega)).mono ?_; rintro e w103 ⟨rr, rfl, hrr0, hrr1, hrw103, hbw103⟩)
                obtain ⟨wz104, hs105, hz_wz104, hy_wz104, hc_wz104⟩ := hs98.cut hbw103 (by intro k hk; simp only [List.mem_singleton] at hk; omega)
                have hz_w103 : wd102.heap.size ≤ w103.heap.size := by have h9 := hbw103.size; (try simp at h9); omega
                have HAX_106 := Lib.hid (AccP.butL HAX_99.out hbw103 (by intro k hk; simp only [List.mem_singleton] at hk; omega))
                clear HAX_99
                have HRB_107 := Lib.hid (AccP.butL HRB_100.out hbw103 (by intro k hk; simp only [List.mem_singleton] at hk; omega))
                clear HRB_100
                have HSR_108 := Lib.hid hrw103
                clear HSR_101
                have HBT_109 := Lib.hid (HBT_97.out.trans hc_wz104)
                clear HBT_97
                clear hrw103 hc_wz104
                have hrr2 := hrr1 (by omega)
                refine ⟨⟨hs105.cellAt 0 rfl 0 rfl, hs105.cellAt 0 rfl 1 rfl, hs105.cellAt 1 rfl 0 rfl, hs105.cellAt 1 rfl 1 rfl, hs105.cellAt 2 rfl 0 rfl, hs105.cellAt 2 rfl 1 rfl, hs105.cellAt 3 rfl 0 rfl, hs105.cellAt 3 rfl 1 rfl, hs105.cellAt 4 rfl 0 rfl, hs105.cellAt 4 rfl 1 rfl⟩, ?_⟩
                (repeat (first | (apply t4_skip rfl (by rfl); try simp only [Act.put, List.setIfInBounds_toArray, List.set_cons_zero, List.set_cons_succ]) | (apply t4_float rfl (by rfl); (· (intro w' hS; go_simp <;> with_reducible rfl)); (try simp only [Act.put, List.setIfInBounds_toArray, List.set_cons_zero, List.set_cons_succ]))))
                refine t4_hard rfl (by rfl) (fun K hK => ?_)
                go_wp2_with fail
                have hs110 := hs105.alloc #[.int .i64 a1, .int .i64 BV] 2 (n := w103.heap.size) (by simp)
                have HAX_111 := Lib.hid (AccP.mono HAX_106.out (belowA _ (.cells #[.int .i64 a1, .int .i64 BV] 2)))
                clear HAX_106
                have HRB_112 := Lib.hid (AccP.mono HRB_107.out (belowA _ (.cells #[.int .i64 a1, .int .i64 BV] 2)))
                clear HRB_107
                have HSR_113 := Lib.hid (Src.mono HSR_108.out (belowA _ (.cells #[.int .i64 a1, .int .i64 BV] 2)))
                clear HSR_108
                have HI0 := Lib.hid ((fresh_ilits [a1, BV] (lo := w103.heap.size) (hs110.box (w103.heap.size, #[.int .i64 a1, .int .i64 BV], 2) (by simp)).2.2 (Nat.le_refl _) (fun a ha => by simp at ha; constructor <;> omega) (by simp)).ip)
                refine ⟨⟨hs110.cellAt 0 rfl 0 rfl, hs110.cellAt 0 rfl 1 rfl, hs110.cellAt 1 rfl 0 rfl, hs110.cellAt 1 rfl 1 rfl, hs110.cellAt 2 rfl 0 rfl, hs110.cellAt 2 rfl 1 rfl, hs110.cellAt 3 rfl 0 rfl, hs110.cellAt 3 rfl 1 rfl, hs110.cellAt 4 rfl 0 rfl, hs110.cellAt 4 rfl 1 rfl⟩, ?_⟩
                (repeat (first | (apply t4_skip rfl (by rfl); try simp only [Act.put, List.setIfInBounds_toArray, List.set_cons_zero, List.set_cons_succ]) | (apply t4_float rfl (by rfl); (· (intro w' hS; go_simp <;> with_reducible rfl)); (try simp only [Act.put, List.setIfInBounds_toArray, List.set_cons_zero, List.set_cons_succ]))))
                refine t4_hard rfl (by rfl) (fun K hK => ?_)
                go_wp2_with fail
                have hs114 := hs110.alloc #[.int .i64 rr, .slice (some ⟨w103.heap.size, 0, none⟩) 2 2] 60 (n := w103.heap.size + 1) (by simp)
                have HAX_115 := Lib.hid (AccP.mono HAX_111.out (belowA _ (.cells #[.int .i64 rr, .slice (some ⟨w103.heap.size, 0, none⟩) 2 2] 60)))
                clear HAX_111
                have HRB_116 := Lib.hid (AccP.mono HRB_112.out (belowA _ (.cells #[.int .i64 rr, .slice (some ⟨w103.heap.size, 0, none⟩) 2 2] 60)))
                clear HRB_112
                have HSR_117 := Lib.hid (Src.mono HSR_113.out (belowA _ (.cells #[.int .i64 rr, .slice (some ⟨w103.heap.size, 0, none⟩) 2 2] 60)))
                clear HSR_113
                have HI0_118 := Lib.hid (Ip.mono HI0.out (belowA _ (.cells #[.int .i64 rr, .slice (some ⟨w103.heap.size, 0, none⟩) 2 2] 60)))
                clear HI0
                refine ⟨⟨hs114.cellAt 0 rfl 0 rfl, hs114.cellAt 0 rfl 1 rfl, hs114.cellAt 1 rfl 0 rfl, hs114.cellAt 1 rfl 1 rfl, hs114.cellAt 2 rfl 0 rfl, hs114.cellAt 2 rfl 1 rfl, hs114.cellAt 3 rfl 0 rfl, hs114.cellAt 3 rfl 1 rfl, hs114.cellAt 4 rfl 0 rfl, hs114.cellAt 4 rfl 1 rfl⟩, ?_⟩
                (repeat (first | (apply t4_skip rfl (by rfl); try simp only [Act.put, List.setIfInBounds_toArray, List.set_cons_zero, List.set_cons_succ]) | (apply t4_float rfl (by rfl); (· (intro w' hS; go_simp <;> with_reducible rfl)); (try simp only [Act.put, List.setIfInBounds_toArray, List.set_cons_zero, List.set_cons_succ]))))
                refine t4_hard rfl (by rfl) (fun K hK => ?_)
                have hlnw := HCN.out
                have HIR := Lib.hid (ip_icD (k := rr) ⟨by omega, by omega⟩ HI0_118.out)
                refine wp_append_accP _ _ _ _ rfl E_cons rfl HAX_115.out HIR.out (fun z h1 h2 => by (try simp only at h1 h2); omega) ⟨w103.heap.size + 1, 0, none⟩ 1 rfl (news2 (hs114.cellAt 6 rfl 0 rfl) (hs114.cellAt 6 rfl 1 rfl)) (by omega) ?_
                simp only [HCN.out]
                intro ay cy wy hA8 hB8
                have hz8 := hB8.size
                have hs8 := hs114.butP hB8 (fun z hz => by have := hz.1; omega) (fun x hx hA => by have h1 := hA.1; have h2 := hA.2; simp at hx; rcases hx with rfl | rfl | rfl | rfl | rfl | rfl | rfl <;> (try simp only at h1 h2) <;> omega)
                have HA2 := Lib.hid (AccP.wk hA8.tight (C := fun z => XA + 1 ≤ z ∧ z < wy.heap.size) (fun z hz => ⟨by
                  have h2 := hz.2
                  rcases hz.1 with h | h | h
                  · exact h.1
                  · (try simp only at h); omega
                  · rw [h]; (try simp); omega, hz.2⟩))
                clear hA8
                clear HAX_115
                clear HI0_118
                have HRB_119 := Lib.hid (AccP.butP HRB_116.out hB8 (fun z h1 h2 => by (try simp only at h1 h2); omega))
                clear HRB_116
                have HSR_120 := Lib.hid (Src.below (B := B) HSR_117.out (hB8.below (fun z hz => by (try simp only at hz); omega) (by (try simp); omega)))
                clear HSR_117
                refine hK _ _ ⟨⟨hs8.cellAt 0 rfl 0 rfl, hs8.cellAt 0 rfl 1 rfl, hs8.cellAt 1 rfl 0 rfl, hs8.cellAt 1 rfl 1 rfl, hs8.cellAt 2 rfl 0 rfl, hs8.cellAt 2 rfl 1 rfl, hs8.cellAt 3 rfl 0 rfl, hs8.cellAt 3 rfl 1 rfl, hs8.cellAt 4 rfl 0 rfl, hs8.cellAt 4 rfl 1 rfl⟩, ?_⟩
                (repeat (first | (apply t4_skip rfl (by rfl); try simp only [Act.put, List.setIfInBounds_toArray, List.set_cons_zero, List.set_cons_succ]) | (apply t4_float rfl (by rfl); (· (intro w' hS; go_simp <;> with_reducible rfl)); (try simp only [Act.put, List.setIfInBounds_toArray, List.set_cons_zero, List.set_cons_succ]))))
                refine t4_last rfl (by rfl) (fun K hK => ?_)
                have k0_0 := hs8.cellAt 0 rfl 0 rfl
                have k0_1 := hs8.cellAt 0 rfl 1 rfl
                have k1_0 := hs8.cellAt 1 rfl 0 rfl
                have k1_1 := hs8.cellAt 1 rfl 1 rfl
                have k2_0 := hs8.cellAt 2 rfl 0 rfl
                have k2_1 := hs8.cellAt 2 rfl 1 rfl
                have k3_0 := hs8.cellAt 3 rfl 0 rfl
                have k3_1 := hs8.cellAt 3 rfl 1 rfl
                have k4_0 := hs8.cellAt 4 rfl 0 rfl
                have k4_1 := hs8.cellAt 4 rfl 1 rfl
                have k5_0 := hs8.cellAt 5 rfl 0 rfl
                have k5_1 := hs8.cellAt 5 rfl 1 rfl
                have k6_0 := hs8.cellAt 6 rfl 0 rfl
                have k6_1 := hs8.cellAt 6 rfl 1 rfl
                have hs121 := hs8.low (B' := XA + 1) (bx' := [(w.heap.size, #[.int .i64 0, .slice none 0 0], 26), (w.heap.size + 1, #[.int .i64 0, .slice none 0 0], 29), (TA, #[.int .i64 SZ, .slice a8 1 c8], 26), (TA + 1, #[.int .i64 2, .slice a n c], 57), (XA, #[.int .i64 U, .slice ax m cx], 29)]) (by omega) (by (try simp) <;> omega) (fun x hx => by simp only [List.mem_cons, List.not_mem_nil, or_false] at hx; rcases hx with rfl | rfl | rfl | rfl | rfl <;> (refine ⟨?_, ?_⟩ <;> (try simp) <;> (try omega)))
                have f4_0 := hs121.freeAt 4 rfl 0
                have f4_1 := hs121.freeAt 4 rfl 1
                go_wp2_with fail
                refine t4_nil (NoPanic.normal ?_)
                have hs122 := hs121.set (p := [_, _, _, _]) (by simp <;> omega) 1 (.slice ay (m + 1) cy)
                have HRB_123 := Lib.hid (AccP.setCell (b := XA) (o := 1) HRB_119.out (.slice ay (m + 1) cy) (by intro hA9; (try simp only at hA9); omega))
                clear HRB_119
                have HSR_124 := Lib.hid (Src.below (B := B) HSR_120.out ((Below.refl B _).setCell (p := ⟨XA, 1, none⟩) (by (try simp) <;> omega) (.slice ay (m + 1) cy)))
                clear HSR_120
                have HA2_125 := Lib.hid (AccP.setCell (b := XA) (o := 1) HA2.out (.slice ay (m + 1) cy) (by intro hA9; (try simp only at hA9); omega))
                clear HA2
                clear k0_0 k0_1 k1_0 k1_1 k2_0 k2_1 k3_0 k3_1 k4_0 k4_1 k5_0 k5_1 k6_0 k6_1
                have hz_wE : wy.heap.size ≤ ((wy.setCell ⟨XA, 1, none⟩ (.slice ay (m + 1) cy))).heap.size := by simp [World.setCell]
                generalize hgen_wE : (wy.setCell ⟨XA, 1, none⟩ (.slice ay (m + 1) cy)) = wE at *
                clear hgen_wE
                have k0_0 := hs122.cellAt 0 rfl 0 rfl
                have k0_1 := hs122.cellAt 0 rfl 1 rfl
                have k1_0 := hs122.cellAt 1 rfl 0 rfl
                have k1_1 := hs122.cellAt 1 rfl 1 rfl
                have k2_0 := hs122.cellAt 2 rfl 0 rfl
                have k2_1 := hs122.cellAt 2 rfl 1 rfl
                have k3_0 := hs122.cellAt 3 rfl 0 rfl
                have k3_1 := hs122.cellAt 3 rfl 1 rfl
                have k4_0 := hs122.cellAt 4 rfl 0 rfl
                have k4_1 := hs122.cellAt 4 rfl 1 rfl
                go_wp2_with fail
                go_roundw
                case rel => exact ⟨m + 1, q - 1, wz104, ay, cy, lx ++ [(rr, [a1, BV])], by omega, rfl, by simp [Hid, hlnw], ⟨by omega, HBT_109.out⟩, hs122, HA2_125.out.wk (fun z hz => ⟨hz.1, by omega⟩), HRB_123.out, HSR_124.out.more (by omega)⟩
                case measure => simp [intOf]; omega
              · refine t4_hard rfl (by rfl) (fun K hK => ?_)
                go_wp2_with fail
                have hs126 := hs98.alloc #[.int .i64 a1, .int .i64 BV] 2 (n := wd102.heap.size) (by simp)
                have HAX_127 := Lib.hid (AccP.mono HAX_99.out (belowA _ (.cells #[.int .i64 a1, .int .i64 BV] 2)))
                clear HAX_99
                have HRB_128 := Lib.hid (AccP.mono HRB_100.out (belowA _ (.cells #[.int .i64 a1, .int .i64 BV] 2)))
                clear HRB_100
                have HSR_129 := Lib.hid (Src.mono HSR_101.out (belowA _ (.cells #[.int .i64 a1, .int .i64 BV] 2)))
                clear HSR_101
                have HI0 := Lib.hid ((fresh_ilits [a1, BV] (lo := wd102.heap.size) (hs126.box (wd102.heap.size, #[.int .i64 a1, .int .i64 BV], 2) (by simp)).2.2 (Nat.le_refl _) (fun a ha => by simp at ha; constructor <;> omega) (by simp)).ip)
                refine ⟨⟨hs126.cellAt 0 rfl 0 rfl, hs126.cellAt 0 rfl 1 rfl, hs126.cellAt 1 rfl 0 rfl, hs126.cellAt 1 rfl 1 rfl, hs126.cellAt 2 rfl 0 rfl, hs126.cellAt 2 rfl 1 rfl, hs126.cellAt 3 rfl 0 rfl, hs126.cellAt 3 rfl 1 rfl, hs126.cellAt 4 rfl 0 rfl, hs126.cellAt 4 rfl 1 rfl⟩, ?_⟩
                (repeat (first | (apply t4_skip rfl (by rfl); try simp only [Act.put, List.setIfInBounds_toArray, List.set_cons_zero, List.set_cons_succ]) | (apply t4_float rfl (by rfl); (· (intro w' hS; go_simp <;> with_reducible rfl)); (try simp only [Act.put, List.setIfInBounds_toArray, List.set_cons_zero, List.set_cons_succ]))))
                refine t4_hard rfl (by rfl) (fun K hK => ?_)
                go_wp2_with (go_at_call 38; refine (pickG_c 1 L B b (k + 2002 + 10 * m + 2) _ HSR_129.out (by omega) (by omega)).mono ?_; rintro e w130 ⟨rr, rfl, hrr0, hrr1, hrw130, hbw130⟩)
                obtain ⟨wz131, hs132, hz_wz131, hy_wz131, hc_wz131⟩ := hs126.cut hbw130 (by intro k hk; simp only [List.mem_singleton] at hk; omega)
                have hz_w130 : wd102.heap.size + 1 ≤ w130.heap.size := by have h9 := hbw130.size; (try simp at h9); omega
                have HAX_133 := Lib.hid (AccP.butL HAX_127.out hbw130 (by intro k hk; simp only [List.mem_singleton] at hk; omega))
                clear HAX_127
                have HRB_134 := Lib.hid (AccP.butL HRB_128.out hbw130 (by intro k hk; simp only [List.mem_singleton] at hk; omega))
                clear HRB_128
                have HSR_135 := Lib.hid hrw130
                clear HSR_129
                have HBT_136 := Lib.hid (HBT_97.out.trans hc_wz131)
                clear HBT_97
                have HI0_137 := Lib.hid (Ip.butL HI0.out hbw130 (by intro k hk; simp only [List.mem_singleton] at hk; (try simp only); omega))
                clear HI0
                clear hrw130 hc_wz131
                have hrr2 := hrr1 (by omega)
                refine ⟨⟨hs132.cellAt 0 rfl 0 rfl, hs132.cellAt 0 rfl 1 rfl, hs132.cellAt 1 rfl 0 rfl, hs132.cellAt 1 rfl 1 rfl, hs132.cellAt 2 rfl 0 rfl, hs132.cellAt 2 rfl 1 rfl, hs132.cellAt 3 rfl 0 rfl, hs132.cellAt 3 rfl 1 rfl, hs132.cellAt 4 rfl 0 rfl, hs132.cellAt 4 rfl 1 rfl⟩, ?_⟩
                (repeat (first | (apply t4_skip rfl (by rfl); try simp only [Act.put, List.setIfInBounds_toArray, List.set_cons_zero, List.set_cons_succ]) | (apply t4_float rfl (by rfl); (· (intro w' hS; go_simp <;> with_reducible rfl)); (try simp only [Act.put, List.setIfInBounds_toArray, List.set_cons_zero, List.set_cons_succ]))))
                refine t4_hard rfl (by rfl) (fun K hK => ?_)
                go_wp2_with fail
                have hs138 := hs132.alloc #[.int .i64 rr, .slice (some ⟨wd102.heap.size, 0, none⟩) 2 2] 60 (n := w130.heap.size) (by simp)
                have HAX_139 := Lib.hid (AccP.mono HAX_133.out (belowA _ (.cells #[.int .i64 rr, .slice (some ⟨wd102.heap.size, 0, none⟩) 2 2] 60)))
                clear HAX_133
                have HRB_140 := Lib.hid (AccP.mono HRB_134.out (belowA _ (.cells #[.int .i64 rr, .slice (some ⟨wd102.heap.size, 0, none⟩) 2 2] 60)))
                clear HRB_134
                have HSR_141 := Lib.hid (Src.mono HSR_135.out (belowA _ (.cells #[.int .i64 rr, .slice (some ⟨wd102.heap.size, 0, none⟩) 2 2] 60)))
                clear HSR_135
                have HI0_142 := Lib.hid (Ip.mono HI0_137.out (belowA _ (.cells #[.int .i64 rr, .slice (some ⟨wd102.heap.size, 0, none⟩) 2 2] 60)))
                clear HI0_137
                refine ⟨⟨hs138.cellAt 0 rfl 0 rfl, hs138.cellAt 0 rfl 1 rfl, hs138.cellAt 1 rfl 0 rfl, hs138.cellAt 1 rfl 1 rfl, hs138.cellAt 2 rfl 0 rfl, hs138.cellAt 2 rfl 1 rfl, hs138.cellAt 3 rfl 0 rfl, hs138.cellAt 3 rfl 1 rfl, hs138.cellAt 4 rfl 0 rfl, hs138.cellAt 4 rfl 1 rfl⟩, ?_⟩
                (repeat (first | (apply t4_skip rfl (by rfl); try simp only [Act.put, List.setIfInBounds_toArray, List.set_cons_zero, List.set_cons_succ]) | (apply t4_float rfl (by rfl); (· (intro w' hS; go_simp <;> with_reducible rfl)); (try simp only [Act.put, List.setIfInBounds_toArray, List.set_cons_zero, List.set_cons_succ]))))
                refine t4_hard rfl (by rfl) (fun K hK => ?_)
                have hlnw := HCN.out
                have HIR := Lib.hid (ip_icD (k := rr) ⟨by omega, by omega⟩ HI0_142.out)
                refine wp_append_accP _ _ _ _ rfl E_cons rfl HAX_139.out HIR.out (fun z h1 h2 => by (try simp only at h1 h2); omega) ⟨w130.heap.size, 0, none⟩ 1 rfl (news2 (hs138.cellAt 6 rfl 0 rfl) (hs138.cellAt 6 rfl 1 rfl)) (by omega) ?_
                simp only [HCN.out]
                intro ay cy wy hA8 hB8
                have hz8 := hB8.size
                have hs8 := hs138.butP hB8 (fun z hz => by have := hz.1; omega) (fun x hx hA => by have h1 := hA.1; have h2 := hA.2; simp at hx; rcases hx with rfl | rfl | rfl | rfl | rfl | rfl | rfl <;> (try simp only at h1 h2) <;> omega)
                have HA2 := Lib.hid (AccP.wk hA8.tight (C := fun z => XA + 1 ≤ z ∧ z < wy.heap.size) (fun z hz => ⟨by
                  have h2 := hz.2
                  rcases hz.1 with h | h | h
                  · exact h.1
                  · (try simp only at h); omega
                  · rw [h]; (try simp); omega, hz.2⟩))
                clear hA8
                clear HAX_139
                clear HI0_142
                have HRB_143 := Lib.hid (AccP.butP HRB_140.out hB8 (fun z h1 h2 => by (try simp only at h1 h2); omega))
                clear HRB_140
                have HSR_144 := Lib.hid (Src.below (B := B) HSR_141.out (hB8.below (fun z hz => by (try simp only at hz); omega) (by (try simp); omega)))
                clear HSR_141
                refine hK _ _ ⟨⟨hs8.cellAt 0 rfl 0 rfl, hs8.cellAt 0 rfl 1 rfl, hs8.cellAt 1 rfl 0 rfl, hs8.cellAt 1 rfl 1 rfl, hs8.cellAt 2 rfl 0 rfl, hs8.cellAt 2 rfl 1 rfl, hs8.cellAt 3 rfl 0 rfl, hs8.cellAt 3 rfl 1 rfl, hs8.cellAt 4 rfl 0 rfl, hs8.cellAt 4 rfl 1 rfl⟩, ?_⟩
                (repeat (first | (apply t4_skip rfl (by rfl); try simp only [Act.put, List.setIfInBounds_toArray, List.set_cons_zero, List.set_cons_succ]) | (apply t4_float rfl (by rfl); (· (intro w' hS; go_simp <;> with_reducible rfl)); (try simp only [Act.put, List.setIfInBounds_toArray, List.set_cons_zero, List.set_cons_succ]))))
                refine t4_last rfl (by rfl) (fun K hK => ?_)
                have k0_0 := hs8.cellAt 0 rfl 0 rfl
                have k0_1 := hs8.cellAt 0 rfl 1 rfl
                have k1_0 := hs8.cellAt 1 rfl 0 rfl
                have k1_1 := hs8.cellAt 1 rfl 1 rfl
                have k2_0 := hs8.cellAt 2 rfl 0 rfl
                have k2_1 := hs8.cellAt 2 rfl 1 rfl
                have k3_0 := hs8.cellAt 3 rfl 0 rfl
                have k3_1 := hs8.cellAt 3 rfl 1 rfl
                have k4_0 := hs8.cellAt 4 rfl 0 rfl
                have k4_1 := hs8.cellAt 4 rfl 1 rfl
                have k5_0 := hs8.cellAt 5 rfl 0 rfl
                have k5_1 := hs8.cellAt 5 rfl 1 rfl
                have k6_0 := hs8.cellAt 6 rfl 0 rfl
                have k6_1 := hs8.cellAt 6 rfl 1 rfl
                have hs145 := hs8.low (B' := XA + 1) (bx' := [(w.heap.size, #[.int .i64 0, .slice none 0 0], 26), (w.heap.size + 1, #[.int .i64 0, .slice none 0 0], 29), (TA, #[.int .i64 SZ, .slice a8 1 c8], 26), (TA + 1, #[.int .i64 2, .slice a n c], 57), (XA, #[.int .i64 U, .slice ax m cx], 29)]) (by omega) (by (try simp) <;> omega) (fun x hx => by simp only [List.mem_cons, List.not_mem_nil, or_false] at hx; rcases hx with rfl | rfl | rfl | rfl | rfl <;> (refine ⟨?_, ?_⟩ <;> (try simp) <;> (try omega)))
                have f4_0 := hs145.freeAt 4 rfl 0
                have f4_1 := hs145.freeAt 4 rfl 1
                go_wp2_with fail
                refine t4_nil (NoPanic.normal ?_)
                have hs146 := hs145.set (p := [_, _, _, _]) (by simp <;> omega) 1 (.slice ay (m + 1) cy)
                have HRB_147 := Lib.hid (AccP.setCell (b := XA) (o := 1) HRB_143.out (.slice ay (m + 1) cy) (by intro hA9; (try simp only at hA9); omega))
                clear HRB_143
                have HSR_148 := Lib.hid (Src.below (B := B) HSR_144.out ((Below.refl B _).setCell (p := ⟨XA, 1, none⟩) (by (try simp) <;> omega) (.slice ay (m + 1) cy)))
                clear HSR_144
                have HA2_149 := Lib.hid (AccP.setCell (b := XA) (o := 1) HA2.out (.slice ay (m + 1) cy) (by intro hA9; (try simp only at hA9); omega))
                clear HA2
                clear k0_0 k0_1 k1_0 k1_1 k2_0 k2_1 k3_0 k3_1 k4_0 k4_1 k5_0 k5_1 k6_0 k6_1
                have hz_wE : wy.heap.size ≤ ((wy.setCell ⟨XA, 1, none⟩ (.slice ay (m + 1) cy))).heap.size := by simp [World.setCell]
                generalize hgen_wE : (wy.setCell ⟨XA, 1, none⟩ (.slice ay (m + 1) cy)) = wE at *
                clear hgen_wE
                have k0_0 := hs146.cellAt 0 rfl 0 rfl
                have k0_1 := hs146.cellAt 0 rfl 1 rfl
                have k1_0 := hs146.cellAt 1 rfl 0 rfl
                have k1_1 := hs146.cellAt 1 rfl 1 rfl
                have k2_0 := hs146.cellAt 2 rfl 0 rfl
                have k2_1 := hs146.cellAt 2 rfl 1 rfl
                have k3_0 := hs146.cellAt 3 rfl 0 rfl
                have k3_1 := hs146.cellAt 3 rfl 1 rfl
                have k4_0 := hs146.cellAt 4 rfl 0 rfl
                have k4_1 := hs146.cellAt 4 rfl 1 rfl
                go_wp2_with fail
                go_roundw
                case rel => exact ⟨m + 1, q - 1, wz131, ay, cy, lx ++ [(rr, [a1, BV])], by omega, rfl, by simp [Hid, hlnw], ⟨by omega, HBT_136.out⟩, hs146, HA2_149.out.wk (fun z hz => ⟨hz.1, by omega⟩), HRB_147.out, HSR_148.out.more (by omega)⟩
                case measure => simp [intOf]; omega
            · obtain rfl : q = 0 := by omega
              obtain rfl : m = K := by omega
              have hnq : ¬ (0 : Int) < (0 : Int) := by omega
              go_upto_region 21 with fail
              refine wp_region_noPanic (wp_region_tree4 (fun w' => w'.cell? ⟨w.heap.size + 1, 0, none⟩ = some (.int .i64 0) ∧ w'.cell? ⟨w.heap.size + 1, 1, none⟩ = some (.slice none 0 0) ∧ w'.cell? ⟨TA, 0, none⟩ = some (.int .i64 SZ) ∧ w'.cell? ⟨TA, 1, none⟩ = some (.slice a8 1 c8) ∧ w'.cell? ⟨TA + 1, 0, none⟩ = some (.int .i64 2) ∧ w'.cell? ⟨TA + 1, 1, none⟩ = some (.slice a n c) ∧ w'.cell? ⟨XA, 0, none⟩ = some (.int .i64 U) ∧ w'.cell? ⟨XA, 1, none⟩ = some (.slice ax m cx)) (.float 0 (.float 1 (.hard 2 (.last 3 .nil)))) (by kernel_rfl) (by kernel_rfl) (by kernel_rfl) rfl ?_ (fun _ _ _ _ _ h => h) ?_)
              · exact ⟨(hs2.drew).cellAt 1 rfl 0 rfl, (hs2.drew).cellAt 1 rfl 1 rfl, (hs2.drew).cellAt 2 rfl 0 rfl, (hs2.drew).cellAt 2 rfl 1 rfl, (hs2.drew).cellAt 3 rfl 0 rfl, (hs2.drew).cellAt 3 rfl 1 rfl, (hs2.drew).cellAt 4 rfl 0 rfl, (hs2.drew).cellAt 4 rfl 1 rfl⟩
              have hs150 := hs2.drew
              have HAX_151 := Lib.hid (AccP.mono HAX.out (belowD _))
              clear HAX
              have HRB_152 := Lib.hid (AccP.mono HRB.out (belowD _))
              clear HRB
              have HSR_153 := Lib.hid (Src.mono HSR.out (belowD _))
              clear HSR
              clear k0_0 k0_1 k1_0 k1_1 k2_0 k2_1 k3_0 k3_1 k4_0 k4_1
              have hz_wd154 : wr.heap.size ≤ (wr.drew).heap.size := by simp
              generalize hgen_wd154 : wr.drew = wd154 at *
              have HG_wd154 := Lib.hid hgen_wd154
              clear hgen_wd154
              (repeat (first | (apply t4_skip rfl (by rfl); try simp only [Act.put, List.setIfInBounds_toArray, List.set_cons_zero, List.set_cons_succ]) | (apply t4_float rfl (by rfl); (· (intro w' hS; go_simp <;> with_reducible rfl)); (try simp only [Act.put, List.setIfInBounds_toArray, List.set_cons_zero, List.set_cons_succ]))))
              refine t4_hard rfl (by rfl) (fun K hK => ?_)
              have k0_0 := hs150.cellAt 0 rfl 0 rfl
              have k0_1 := hs150.cellAt 0 rfl 1 rfl
              have k1_0 := hs150.cellAt 1 rfl 0 rfl
              have k1_1 := hs150.cellAt 1 rfl 1 rfl
              have k2_0 := hs150.cellAt 2 rfl 0 rfl
              have k2_1 := hs150.cellAt 2 rfl 1 rfl
              have k3_0 := hs150.cellAt 3 rfl 0 rfl
              have k3_1 := hs150.cellAt 3 rfl 1 rfl
              have k4_0 := hs150.cellAt 4 rfl 0 rfl
              have k4_1 := hs150.cellAt 4 rfl 1 rfl
              have f0_0 := hs150.freeAt 0 rfl 0
              have f0_1 := hs150.freeAt 0 rfl 1
              go_wp2_with fail
              have hs155 := hs150.set (p := []) (by simp <;> omega) 0 (.int .i64 SZ)
              have hs156 := hs155.set (p := []) (by simp <;> omega) 1 (.slice a8 1 c8)
              have HAX_157 := Lib.hid (AccP.setCell (b := w.heap.size) (o := 1) (AccP.setCell (b := w.heap.size) (o := 0) HAX_151.out (.int .i64 SZ) (by intro hA9; (try simp only at hA9); omega)) (.slice a8 1 c8) (by intro hA9; (try simp only at hA9); omega))
              clear HAX_151
              have HRB_158 := Lib.hid (AccP.setCell (b := w.heap.size) (o := 1) (AccP.setCell (b := w.heap.size) (o := 0) HRB_152.out (.int .i64 SZ) (by intro hA9; (try simp only at hA9); omega)) (.slice a8 1 c8) (by intro hA9; (try simp only at hA9); omega))
              clear HRB_152
              have HSR_159 := Lib.hid (Src.below (B := B) (Src.below (B := B) HSR_153.out ((Below.refl B _).setCell (p := ⟨w.heap.size, 0, none⟩) (by (try simp) <;> omega) (.int .i64 SZ))) ((Below.refl B _).setCell (p := ⟨w.heap.size, 1, none⟩) (by (try simp) <;> omega) (.slice a8 1 c8)))
              clear HSR_153
              clear k0_0 k0_1 k1_0 k1_1 k2_0 k2_1 k3_0 k3_1 k4_0 k4_1
              have hz_wP : wd154.heap.size ≤ (((wd154.setCell ⟨w.heap.size, 0, none⟩ (.int .i64 SZ)).setCell ⟨w.heap.size, 1, none⟩ (.slice a8 1 c8))).heap.size := by simp [World.setCell]
              generalize hgen_wP : ((wd154.setCell ⟨w.heap.size, 0, none⟩ (.int .i64 SZ)).setCell ⟨w.heap.size, 1, none⟩ (.slice a8 1 c8)) = wP at *
              clear hgen_wP
              have k0_0 := hs156.cellAt 0 rfl 0 rfl
              have k0_1 := hs156.cellAt 0 rfl 1 rfl
              have k1_0 := hs156.cellAt 1 rfl 0 rfl
              have k1_1 := hs156.cellAt 1 rfl 1 rfl
              have k2_0 := hs156.cellAt 2 rfl 0 rfl
              have k2_1 := hs156.cellAt 2 rfl 1 rfl
              have k3_0 := hs156.cellAt 3 rfl 0 rfl
              have k3_1 := hs156.cellAt 3 rfl 1 rfl
              have k4_0 := hs156.cellAt 4 rfl 0 rfl
              have k4_1 := hs156.cellAt 4 rfl 1 rfl
              (first | refine ⟨⟨hs156.cellAt 1 rfl 0 rfl, hs156.cellAt 1 rfl 1 rfl, hs156.cellAt 2 rfl 0 rfl, hs156.cellAt 2 rfl 1 rfl, hs156.cellAt 3 rfl 0 rfl, hs156.cellAt 3 rfl 1 rfl, hs156.cellAt 4 rfl 0 rfl, hs156.cellAt 4 rfl 1 rfl⟩, ?_⟩ | skip)
              (repeat (first | (apply t4_skip rfl (by rfl); try simp only [Act.put, List.setIfInBounds_toArray, List.set_cons_zero, List.set_cons_succ]) | (apply t4_float rfl (by rfl); (· (intro w' hS; go_simp <;> with_reducible rfl)); (try simp only [Act.put, List.setIfInBounds_toArray, List.set_cons_zero, List.set_cons_succ]))))
              refine t4_last rfl (by rfl) (fun K hK => ?_)
              clear k0_0 k0_1 k1_0 k1_1 k2_0 k2_1 k3_0 k3_1 k4_0 k4_1
              have k0_0 := hs156.cellAt 0 rfl 0 rfl
              have k0_1 := hs156.cellAt 0 rfl 1 rfl
              have k1_0 := hs156.cellAt 1 rfl 0 rfl
              have k1_1 := hs156.cellAt 1 rfl 1 rfl
              have k2_0 := hs156.cellAt 2 rfl 0 rfl
              have k2_1 := hs156.cellAt 2 rfl 1 rfl
              have k3_0 := hs156.cellAt 3 rfl 0 rfl
              have k3_1 := hs156.cellAt 3 rfl 1 rfl
              have k4_0 := hs156.cellAt 4 rfl 0 rfl
              have k4_1 := hs156.cellAt 4 rfl 1 rfl
              clear k0_0 k0_1 k1_0 k1_1 k2_0 k2_1 k3_0 k3_1 k4_0 k4_1
              have k0_0 := hs156.cellAt 0 rfl 0 rfl
              have k0_1 := hs156.cellAt 0 rfl 1 rfl
              have k1_0 := hs156.cellAt 1 rfl 0 rfl
              have k1_1 := hs156.cellAt 1 rfl 1 rfl
              have k2_0 := hs156.cellAt 2 rfl 0 rfl
              have k2_1 := hs156.cellAt 2 rfl 1 rfl
              have k3_0 := hs156.cellAt 3 rfl 0 rfl
              have k3_1 := hs156.cellAt 3 rfl 1 rfl
              have k4_0 := hs156.cellAt 4 rfl 0 rfl
              have k4_1 := hs156.cellAt 4 rfl 1 rfl
              have f1_0 := hs156.freeAt 1 rfl 0
              have f1_1 := hs156.freeAt 1 rfl 1
              go_wp2_with fail
              refine t4_nil (NoPanic.normal ?_)
              have hs160 := hs156.set (p := [_]) (by simp <;> omega) 0 (.int .i64 U)
              have hs161 := hs160.set (p := [_]) (by simp <;> omega) 1 (.slice ax m cx)
              have HAX_162 := Lib.hid (AccP.setCell (b := w.heap.size + 1) (o := 1) (AccP.setCell (b := w.heap.size + 1) (o := 0) HAX_157.out (.int .i64 U) (by intro hA9; (try simp only at hA9); omega)) (.slice ax m cx) (by intro hA9; (try simp only at hA9); omega))
              clear HAX_157
              have HRB_163 := Lib.hid (AccP.setCell (b := w.heap.size + 1) (o := 1) (AccP.setCell (b := w.heap.size + 1) (o := 0) HRB_158.out (.int .i64 U) (by intro hA9; (try simp only at hA9); omega)) (.slice ax m cx) (by intro hA9; (try simp only at hA9); omega))
              clear HRB_158
              have HSR_164 := Lib.hid (Src.below (B := B) (Src.below (B := B) HSR_159.out ((Below.refl B _).setCell (p := ⟨w.heap.size + 1, 0, none⟩) (by (try simp) <;> omega) (.int .i64 U))) ((Below.refl B _).setCell (p := ⟨w.heap.size + 1, 1, none⟩) (by (try simp) <;> omega) (.slice ax m cx)))
              clear HSR_159
              clear k0_0 k0_1 k1_0 k1_1 k2_0 k2_1 k3_0 k3_1 k4_0 k4_1
              have hz_wQ : wP.heap.size ≤ (((wP.setCell ⟨w.heap.size + 1, 0, none⟩ (.int .i64 U)).setCell ⟨w.heap.size + 1, 1, none⟩ (.slice ax m cx))).heap.size := by simp [World.setCell]
              generalize hgen_wQ : ((wP.setCell ⟨w.heap.size + 1, 0, none⟩ (.int .i64 U)).setCell ⟨w.heap.size + 1, 1, none⟩ (.slice ax m cx)) = wQ at *
              clear hgen_wQ
              have k0_0 := hs161.cellAt 0 rfl 0 rfl
              have k0_1 := hs161.cellAt 0 rfl 1 rfl
              have k1_0 := hs161.cellAt 1 rfl 0 rfl
              have k1_1 := hs161.cellAt 1 rfl 1 rfl
              have k2_0 := hs161.cellAt 2 rfl 0 rfl
              have k2_1 := hs161.cellAt 2 rfl 1 rfl
              have k3_0 := hs161.cellAt 3 rfl 0 rfl
              have k3_1 := hs161.cellAt 3 rfl 1 rfl
              have k4_0 := hs161.cellAt 4 rfl 0 rfl
              have k4_1 := hs161.cellAt 4 rfl 1 rfl
              go_wp2_with fail
              have x0 := (hs161.cellAt 0 rfl 0 rfl)
              have x1 := (hs161.cellAt 0 rfl 1 rfl)
              have x2 := (hs161.cellAt 1 rfl 0 rfl)
              have x3 := (hs161.cellAt 1 rfl 1 rfl)
              exact bodyPost_ret (v := .tuple #[.agg #[.int .i64 SZ, .slice a8 1 c8], .agg #[.int .i64 U, .slice ax m cx]]) (by simp [results, Tryz.results16, go_sem, x0, x1, x2, x3]) rfl ⟨SZ, U, _, _, rfl, RL0, lx, Firm.ic ⟨by omega, by omega⟩ (Fresh.firm (HRB_163.out.ip.fresh (lo := w.heap.size) (fun z hz => by have := hz.1; omega))), Firm.ic ⟨by omega, by omega⟩ (Fresh.firm (HAX_162.out.ip.fresh (lo := w.heap.size) (fun z hz => by have := hz.1; omega))), HSR_164.out.more (by omega), HBT.out.trans (but_of hs161.bel)⟩
        | true =>
          go_upto_region 13 with fail
          refine wp_region_noPanic (wp_region_tree4 (fun w' => w'.cell? ⟨w.heap.size, 0, none⟩ = some (.int .i64 0) ∧ w'.cell? ⟨w.heap.size, 1, none⟩ = some (.slice none 0 0) ∧ w'.cell? ⟨w.heap.size + 1, 0, none⟩ = some (.int .i64 0) ∧ w'.cell? ⟨w.heap.size + 1, 1, none⟩ = some (.slice none 0 0) ∧ w'.cell? ⟨TA, 0, none⟩ = some (.int .i64 SZ) ∧ w'.cell? ⟨TA, 1, none⟩ = some (.slice a8 1 c8) ∧ w'.cell? ⟨TA + 1, 0, none⟩ = some (.int .i64 2) ∧ w'.cell? ⟨TA + 1, 1, none⟩ = some (.slice a n c)) (.float 0 (.float 1 (.float 2 (.float 3 (.hard 4 (.hard 5 (.hard 6 (.float 7 (.last 8 .nil))))))))) (by kernel_rfl) (by kernel_rfl) (by kernel_rfl) rfl ?_ (fun _ _ _ _ _ h => h) ?_)
          · exact ⟨(hs60.drew).cellAt 0 rfl 0 rfl, (hs60.drew).cellAt 0 rfl 1 rfl, (hs60.drew).cellAt 1 rfl 0 rfl, (hs60.drew).cellAt 1 rfl 1 rfl, (hs60.drew).cellAt 2 rfl 0 rfl, (hs60.drew).cellAt 2 rfl 1 rfl, (hs60.drew).cellAt 3 rfl 0 rfl, (hs60.drew).cellAt 3 rfl 1 rfl⟩
          have hs165 := hs60.drew
          have HRB_166 := Lib.hid (AccP.mono HRB_61.out (belowD _))
          clear HRB_61
          have HSR_167 := Lib.hid (Src.mono HSR_62.out (belowD _))
          clear HSR_62
          clear k0_0 k0_1 k1_0 k1_1 k2_0 k2_1 k3_0 k3_1
          have hz_wd168 : w58.heap.size ≤ (w58.drew).heap.size := by simp
          generalize hgen_wd168 : w58.drew = wd168 at *
          have HG_wd168 := Lib.hid hgen_wd168
          clear hgen_wd168
          (repeat (first | (apply t4_skip rfl (by rfl); try simp only [Act.put, List.setIfInBounds_toArray, List.set_cons_zero, List.set_cons_succ]) | (apply t4_float rfl (by rfl); (· (intro w' hS; go_simp <;> with_reducible rfl)); (try simp only [Act.put, List.setIfInBounds_toArray, List.set_cons_zero, List.set_cons_succ]))))
          refine t4_hard rfl (by rfl) (fun K hK => ?_)
          go_wp2_with (go_at_call 41; refine (l01Drawn_c SZ 2 L B b (k + 3) _ HSR_167.out (by (try simp); omega) (by omega) (by omega) (by omega)).mono ?_; rintro e w169 ⟨v5, rfl, l5, fr5, ok5, hrw169, hbw169⟩)
          obtain ⟨wz170, hs171, hz_wz170, hy_wz170, hc_wz170⟩ := hs165.cut hbw169 (by intro k hk; simp only [List.mem_singleton] at hk; omega)
          have hz_w169 : wd168.heap.size ≤ w169.heap.size := by have h9 := hbw169.size; (try simp at h9); omega
          have HRB_172 := Lib.hid (AccP.butL HRB_166.out hbw169 (by intro k hk; simp only [List.mem_singleton] at hk; omega))
          clear HRB_166
          have HSR_173 := Lib.hid hrw169
          clear HSR_167
          have HBT_174 := Lib.hid (HBT_63.out.trans hc_wz170)
          clear HBT_63
          clear hrw169 hc_wz170
          obtain ⟨a5, c5, rfl, _⟩ := rd_list (fresh_snd rfl fr5).rd
          have HD5 := Lib.hid ((fr5.ip).wk (B := fun z => wY.heap.size ≤ z ∧ z < w169.heap.size) (fun z hz => by (try simp only at hz); omega))
          clear fr5 ok5
          refine ⟨⟨hs171.cellAt 0 rfl 0 rfl, hs171.cellAt 0 rfl 1 rfl, hs171.cellAt 1 rfl 0 rfl, hs171.cellAt 1 rfl 1 rfl, hs171.cellAt 2 rfl 0 rfl, hs171.cellAt 2 rfl 1 rfl, hs171.cellAt 3 rfl 0 rfl, hs171.cellAt 3 rfl 1 rfl⟩, ?_⟩
          (repeat (first | (apply t4_skip rfl (by rfl); try simp only [Act.put, List.setIfInBounds_toArray, List.set_cons_zero, List.set_cons_succ]) | (apply t4_float rfl (by rfl); (· (intro w' hS; go_simp <;> with_reducible rfl)); (try simp only [Act.put, List.setIfInBounds_toArray, List.set_cons_zero, List.set_cons_succ]))))
          refine t4_hard rfl (by rfl) (fun K hK => ?_)
          go_wp2_with fail
          have hs175 := hs171.alloc #[.int .i64 2, .slice a5 l5.length c5] 57 (n := w169.heap.size) (by simp)
          have HRB_176 := Lib.hid (AccP.mono HRB_172.out (belowA _ (.cells #[.int .i64 2, .slice a5 l5.length c5] 57)))
          clear HRB_172
          have HSR_177 := Lib.hid (Src.mono HSR_173.out (belowA _ (.cells #[.int .i64 2, .slice a5 l5.length c5] 57)))
          clear HSR_173
          have HD5_178 := Lib.hid (Ip.mono HD5.out (belowA _ (.cells #[.int .i64 2, .slice a5 l5.length c5] 57)))
          clear HD5
          refine ⟨⟨hs175.cellAt 0 rfl 0 rfl, hs175.cellAt 0 rfl 1 rfl, hs175.cellAt 1 rfl 0 rfl, hs175.cellAt 1 rfl 1 rfl, hs175.cellAt 2 rfl 0 rfl, hs175.cellAt 2 rfl 1 rfl, hs175.cellAt 3 rfl 0 rfl, hs175.cellAt 3 rfl 1 rfl⟩, ?_⟩
          (repeat (first | (apply t4_skip rfl (by rfl); try simp only [Act.put, List.setIfInBounds_toArray, List.set_cons_zero, List.set_cons_succ]) | (apply t4_float rfl (by rfl); (· (intro w' hS; go_simp <;> with_reducible rfl)); (try simp only [Act.put, List.setIfInBounds_toArray, List.set_cons_zero, List.set_cons_succ]))))
          refine t4_hard rfl (by rfl) (fun K hK => ?_)
          refine wp_append_accP _ _ _ _ rfl E_rels rfl HRB_176.out HD5_178.out (fun z h1 h2 => by (try simp only at h1 h2); omega) ⟨w169.heap.size, 0, none⟩ 1 rfl (news2 (hs175.cellAt 4 rfl 0 rfl) (hs175.cellAt 4 rfl 1 rfl)) (by rw [HRN.out]; omega) ?_
          simp only [HRN.out]
          intro a6 c6 w6 hA6 hB6
          have hz6 := hB6.size
          (try simp at hz6)
          have hs6 := hs175.butP hB6 (fun z hz => by have := hz.1; omega) (fun x hx hA => by have h1 := hA.1; have h2 := hA.2; simp at hx; rcases hx with rfl | rfl | rfl | rfl | rfl <;> (try simp only at h1 h2) <;> omega)
          have HRC := Lib.hid (AccP.wk hA6.tight (C := fun z => TA + 1 + 1 ≤ z ∧ z < w6.heap.size) (fun z hz => ⟨by
            have h2 := hz.2
            rcases hz.1 with h | h | h
            · exact h.1
            · (try simp only at h); omega
            · rw [h]; (try simp); omega, hz.2⟩))
          clear hA6
          clear HRB_176
          clear HD5_178
          have HRB := HRC
          have HSR_179 := Lib.hid (Src.below (B := B) HSR_177.out (hB6.below (fun z hz => by (try simp only at hz); omega) (by (try simp); omega)))
          clear HSR_177
          refine hK _ _ ⟨⟨hs6.cellAt 0 rfl 0 rfl, hs6.cellAt 0 rfl 1 rfl, hs6.cellAt 1 rfl 0 rfl, hs6.cellAt 1 rfl 1 rfl, hs6.cellAt 2 rfl 0 rfl, hs6.cellAt 2 rfl 1 rfl, hs6.cellAt 3 rfl 0 rfl, hs6.cellAt 3 rfl 1 rfl⟩, ?_⟩
          (repeat (first | (apply t4_skip rfl (by rfl); try simp only [Act.put, List.setIfInBounds_toArray, List.set_cons_zero, List.set_cons_succ]) | (apply t4_float rfl (by rfl); (· (intro w' hS; go_simp <;> with_reducible rfl)); (try simp only [Act.put, List.setIfInBounds_toArray, List.set_cons_zero, List.set_cons_succ]))))
          refine t4_last rfl (by rfl) (fun K hK => ?_)
          have k0_0 := hs6.cellAt 0 rfl 0 rfl
          have k0_1 := hs6.cellAt 0 rfl 1 rfl
          have k1_0 := hs6.cellAt 1 rfl 0 rfl
          have k1_1 := hs6.cellAt 1 rfl 1 rfl
          have k2_0 := hs6.cellAt 2 rfl 0 rfl
          have k2_1 := hs6.cellAt 2 rfl 1 rfl
          have k3_0 := hs6.cellAt 3 rfl 0 rfl
          have k3_1 := hs6.cellAt 3 rfl 1 rfl
          have k4_0 := hs6.cellAt 4 rfl 0 rfl
          have k4_1 := hs6.cellAt 4 rfl 1 rfl
          have hs180 := hs6.low (B' := TA + 1 + 1) (bx' := [(w.heap.size, #[.int .i64 0, .slice none 0 0], 26), (w.heap.size + 1, #[.int .i64 0, .slice none 0 0], 29), (TA, #[.int .i64 SZ, .slice a8 1 c8], 26), (TA + 1, #[.int .i64 2, .slice a n c], 57)]) (by omega) (by (try simp) <;> omega) (fun x hx => by simp only [List.mem_cons, List.not_mem_nil, or_false] at hx; rcases hx with rfl | rfl | rfl | rfl <;> (refine ⟨?_, ?_⟩ <;> (try simp) <;> (try omega)))
          have f2_0 := hs180.freeAt 2 rfl 0
          have f2_1 := hs180.freeAt 2 rfl 1
          go_wp2_with fail
          refine t4_nil (NoPanic.normal ?_)
          have hs181 := hs180.set (p := [_, _]) (by simp <;> omega) 1 (.slice a6 2 c6)
          have HSR_182 := Lib.hid (Src.below (B := B) HSR_179.out ((Below.refl B _).setCell (p := ⟨TA, 1, none⟩) (by (try simp) <;> omega) (.slice a6 2 c6)))
          clear HSR_179
          have HRB_183 := Lib.hid (AccP.setCell (b := TA) (o := 1) HRB.out (.slice a6 2 c6) (by intro hA9; (try simp only at hA9); omega))
          clear HRB
          clear k0_0 k0_1 k1_0 k1_1 k2_0 k2_1 k3_0 k3_1 k4_0 k4_1
          have hz_wE : w6.heap.size ≤ ((w6.setCell ⟨TA, 1, none⟩ (.slice a6 2 c6))).heap.size := by simp [World.setCell]
          generalize hgen_wE : (w6.setCell ⟨TA, 1, none⟩ (.slice a6 2 c6)) = wE at *
          clear hgen_wE
          have k0_0 := hs181.cellAt 0 rfl 0 rfl
          have k0_1 := hs181.cellAt 0 rfl 1 rfl
          have k1_0 := hs181.cellAt 1 rfl 0 rfl
          have k1_1 := hs181.cellAt 1 rfl 1 rfl
          have k2_0 := hs181.cellAt 2 rfl 0 rfl
          have k2_1 := hs181.cellAt 2 rfl 1 rfl
          have k3_0 := hs181.cellAt 3 rfl 0 rfl
          have k3_1 := hs181.cellAt 3 rfl 1 rfl
          go_wp2_with fail
          refine (pick_c 2 L B b (k + 2000) _ (HSR_182.out.more (by omega)) (by omega) (by omega) (by omega)).mono ?_
          rintro e w184 ⟨r4, rfl, hr40, hr41, hrw184, hbw184⟩
          obtain ⟨wz185, hs186, hz_wz185, hy_wz185, hc_wz185⟩ := hs181.cut hbw184 (by intro k hk; simp only [List.mem_singleton] at hk; omega)
          have hz_w184 : wE.heap.size ≤ w184.heap.size := by have h9 := hbw184.size; (try simp at h9); omega
          have HSR_187 := Lib.hid hrw184
          clear HSR_182
          have HBT_188 := Lib.hid (HBT_174.out.trans hc_wz185)
          clear HBT_174
          have HRB_189 := Lib.hid (AccP.butL HRB_183.out hbw184 (by intro k hk; simp only [List.mem_singleton] at hk; omega))
          clear HRB_183
          clear hrw184 hc_wz185
          clear k0_0 k0_1 k1_0 k1_1 k2_0 k2_1 k3_0 k3_1
          have k0_0 := hs186.cellAt 0 rfl 0 rfl
          have k0_1 := hs186.cellAt 0 rfl 1 rfl
          have k1_0 := hs186.cellAt 1 rfl 0 rfl
          have k1_1 := hs186.cellAt 1 rfl 1 rfl
          have k2_0 := hs186.cellAt 2 rfl 0 rfl
          have k2_1 := hs186.cellAt 2 rfl 1 rfl
          have k3_0 := hs186.cellAt 3 rfl 0 rfl
          have k3_1 := hs186.cellAt 3 rfl 1 rfl
          obtain ⟨U, hU⟩ : ∃ U : Nat, 3 + r4 = (U : Int) := ⟨(3 + r4).toNat, by omega⟩
          have hw4 : IntKind.i64.wrap (3 + r4) = (U : Int) := by rw [hU]; exact i64_in _ (by omega)
          have hUU : 3 ≤ U ∧ U ≤ 4 := by omega
          clear hU
          have hs190 := hs186.alloc #[.int .i64 U, .slice none 0 0] 29 (n := w184.heap.size) (by simp)
          have HSR_191 := Lib.hid (Src.mono HSR_187.out (belowA _ (.cells #[.int .i64 U, .slice none 0 0] 29)))
          clear HSR_187
          have HRB_192 := Lib.hid (AccP.mono HRB_189.out (belowA _ (.cells #[.int .i64 U, .slice none 0 0] 29)))
          clear HRB_189
          clear k0_0 k0_1 k1_0 k1_1 k2_0 k2_1 k3_0 k3_1
          have k0_0 := hs190.cellAt 0 rfl 0 rfl
          have k0_1 := hs190.cellAt 0 rfl 1 rfl
          have k1_0 := hs190.cellAt 1 rfl 0 rfl
          have k1_1 := hs190.cellAt 1 rfl 1 rfl
          have k2_0 := hs190.cellAt 2 rfl 0 rfl
          have k2_1 := hs190.cellAt 2 rfl 1 rfl
          have k3_0 := hs190.cellAt 3 rfl 0 rfl
          have k3_1 := hs190.cellAt 3 rfl 1 rfl
          have k4_0 := hs190.cellAt 4 rfl 0 rfl
          have k4_1 := hs190.cellAt 4 rfl 1 rfl
          go_wp2_with fail
          refine (pick_c 7 L B b (k + 2001) _ HSR_191.out (by omega) (by omega) (by omega)).mono ?_
          rintro e w193 ⟨r5, rfl, hr50, hr51, hrw193, hbw193⟩
          obtain ⟨wz194, hs195, hz_wz194, hy_wz194, hc_wz194⟩ := hs190.cut hbw193 (by intro k hk; simp only [List.mem_singleton] at hk; omega)
          have hz_w193 : w184.heap.size + 1 ≤ w193.heap.size := by have h9 := hbw193.size; (try simp at h9); omega
          have HSR_196 := Lib.hid hrw193
          clear HSR_191
          have HBT_197 := Lib.hid (HBT_188.out.trans hc_wz194)
          clear HBT_188
          have HRB_198 := Lib.hid (AccP.butL HRB_192.out hbw193 (by intro k hk; simp only [List.mem_singleton] at hk; omega))
          clear HRB_192
          clear hrw193 hc_wz194
          clear k0_0 k0_1 k1_0 k1_1 k2_0 k2_1 k3_0 k3_1 k4_0 k4_1
          have k0_0 := hs195.cellAt 0 rfl 0 rfl
          have k0_1 := hs195.cellAt 0 rfl 1 rfl
          have k1_0 := hs195.cellAt 1 rfl 0 rfl
          have k1_1 := hs195.cellAt 1 rfl 1 rfl
          have k2_0 := hs195.cellAt 2 rfl 0 rfl
          have k2_1 := hs195.cellAt 2 rfl 1 rfl
          have k3_0 := hs195.cellAt 3 rfl 0 rfl
          have k3_1 := hs195.cellAt 3 rfl 1 rfl
          have k4_0 := hs195.cellAt 4 rfl 0 rfl
          have k4_1 := hs195.cellAt 4 rfl 1 rfl
          obtain ⟨K, hK⟩ : ∃ K : Nat, 3 + r5 = (K : Int) := ⟨(3 + r5).toNat, by omega⟩
          have hw5 : IntKind.i64.wrap (3 + r5) = (K : Int) := by rw [hK]; exact i64_in _ (by omega)
          have hKK : 3 ≤ K ∧ K ≤ 9 := by omega
          clear hK
          go_wp2_with fail
          have HST := Lib.hid hs195
          have HSR9 := Lib.hid HSR_196.out
          have HBT9 := Lib.hid HBT_197.out
          obtain ⟨XA, hXA⟩ : ∃ z, z = w184.heap.size := ⟨_, rfl⟩
          have hXL : TA + 1 + 1 ≤ XA := by omega
          have HRB9 := Lib.hid (HRB_198.out.wk (C := fun z => TA + 1 + 1 ≤ z ∧ z < XA) (fun z hz => ⟨hz.1, by have := hz.2; omega⟩))
          rw [← hXA] at HST ⊢
          clear hXA
          go_loopw [9] (fun i wl => ∃ (m q : Nat) (wz : World) (ax : Option Addr) (cx : Nat) (lx : List OpT), m + q = K ∧ i = .int .i64 q ∧ Hid (lx.length = m) ∧ Hid (wz.heap.size = w.heap.size ∧ But [b] w wz) ∧ Hid (St wz (XA + 1) wl [(w.heap.size, #[.int .i64 0, .slice none 0 0], 26), (w.heap.size + 1, #[.int .i64 0, .slice none 0 0], 29), (TA, #[.int .i64 SZ, .slice a6 2 c6], 26), (TA + 1, #[.int .i64 2, .slice a n c], 57), (XA, #[.int .i64 U, .slice ax m cx], 29)]) ∧ Hid (AccP (fun z => XA + 1 ≤ z ∧ z < wl.heap.size) 60 wl (.slice ax m cx) lx) ∧ Hid (AccP (fun z => TA + 1 + 1 ≤ z ∧ z < XA) 57 wl (.slice a6 2 c6) (RL0 ++ [((2 : Int), l5)])) ∧ Hid (Src L B wl b (k + 2002 + 10 * m))) (fun i _ => (intOf i).toNat)
          case atStart => exact ⟨0, K, wz194, none, 0, [], by omega, rfl, rfl, ⟨by omega, HBT9.out⟩, HST.out, AccP.nil _ _ _, HRB9.out, HSR9.out.more (by omega)⟩
          case round =>
            clear HST HSR9 HBT9 HRB9
            obtain ⟨m, q, wz2, ax, cx, lx, hmq, rfl, hlx, hwz2, hst2, hac2, hrb2, hsr2⟩ := hrel
            have HCN := hlx
            have HAX := hac2
            have HRB := hrb2
            have HSR := hsr2
            have hwz3 := hwz2.out.1
            have HBT := Lib.hid hwz2.out.2
            have hs2 := hst2.out
            have hszr2 := hst2.out.hi
            have hlo2 := hst2.out.lo
            clear hac2 hrb2 hsr2 hlx hwz2 hst2
            have k0_0 := hs2.cellAt 0 rfl 0 rfl
            have k0_1 := hs2.cellAt 0 rfl 1 rfl
            have k1_0 := hs2.cellAt 1 rfl 0 rfl
            have k1_1 := hs2.cellAt 1 rfl 1 rfl
            have k2_0 := hs2.cellAt 2 rfl 0 rfl
            have k2_1 := hs2.cellAt 2 rfl 1 rfl
            have k3_0 := hs2.cellAt 3 rfl 0 rfl
            have k3_1 := hs2.cellAt 3 rfl 1 rfl
            have k4_0 := hs2.cellAt 4 rfl 0 rfl
            have k4_1 := hs2.cellAt 4 rfl 1 rfl
            by_cases hlq : 0 < q
            · have hlqI : (0 : Int) < q := by omega
              have hdq : IntKind.i64.wrap ((q : Int) - 1) = ((q - 1 : Nat) : Int) := by rw [i64_in _ (by omega)]; omega
              go_wp2_with fail
              refine (pick_c U L B b (k + 2002 + 10 * m) _ HSR.out (by omega) (by omega) (by omega)).mono ?_
              rintro e w199 ⟨a1, rfl, ha10, ha11, hrw199, hbw199⟩
              obtain ⟨wz200, hs201, hz_wz200, hy_wz200, hc_wz200⟩ := hs2.cut hbw199 (by intro k hk; simp only [List.mem_singleton] at hk; omega)
              have hz_w199 : wr.heap.size ≤ w199.heap.size := by have h9 := hbw199.size; (try simp at h9); omega
              have HAX_202 := Lib.hid (AccP.butL HAX.out hbw199 (by intro k hk; simp only [List.mem_singleton] at hk; omega))
              clear HAX
              have HRB_203 := Lib.hid (AccP.butL HRB.out hbw199 (by intro k hk; simp only [List.mem_singleton] at hk; omega))
              clear HRB
              have HSR_204 := Lib.hid hrw199
              clear HSR
              have HBT_205 := Lib.hid (HBT.out.trans hc_wz200)
              clear HBT
              clear hrw199 hc_wz200
              clear k0_0 k0_1 k1_0 k1_1 k2_0 k2_1 k3_0 k3_1 k4_0 k4_1
              have k0_0 := hs201.cellAt 0 rfl 0 rfl
              have k0_1 := hs201.cellAt 0 rfl 1 rfl
              have k1_0 := hs201.cellAt 1 rfl 0 rfl
              have k1_1 := hs201.cellAt 1 rfl 1 rfl
              have k2_0 := hs201.cellAt 2 rfl 0 rfl
              have k2_1 := hs201.cellAt 2 rfl 1 rfl
              have k3_0 := hs201.cellAt 3 rfl 0 rfl
              have k3_1 := hs201.cellAt 3 rfl 1 rfl
              have k4_0 := hs201.cellAt 4 rfl 0 rfl
              have k4_1 := hs201.cellAt 4 rfl 1 rfl
              have hwu : IntKind.i64.wrap ((U : Int) - 1) = (U : Int) - 1 := i64_in _ (by omega)
              have hwa : IntKind.i64.wrap (a1 + 1) = a1 + 1 := i64_in _ (by omega)
              have hu0 : U ≠ 0 := by omega
              have hu1 : (U : Int) ≠ 0 := by omega
              go_upto_region 19 with fail
              refine wp_region_noPanic (wp_region_tree4 (fun w' => w'.cell? ⟨w.heap.size, 0, none⟩ = some (.int .i64 0) ∧ w'.cell? ⟨w.heap.size, 1, none⟩ = some (.slice none 0 0) ∧ w'.cell? ⟨w.heap.size + 1, 0, none⟩ = some (.int .i64 0) ∧ w'.cell? ⟨w.heap.size + 1, 1, none⟩ = some (.slice none 0 0) ∧ w'.cell? ⟨TA, 0, none⟩ = some (.int .i64 SZ) ∧ w'.cell? ⟨TA, 1, none⟩ = some (.slice a6 2 c6) ∧ w'.cell? ⟨TA + 1, 0, none⟩ = some (.int .i64 2) ∧ w'.cell? ⟨TA + 1, 1, none⟩ = some (.slice a n c) ∧ w'.cell? ⟨XA, 0, none⟩ = some (.int .i64 U) ∧ w'.cell? ⟨XA, 1, none⟩ = some (.slice ax m cx)) (.float 0 (.float 1 (.float 2 (.float 3 (.float 4 (.float 5 (.float 8 (.float 9 (.hard 6 (.float 7 (.float 10 (.float 11 .nil)))))))))))) (by kernel_rfl) (by kernel_rfl) (by kernel_rfl) rfl ?_ (fun _ _ _ _ _ h => h) ?_)
              · exact ⟨(hs201.drew).cellAt 0 rfl 0 rfl, (hs201.drew).cellAt 0 rfl 1 rfl, (hs201.drew).cellAt 1 rfl 0 rfl, (hs201.drew).cellAt 1 rfl 1 rfl, (hs201.drew).cellAt 2 rfl 0 rfl, (hs201.drew).cellAt 2 rfl 1 rfl, (hs201.drew).cellAt 3 rfl 0 rfl, (hs201.drew).cellAt 3 rfl 1 rfl, (hs201.drew).cellAt 4 rfl 0 rfl, (hs201.drew).cellAt 4 rfl 1 rfl⟩
              have hs206 := hs201.drew
              have HAX_207 := Lib.hid (AccP.mono HAX_202.out (belowD _))
              clear HAX_202
              have HRB_208 := Lib.hid (AccP.mono HRB_203.out (belowD _))
              clear HRB_203
              have HSR_209 := Lib.hid (Src.mono HSR_204.out (belowD _))
              clear HSR_204
              clear k0_0 k0_1 k1_0 k1_1 k2_0 k2_1 k3_0 k3_1 k4_0 k4_1
              have hz_wd210 : w199.heap.size ≤ (w199.drew).heap.size := by simp
              generalize hgen_wd210 : w199.drew = wd210 at *
              have HG_wd210 := Lib.hid hgen_wd210
              clear hgen_wd210
              (repeat (first | (apply t4_skip rfl (by rfl); try simp only [Act.put, List.setIfInBounds_toArray, List.set_cons_zero, List.set_cons_succ]) | (apply t4_float rfl (by rfl); (· (intro w' hS; go_simp <;> with_reducible rfl)); (try simp only [Act.put, List.setIfInBounds_toArray, List.set_cons_zero, List.set_cons_succ]))))
              refine t4_hard rfl (by rfl) (fun K hK => ?_)
              go_wp2_with (go_at_call 38; refine (pick_c ((U : Int) - 1) L B b (k + 2002 + 10 * m + 1) _ HSR_209.out (by omega) (by omega) (by omega)).mono ?_; rintro e w211 ⟨r6, rfl, hr60, hr61, hrw211, hbw211⟩)
              obtain ⟨wz212, hs213, hz_wz212, hy_wz212, hc_wz212⟩ := hs206.cut hbw211 (by intro k hk; simp only [List.mem_singleton] at hk; omega)
              have hz_w211 : wd210.heap.size ≤ w211.heap.size := by have h9 := hbw211.size; (try simp at h9); omega
              have HAX_214 := Lib.hid (AccP.butL HAX_207.out hbw211 (by intro k hk; simp only [List.mem_singleton] at hk; omega))
              clear HAX_207
              have HRB_215 := Lib.hid (AccP.butL HRB_208.out hbw211 (by intro k hk; simp only [List.mem_singleton] at hk; omega))
              clear HRB_208
              have HSR_216 := Lib.hid hrw211
              clear HSR_209
              have HBT_217 := Lib.hid (HBT_205.out.trans hc_wz212)
              clear HBT_205
              clear hrw211 hc_wz212
              have hw6 : IntKind.i64.wrap (a1 + 1 + r6) = a1 + 1 + r6 := i64_in _ (by omega)
              obtain ⟨BV, hBV⟩ : ∃ BV, BV = (a1 + 1 + r6).tmod (U : Int) := ⟨_, rfl⟩
              have hBV0 : 0 ≤ BV ∧ BV < U := by
                rw [hBV, Int.tmod_eq_emod_of_nonneg (by omega)]
                exact ⟨Int.emod_nonneg _ hu1, Int.emod_lt_of_pos _ (by omega)⟩
              have hBV9 := hBV.symm
              have hwB : IntKind.i64.wrap BV = BV := i64_in _ (by omega)
              clear hBV
              refine ⟨⟨hs213.cellAt 0 rfl 0 rfl, hs213.cellAt 0 rfl 1 rfl, hs213.cellAt 1 rfl 0 rfl, hs213.cellAt 1 rfl 1 rfl, hs213.cellAt 2 rfl 0 rfl, hs213.cellAt 2 rfl 1 rfl, hs213.cellAt 3 rfl 0 rfl, hs213.cellAt 3 rfl 1 rfl, hs213.cellAt 4 rfl 0 rfl, hs213.cellAt 4 rfl 1 rfl⟩, ?_⟩
              (repeat (first | (apply t4_skip rfl (by rfl); try simp only [Act.put, List.setIfInBounds_toArray, List.set_cons_zero, List.set_cons_succ]) | (apply t4_float rfl (by rfl); (· (intro w' hS; go_simp <;> with_reducible rfl)); (try simp only [Act.put, List.setIfInBounds_toArray, List.set_cons_zero, List.set_cons_succ]))))
              have k0_0 := hs213.cellAt 0 rfl 0 rfl
              have k0_1 := hs213.cellAt 0 rfl 1 rfl
              have k1_0 := hs213.cellAt 1 rfl 0 rfl
              have k1_1 := hs213.cellAt 1 rfl 1 rfl
              have k2_0 := hs213.cellAt 2 rfl 0 rfl
              have k2_1 := hs213.cellAt 2 rfl 1 rfl
              have k3_0 := hs213.cellAt 3 rfl 0 rfl
              have k3_1 := hs213.cellAt 3 rfl 1 rfl
              have k4_0 := hs213.cellAt 4 rfl 0 rfl
              have k4_1 := hs213.cellAt 4 rfl 1 rfl
              refine t4_nil (NoPanic.normal ?_)
              go_upto_region 20 with fail
              refine wp_region_noPanic (wp_region_tree4 (fun w' => w'.cell? ⟨w.heap.size, 0, none⟩ = some (.int .i64 0) ∧ w'.cell? ⟨w.heap.size, 1, none⟩ = some (.slice none 0 0) ∧ w'.cell? ⟨w.heap.size + 1, 0, none⟩ = some (.int .i64 0) ∧ w'.cell? ⟨w.heap.size + 1, 1, none⟩ = some (.slice none 0 0) ∧ w'.cell? ⟨TA, 0, none⟩ = some (.int .i64 SZ) ∧ w'.cell? ⟨TA, 1, none⟩ = some (.slice a6 2 c6) ∧ w'.cell? ⟨TA + 1, 0, none⟩ = some (.int .i64 2) ∧ w'.cell? ⟨TA + 1, 1, none⟩ = some (.slice a n c) ∧ w'.cell? ⟨XA, 0, none⟩ = some (.int .i64 U) ∧ w'.cell? ⟨XA, 1, none⟩ = some (.slice ax m cx)) (.float 0 (.float 1 (.float 2 (.float 3 (.float 4 (.float 5 (.float 7 (.float 8 (.fork2 6 (.hard 9 (.float 10 (.hard 11 (.hard 12 (.float 13 (.last 14 .nil)))))) 9 (.hard 6 (.float 10 (.hard 11 (.hard 12 (.float 13 (.last 14 .nil))))))))))))))) (by kernel_rfl) (by kernel_rfl) (by kernel_rfl) rfl ?_ (fun _ _ _ _ _ h => h) ?_)
              · exact ⟨(hs213.drew).cellAt 0 rfl 0 rfl, (hs213.drew).cellAt 0 rfl 1 rfl, (hs213.drew).cellAt 1 rfl 0 rfl, (hs213.drew).cellAt 1 rfl 1 rfl, (hs213.drew).cellAt 2 rfl 0 rfl, (hs213.drew).cellAt 2 rfl 1 rfl, (hs213.drew).cellAt 3 rfl 0 rfl, (hs213.drew).cellAt 3 rfl 1 rfl, (hs213.drew).cellAt 4 rfl 0 rfl, (hs213.drew).cellAt 4 rfl 1 rfl⟩
              have hs218 := hs213.drew
              have HAX_219 := Lib.hid (AccP.mono HAX_214.out (belowD _))
              clear HAX_214
              have HRB_220 := Lib.hid (AccP.mono HRB_215.out (belowD _))
              clear HRB_215
              have HSR_221 := Lib.hid (Src.mono HSR_216.out (belowD _))
              clear HSR_216
              clear k0_0 k0_1 k1_0 k1_1 k2_0 k2_1 k3_0 k3_1 k4_0 k4_1
              have hz_wd222 : w211.heap.size ≤ (w211.drew).heap.size := by simp
              generalize hgen_wd222 : w211.drew = wd222 at *
              have HG_wd222 := Lib.hid hgen_wd222
              clear hgen_wd222
              (repeat (first | (apply t4_skip rfl (by rfl); try simp only [Act.put, List.setIfInBounds_toArray, List.set_cons_zero, List.set_cons_succ]) | (apply t4_float rfl (by rfl); (· (intro w' hS; go_simp <;> with_reducible rfl)); (try simp only [Act.put, List.setIfInBounds_toArray, List.set_cons_zero, List.set_cons_succ]))))
              refine t4_fork2 ?_ ?_
              · refine t4_hard rfl (by rfl) (fun K hK => ?_)
                go_wp2_with (go_at_call 38; refine (pickG_c 2 L B b (k + 2002 + 10 * m + 2) _ HSR_221.out (by omega) (by omega)).mono ?_; rintro e w223 ⟨rr, rfl, hrr0, hrr1, hrw223, hbw223⟩)
                obtain ⟨wz224, hs225, hz_wz224, hy_wz224, hc_wz224⟩ := hs218.cut hbw223 (by intro k hk; simp only [List.mem_singleton] at hk; omega)
                have hz_w223 : wd222.heap.size ≤ w223.heap.size := by have h9 := hbw223.size; (try simp at h9); omega
                have HAX_226 := Lib.hid (AccP.butL HAX_219.out hbw223 (by intro k hk; simp only [List.mem_singleton] at hk; omega))
                clear HAX_219
                have HRB_227 := Lib.hid (AccP.butL HRB_220.out hbw223 (by intro k hk; simp only [List.mem_singleton] at hk; omega))
                clear HRB_220
                have HSR_228 := Lib.hid hrw223
                clear HSR_221
                have HBT_229 := Lib.hid (HBT_217.out.trans hc_wz224)
                clear HBT_217
                clear hrw223 hc_wz224
                have hrr2 := hrr1 (by omega)
                refine ⟨⟨hs225.cellAt 0 rfl 0 rfl, hs225.cellAt 0 rfl 1 rfl, hs225.cellAt 1 rfl 0 rfl, hs225.cellAt 1 rfl 1 rfl, hs225.cellAt 2 rfl 0 rfl, hs225.cellAt 2 rfl 1 rfl, hs225.cellAt 3 rfl 0 rfl, hs225.cellAt 3 rfl 1 rfl, hs225.cellAt 4 rfl 0 rfl, hs225.cellAt 4 rfl 1 rfl⟩, ?_⟩
                (repeat (first | (apply t4_skip rfl (by rfl); try simp only [Act.put, List.setIfInBounds_toArray, List.set_cons_zero, List.set_cons_succ]) | (apply t4_float rfl (by rfl); (· (intro w' hS; go_simp <;> with_reducible rfl)); (try simp only [Act.put, List.setIfInBounds_toArray, List.set_cons_zero, List.set_cons_succ]))))
                refine t4_hard rfl (by rfl) (fun K hK => ?_)
                go_wp2_with fail
                have hs230 := hs225.alloc #[.int .i64 a1, .int .i64 BV] 2 (n := w223.heap.size) (by simp)
                have HAX_231 := Lib.hid (AccP.mono HAX_226.out (belowA _ (.cells #[.int .i64 a1, .int .i64 BV] 2)))
                clear HAX_226
                have HRB_232 := Lib.hid (AccP.mono HRB_227.out (belowA _ (.cells #[.int .i64 a1, .int .i64 BV] 2)))
                clear HRB_227
                have HSR_233 := Lib.hid (Src.mono HSR_228.out (belowA _ (.cells #[.int .i64 a1, .int .i64 BV] 2)))
                clear HSR_228
                have HI0 := Lib.hid ((fresh_ilits [a1, BV] (lo := w223.heap.size) (hs230.box (w223.heap.size, #[.int .i64 a1, .int .i64 BV], 2) (by simp)).2.2 (Nat.le_refl _) (fun a ha => by simp at ha; constructor <;> omega) (by simp)).ip)
                refine ⟨⟨hs230.cellAt 0 rfl 0 rfl, hs230.cellAt 0 rfl 1 rfl, hs230.cellAt 1 rfl 0 rfl, hs230.cellAt 1 rfl 1 rfl, hs230.cellAt 2 rfl 0 rfl, hs230.cellAt 2 rfl 1 rfl, hs230.cellAt 3 rfl 0 rfl, hs230.cellAt 3 rfl 1 rfl, hs230.cellAt 4 rfl 0 rfl, hs230.cellAt 4 rfl 1 rfl⟩, ?_⟩
                (repeat (first | (apply t4_skip rfl (by rfl); try simp only [Act.put, List.setIfInBounds_toArray, List.set_cons_zero, List.set_cons_succ]) | (apply t4_float rfl (by rfl); (· (intro w' hS; go_simp <;> with_reducible rfl)); (try simp only [Act.put, List.setIfInBounds_toArray, List.set_cons_zero, List.set_cons_succ]))))
                refine t4_hard rfl (by rfl) (fun K hK => ?_)
                go_wp2_with fail
                have hs234 := hs230.alloc #[.int .i64 rr, .slice (some ⟨w223.heap.size, 0, none⟩) 2 2] 60 (n := w223.heap.size + 1) (by simp)
                have HAX_235 := Lib.hid (AccP.mono HAX_231.out (belowA _ (.cells #[.int .i64 rr, .slice (some ⟨w223.heap.size, 0, none⟩) 2 2] 60)))
                clear HAX_231
                have HRB_236 := Lib.hid (AccP.mono HRB_232.out (belowA _ (.cells #[.int .i64 rr, .slice (some ⟨w223.heap.size, 0, none⟩) 2 2] 60)))
                clear HRB_232
                have HSR_237 := Lib.hid (Src.mono HSR_233.out (belowA _ (.cells #[.int .i64 rr, .slice (some ⟨w223.heap.size, 0, none⟩) 2 2] 60)))
                clear HSR_233
                have HI0_238 := Lib.hid (Ip.mono HI0.out (belowA _ (.cells #[.int .i64 rr, .slice (some ⟨w223.heap.size, 0, none⟩) 2 2] 60)))
                clear HI0
                refine ⟨⟨hs234.cellAt 0 rfl 0 rfl, hs234.cellAt 0 rfl 1 rfl, hs234.cellAt 1 rfl 0 rfl, hs234.cellAt 1 rfl 1 rfl, hs234.cellAt 2 rfl 0 rfl, hs234.cellAt 2 rfl 1 rfl, hs234.cellAt 3 rfl 0 rfl, hs234.cellAt 3 rfl 1 rfl, hs234.cellAt 4 rfl 0 rfl, hs234.cellAt 4 rfl 1 rfl⟩, ?_⟩
                (repeat (first | (apply t4_skip rfl (by rfl); try simp only [Act.put, List.setIfInBounds_toArray, List.set_cons_zero, List.set_cons_succ]) | (apply t4_float rfl (by rfl); (· (intro w' hS; go_simp <;> with_reducible rfl)); (try simp only [Act.put, List.setIfInBounds_toArray, List.set_cons_zero, List.set_cons_succ]))))
                refine t4_hard rfl (by rfl) (fun K hK => ?_)
                have hlnw := HCN.out
                have HIR := Lib.hid (ip_icD (k := rr) ⟨by omega, by omega⟩ HI0_238.out)
                refine wp_append_accP _ _ _ _ rfl E_cons rfl HAX_235.out HIR.out (fun z h1 h2 => by (try simp only at h1 h2); omega) ⟨w223.heap.size + 1, 0, none⟩ 1 rfl (news2 (hs234.cellAt 6 rfl 0 rfl) (hs234.cellAt 6 rfl 1 rfl)) (by omega) ?_
                simp only [HCN.out]
                intro ay cy wy hA8 hB8
                have hz8 := hB8.size
                have hs8 := hs234.butP hB8 (fun z hz => by have := hz.1; omega) (fun x hx hA => by have h1 := hA.1; have h2 := hA.2; simp at hx; rcases hx with rfl | rfl | rfl | rfl | rfl | rfl | rfl <;> (try simp only at h1 h2) <;> omega)
                have HA2 := Lib.hid (AccP.wk hA8.tight (C := fun z => XA + 1 ≤ z ∧ z < wy.heap.size) (fun z hz => ⟨by
                  have h2 := hz.2
                  rcases hz.1 with h | h | h
                  · exact h.1
                  · (try simp only at h); omega
                  · rw [h]; (try simp); omega, hz.2⟩))
                clear hA8
                clear HAX_235
                clear HI0_238
                have HRB_239 := Lib.hid (AccP.butP HRB_236.out hB8 (fun z h1 h2 => by (try simp only at h1 h2); omega))
                clear HRB_236
                have HSR_240 := Lib.hid (Src.below (B := B) HSR_237.out (hB8.below (fun z hz => by (try simp only at hz); omega) (by (try simp); omega)))
                clear HSR_237
                refine hK _ _ ⟨⟨hs8.cellAt 0 rfl 0 rfl, hs8.cellAt 0 rfl 1 rfl, hs8.cellAt 1 rfl 0 rfl, hs8.cellAt 1 rfl 1 rfl, hs8.cellAt 2 rfl 0 rfl, hs8.cellAt 2 rfl 1 rfl, hs8.cellAt 3 rfl 0 rfl, hs8.cellAt 3 rfl 1 rfl, hs8.cellAt 4 rfl 0 rfl, hs8.cellAt 4 rfl 1 rfl⟩, ?_⟩
                (repeat (first | (apply t4_skip rfl (by rfl); try simp only [Act.put, List.setIfInBounds_toArray, List.set_cons_zero, List.set_cons_succ]) | (apply t4_float rfl (by rfl); (· (intro w' hS; go_simp <;> with_reducible rfl)); (try simp only [Act.put, List.setIfInBounds_toArray, List.set_cons_zero, List.set_cons_succ]))))
                refine t4_last rfl (by rfl) (fun K hK => ?_)
                have k0_0 := hs8.cellAt 0 rfl 0 rfl
                have k0_1 := hs8.cellAt 0 rfl 1 rfl
                have k1_0 := hs8.cellAt 1 rfl 0 rfl
                have k1_1 := hs8.cellAt 1 rfl 1 rfl
                have k2_0 := hs8.cellAt 2 rfl 0 rfl
                have k2_1 := hs8.cellAt 2 rfl 1 rfl
                have k3_0 := hs8.cellAt 3 rfl 0 rfl
                have k3_1 := hs8.cellAt 3 rfl 1 rfl
                have k4_0 := hs8.cellAt 4 rfl 0 rfl
                have k4_1 := hs8.cellAt 4 rfl 1 rfl
                have k5_0 := hs8.cellAt 5 rfl 0 rfl
                have k5_1 := hs8.cellAt 5 rfl 1 rfl
                have k6_0 := hs8.cellAt 6 rfl 0 rfl
                have k6_1 := hs8.cellAt 6 rfl 1 rfl
                have hs241 := hs8.low (B' := XA + 1) (bx' := [(w.heap.size, #[.int .i64 0, .slice none 0 0], 26), (w.heap.size + 1, #[.int .i64 0, .slice none 0 0], 29), (TA, #[.int .i64 SZ, .slice a6 2 c6], 26), (TA + 1, #[.int .i64 2, .slice a n c], 57), (XA, #[.int .i64 U, .slice ax m cx], 29)]) (by omega) (by (try simp) <;> omega) (fun x hx => by simp only [List.mem_cons, List.not_mem_nil, or_false] at hx; rcases hx with rfl | rfl | rfl | rfl | rfl <;> (refine ⟨?_, ?_⟩ <;> (try simp) <;> (try omega)))
                have f4_0 := hs241.freeAt 4 rfl 0
                have f4_1 := hs241.freeAt 4 rfl 1
                go_wp2_with fail
                refine t4_nil (NoPanic.normal ?_)
                have hs242 := hs241.set (p := [_, _, _, _]) (by simp <;> omega) 1 (.slice ay (m + 1) cy)
                have HRB_243 := Lib.hid (AccP.setCell (b := XA) (o := 1) HRB_239.out (.slice ay (m + 1) cy) (by intro hA9; (try simp only at hA9); omega))
                clear HRB_239
                have HSR_244 := Lib.hid (Src.below (B := B) HSR_240.out ((Below.refl B _).setCell (p := ⟨XA, 1, none⟩) (by (try simp) <;> omega) (.slice ay (m + 1) cy)))
                clear HSR_240
                have HA2_245 := Lib.hid (AccP.setCell (b := XA) (o := 1) HA2.out (.slice ay (m + 1) cy) (by intro hA9; (try simp only at hA9); omega))
                clear HA2
                clear k0_0 k0_1 k1_0 k1_1 k2_0 k2_1 k3_0 k3_1 k4_0 k4_1 k5_0 k5_1 k6_0 k6_1
                have hz_wE : wy.heap.size ≤ ((wy.setCell ⟨XA, 1, none⟩ (.slice ay (m + 1) cy))).heap.size := by simp [World.setCell]
                generalize hgen_wE : (wy.setCell ⟨XA, 1, none⟩ (.slice ay (m + 1) cy)) = wE at *
                clear hgen_wE
                have k0_0 := hs242.cellAt 0 rfl 0 rfl
                have k0_1 := hs242.cellAt 0 rfl 1 rfl
                have k1_0 := hs242.cellAt 1 rfl 0 rfl
                have k1_1 := hs242.cellAt 1 rfl 1 rfl
                have k2_0 := hs242.cellAt 2 rfl 0 rfl
                have k2_1 := hs242.cellAt 2 rfl 1 rfl
                have k3_0 := hs242.cellAt 3 rfl 0 rfl
                have k3_1 := hs242.cellAt 3 rfl 1 rfl
                have k4_0 := hs242.cellAt 4 rfl 0 rfl
                have k4_1 := hs242.cellAt 4 rfl 1 rfl
                go_wp2_with fail
                go_roundw
                case rel => exact ⟨m + 1, q - 1, wz224, ay, cy, lx ++ [(rr, [a1, BV])], by omega, rfl, by simp [Hid, hlnw], ⟨by omega, HBT_229.out⟩, hs242, HA2_245.out.wk (fun z hz => ⟨hz.1, by omega⟩), HRB_243.out, HSR_244.out.more (by omega)⟩
                case measure => simp [intOf]; omega
              · refine t4_hard rfl (by rfl) (fun K hK => ?_)
                go_wp2_with fail
                have hs246 := hs218.alloc #[.int .i64 a1, .int .i64 BV] 2 (n := wd222.heap.size) (by simp)
                have HAX_247 := Lib.hid (AccP.mono HAX_219.out (belowA _ (.cells #[.int .i64 a1, .int .i64 BV] 2)))
                clear HAX_219
                have HRB_248 := Lib.hid (AccP.mono HRB_220.out (belowA _ (.cells #[.int .i64 a1, .int .i64 BV] 2)))
                clear HRB_220
                have HSR_249 := Lib.hid (Src.mono HSR_221.out (belowA _ (.cells #[.int .i64 a1, .int .i64 BV] 2)))
                clear HSR_221
                have HI0 := Lib.hid ((fresh_ilits [a1, BV] (lo := wd222.heap.size) (hs246.box (wd222.heap.size, #[.int .i64 a1, .int .i64 BV], 2) (by simp)).2.2 (Nat.le_refl _) (fun a ha => by simp at ha; constructor <;> omega) (by simp)).ip)
                refine ⟨⟨hs246.cellAt 0 rfl 0 rfl, hs246.cellAt 0 rfl 1 rfl, hs246.cellAt 1 rfl 0 rfl, hs246.cellAt 1 rfl 1 rfl, hs246.cellAt 2 rfl 0 rfl, hs246.cellAt 2 rfl 1 rfl, hs246.cellAt 3 rfl 0 rfl, hs246.cellAt 3 rfl 1 rfl, hs246.cellAt 4 rfl 0 rfl, hs246.cellAt 4 rfl 1 rfl⟩, ?_⟩
                (repeat (first | (apply t4_skip rfl (by rfl); try simp only [Act.put, List.setIfInBounds_toArray, List.set_cons_zero, List.set_cons_succ]) | (apply t4_float rfl (by rfl); (· (intro w' hS; go_simp <;> with_reducible rfl)); (try simp only [Act.put, List.setIfInBounds_toArray, List.set_cons_zero, List.set_cons_succ]))))
                refine t4_hard rfl (by rfl) (fun K hK => ?_)
                go_wp2_with (go_at_call 38; refine (pickG_c 2 L B b (k + 2002 + 10 * m + 2) _ HSR_249.out (by omega) (by omega)).mono ?_; rintro e w250 ⟨rr, rfl, hrr0, hrr1, hrw250, hbw250⟩)
                obtain ⟨wz251, hs252, hz_wz251, hy_wz251, hc_wz251⟩ := hs246.cut hbw250 (by intro k hk; simp only [List.mem_singleton] at hk; omega)
                have hz_w250 : wd222.heap.size + 1 ≤ w250.heap.size := by have h9 := hbw250.size; (try simp at h9); omega
                have HAX_253 := Lib.hid (AccP.butL HAX_247.out hbw250 (by intro k hk; simp only [List.mem_singleton] at hk; omega))
                clear HAX_247
                have HRB_254 := Lib.hid (AccP.butL HRB_248.out hbw250 (by intro k hk; simp only [List.mem_singleton] at hk; omega))
                clear HRB_248
                have HSR_255 := Lib.hid hrw250
                clear HSR_249
                have HBT_256 := Lib.hid (HBT_217.out.trans hc_wz251)
                clear HBT_217
                have HI0_257 := Lib.hid (Ip.butL HI0.out hbw250 (by intro k hk; simp only [List.mem_singleton] at hk; (try simp only); omega))
                clear HI0
                clear hrw250 hc_wz251
                have hrr2 := hrr1 (by omega)
                refine ⟨⟨hs252.cellAt 0 rfl 0 rfl, hs252.cellAt 0 rfl 1 rfl, hs252.cellAt 1 rfl 0 rfl, hs252.cellAt 1 rfl 1 rfl, hs252.cellAt 2 rfl 0 rfl, hs252.cellAt 2 rfl 1 rfl, hs252.cellAt 3 rfl 0 rfl, hs252.cellAt 3 rfl 1 rfl, hs252.cellAt 4 rfl 0 rfl, hs252.cellAt 4 rfl 1 rfl⟩, ?_⟩
                (repeat (first | (apply t4_skip rfl (by rfl); try simp only [Act.put, List.setIfInBounds_toArray, List.set_cons_zero, List.set_cons_succ]) | (apply t4_float rfl (by rfl); (· (intro w' hS; go_simp <;> with_reducible rfl)); (try simp only [Act.put, List.setIfInBounds_toArray, List.set_cons_zero, List.set_cons_succ]))))
                refine t4_hard rfl (by rfl) (fun K hK => ?_)
                go_wp2_with fail
                have hs258 := hs252.alloc #[.int .i64 rr, .slice (some ⟨wd222.heap.size, 0, none⟩) 2 2] 60 (n := w250.heap.size) (by simp)
                have HAX_259 := Lib.hid (AccP.mono HAX_253.out (belowA _ (.cells #[.int .i64 rr, .slice (some ⟨wd222.heap.size, 0, none⟩) 2 2] 60)))
                clear HAX_253
                have HRB_260 := Lib.hid (AccP.mono HRB_254.out (belowA _ (.cells #[.int .i64 rr, .slice (some ⟨wd222.heap.size, 0, none⟩) 2 2] 60)))
                clear HRB_254
                have HSR_261 := Lib.hid (Src.mono HSR_255.out (belowA _ (.cells #[.int .i64 rr, .slice (some ⟨wd222.heap.size, 0, none⟩) 2 2] 60)))
                clear HSR_255
                have HI0_262 := Lib.hid (Ip.mono HI0_257.out (belowA _ (.cells #[.int .i64 rr, .slice (some ⟨wd222.heap.size, 0, none⟩) 2 2] 60)))
                clear HI0_257
                refine ⟨⟨hs258.cellAt 0 rfl 0 rfl, hs258.cellAt 0 rfl 1 rfl, hs258.cellAt 1 rfl 0 rfl, hs258.cellAt 1 rfl 1 rfl, hs258.cellAt 2 rfl 0 rfl, hs258.cellAt 2 rfl 1 rfl, hs258.cellAt 3 rfl 0 rfl, hs258.cellAt 3 rfl 1 rfl, hs258.cellAt 4 rfl 0 rfl, hs258.cellAt 4 rfl 1 rfl⟩, ?_⟩
                (repeat (first | (apply t4_skip rfl (by rfl); try simp only [Act.put, List.setIfInBounds_toArray, List.set_cons_zero, List.set_cons_succ]) | (apply t4_float rfl (by rfl); (· (intro w' hS; go_simp <;> with_reducible rfl)); (try simp only [Act.put, List.setIfInBounds_toArray, List.set_cons_zero, List.set_cons_succ]))))
                refine t4_hard rfl (by rfl) (fun K hK => ?_)
                have hlnw := HCN.out
                have HIR := Lib.hid (ip_icD (k := rr) ⟨by omega, by omega⟩ HI0_262.out)
                refine wp_append_accP _ _ _ _ rfl E_cons rfl HAX_259.out HIR.out (fun z h1 h2 => by (try simp only at h1 h2); omega) ⟨w250.heap.size, 0, none⟩ 1 rfl (news2 (hs258.cellAt 6 rfl 0 rfl) (hs258.cellAt 6 rfl 1 rfl)) (by omega) ?_
                simp only [HCN.out]
                intro ay cy wy hA8 hB8
                have hz8 := hB8.size
                have hs8 := hs258.butP hB8 (fun z hz => by have := hz.1; omega) (fun x hx hA => by have h1 := hA.1; have h2 := hA.2; simp at hx; rcases hx with rfl | rfl | rfl | rfl | rfl | rfl | rfl <;> (try simp only at h1 h2) <;> omega)
                have HA2 := Lib.hid (AccP.wk hA8.tight (C := fun z => XA + 1 ≤ z ∧ z < wy.heap.size) (fun z hz => ⟨by
                  have h2 := hz.2
                  rcases hz.1 with h | h | h
                  · exact h.1
                  · (try simp only at h); omega
                  · rw [h]; (try simp); omega, hz.2⟩))
                clear hA8
                clear HAX_259
                clear HI0_262
                have HRB_263 := Lib.hid (AccP.butP HRB_260.out hB8 (fun z h1 h2 => by (try simp only at h1 h2); omega))
                clear HRB_260
                have HSR_264 := Lib.hid (Src.below (B := B) HSR_261.out (hB8.below (fun z hz => by (try simp only at hz); omega) (by (try simp); omega)))
                clear HSR_261
                refine hK _ _ ⟨⟨hs8.cellAt 0 rfl 0 rfl, hs8.cellAt 0 rfl 1 rfl, hs8.cellAt 1 rfl 0 rfl, hs8.cellAt 1 rfl 1 rfl, hs8.cellAt 2 rfl 0 rfl, hs8.cellAt 2 rfl 1 rfl, hs8.cellAt 3 rfl 0 rfl, hs8.cellAt 3 rfl 1 rfl, hs8.cellAt 4 rfl 0 rfl, hs8.cellAt 4 rfl 1 rfl⟩, ?_⟩
                (repeat (first | (apply t4_skip rfl (by rfl); try simp only [Act.put, List.setIfInBounds_toArray, List.set_cons_zero, List.set_cons_succ]) | (apply t4_float rfl (by rfl); (· (intro w' hS; go_simp <;> with_reducible rfl)); (try simp only [Act.put, List.setIfInBounds_toArray, List.set_cons_zero, List.set_cons_succ]))))
                refine t4_last rfl (by rfl) (fun K hK => ?_)
                have k0_0 := hs8.cellAt 0 rfl 0 rfl
                have k0_1 := hs8.cellAt 0 rfl 1 rfl
                have k1_0 := hs8.cellAt 1 rfl 0 rfl
                have k1_1 := hs8.cellAt 1 rfl 1 rfl
                have k2_0 := hs8.cellAt 2 rfl 0 rfl
                have k2_1 := hs8.cellAt 2 rfl 1 rfl
                have k3_0 := hs8.cellAt 3 rfl 0 rfl
                have k3_1 := hs8.cellAt 3 rfl 1 rfl
                have k4_0 := hs8.cellAt 4 rfl 0 rfl
                have k4_1 := hs8.cellAt 4 rfl 1 rfl
                have k5_0 := hs8.cellAt 5 rfl 0 rfl
                have k5_1 := hs8.cellAt 5 rfl 1 rfl
                have k6_0 := hs8.cellAt 6 rfl 0 rfl
                have k6_1 := hs8.cellAt 6 rfl 1 rfl
                have hs265 := hs8.low (B' := XA + 1) (bx' := [(w.heap.size, #[.int .i64 0, .slice none 0 0], 26), (w.heap.size + 1, #[.int .i64 0, .slice none 0 0], 29), (TA, #[.int .i64 SZ, .slice a6 2 c6], 26), (TA + 1, #[.int .i64 2, .slice a n c], 57), (XA, #[.int .i64 U, .slice ax m cx], 29)]) (by omega) (by (try simp) <;> omega) (fun x hx => by simp only [List.mem_cons, List.not_mem_nil, or_false] at hx; rcases hx with rfl | rfl | rfl | rfl | rfl <;> (refine ⟨?_, ?_⟩ <;> (try simp) <;> (try omega)))
                have f4_0 := hs265.freeAt 4 rfl 0
                have f4_1 := hs265.freeAt 4 rfl 1
                go_wp2_with fail
                refine t4_nil (NoPanic.normal ?_)
                have hs266 := hs265.set (p := [_, _, _, _]) (by simp <;> omega) 1 (.slice ay (m + 1) cy)
                have HRB_267 := Lib.hid (AccP.setCell (b := XA) (o := 1) HRB_263.out (.slice ay (m + 1) cy) (by intro hA9; (try simp only at hA9); omega))
                clear HRB_263
                have HSR_268 := Lib.hid (Src.below (B := B) HSR_264.out ((Below.refl B _).setCell (p := ⟨XA, 1, none⟩) (by (try simp) <;> omega) (.slice ay (m + 1) cy)))
                clear HSR_264
                have HA2_269 := Lib.hid (AccP.setCell (b := XA) (o := 1) HA2.out (.slice ay (m + 1) cy) (by intro hA9; (try simp only at hA9); omega))
                clear HA2
                clear k0_0 k0_1 k1_0 k1_1 k2_0 k2_1 k3_0 k3_1 k4_0 k4_1 k5_0 k5_1 k6_0 k6_1
                have hz_wE : wy.heap.size ≤ ((wy.setCell ⟨XA, 1, none⟩ (.slice ay (m + 1) cy))).heap.size := by simp [World.setCell]
                generalize hgen_wE : (wy.setCell ⟨XA, 1, none⟩ (.slice ay (m + 1) cy)) = wE at *
                clear hgen_wE
                have k0_0 := hs266.cellAt 0 rfl 0 rfl
                have k0_1 := hs266.cellAt 0 rfl 1 rfl
                have k1_0 := hs266.cellAt 1 rfl 0 rfl
                have k1_1 := hs266.cellAt 1 rfl 1 rfl
                have k2_0 := hs266.cellAt 2 rfl 0 rfl
                have k2_1 := hs266.cellAt 2 rfl 1 rfl
                have k3_0 := hs266.cellAt 3 rfl 0 rfl
                have k3_1 := hs266.cellAt 3 rfl 1 rfl
                have k4_0 := hs266.cellAt 4 rfl 0 rfl
                have k4_1 := hs266.cellAt 4 rfl 1 rfl
                go_wp2_with fail
                go_roundw
                case rel => exact ⟨m + 1, q - 1, wz251, ay, cy, lx ++ [(rr, [a1, BV])], by omega, rfl, by simp [Hid, hlnw], ⟨by omega, HBT_256.out⟩, hs266, HA2_269.out.wk (fun z hz => ⟨hz.1, by omega⟩), HRB_267.out, HSR_268.out.more (by omega)⟩
                case measure => simp [intOf]; omega
            · obtain rfl : q = 0 := by omega
              obtain rfl : m = K := by omega
              have hnq : ¬ (0 : Int) < (0 : Int) := by omega
              go_upto_region 21 with fail
              refine wp_region_noPanic (wp_region_tree4 (fun w' => w'.cell? ⟨w.heap.size + 1, 0, none⟩ = some (.int .i64 0) ∧ w'.cell? ⟨w.heap.size + 1, 1, none⟩ = some (.slice none 0 0) ∧ w'.cell? ⟨TA, 0, none⟩ = some (.int .i64 SZ) ∧ w'.cell? ⟨TA, 1, none⟩ = some (.slice a6 2 c6) ∧ w'.cell? ⟨TA + 1, 0, none⟩ = some (.int .i64 2) ∧ w'.cell? ⟨TA + 1, 1, none⟩ = some (.slice a n c) ∧ w'.cell? ⟨XA, 0, none⟩ = some (.int .i64 U) ∧ w'.cell? ⟨XA, 1, none⟩ = some (.slice ax m cx)) (.float 0 (.float 1 (.hard 2 (.last 3 .nil)))) (by kernel_rfl) (by kernel_rfl) (by kernel_rfl) rfl ?_ (fun _ _ _ _ _ h => h) ?_)
              · exact ⟨(hs2.drew).cellAt 1 rfl 0 rfl, (hs2.drew).cellAt 1 rfl 1 rfl, (hs2.drew).cellAt 2 rfl 0 rfl, (hs2.drew).cellAt 2 rfl 1 rfl, (hs2.drew).cellAt 3 rfl 0 rfl, (hs2.drew).cellAt 3 rfl 1 rfl, (hs2.drew).cellAt 4 rfl 0 rfl, (hs2.drew).cellAt 4 rfl 1 rfl⟩
              have hs270 := hs2.drew
              have HAX_271 := Lib.hid (AccP.mono HAX.out (belowD _))
              clear HAX
              have HRB_272 := Lib.hid (AccP.mono HRB.out (belowD _))
              clear HRB
              have HSR_273 := Lib.hid (Src.mono HSR.out (belowD _))
              clear HSR
              clear k0_0 k0_1 k1_0 k1_1 k2_0 k2_1 k3_0 k3_1 k4_0 k4_1
              have hz_wd274 : wr.heap.size ≤ (wr.drew).heap.size := by simp
              generalize hgen_wd274 : wr.drew = wd274 at *
              have HG_wd274 := Lib.hid hgen_wd274
              clear hgen_wd274
              (repeat (first | (apply t4_skip rfl (by rfl); try simp only [Act.put, List.setIfInBounds_toArray, List.set_cons_zero, List.set_cons_succ]) | (apply t4_float rfl (by rfl); (· (intro w' hS; go_simp <;> with_reducible rfl)); (try simp only [Act.put, List.setIfInBounds_toArray, List.set_cons_zero, List.set_cons_succ]))))
              refine t4_hard rfl (by rfl) (fun K hK => ?_)
              have k0_0 := hs270.cellAt 0 rfl 0 rfl
              have k0_1 := hs270.cellAt 0 rfl 1 rfl
              have k1_0 := hs270.cellAt 1 rfl 0 rfl
              have k1_1 := hs270.cellAt 1 rfl 1 rfl
              have k2_0 := hs270.cellAt 2 rfl 0 rfl
              have k2_1 := hs270.cellAt 2 rfl 1 rfl
              have k3_0 := hs270.cellAt 3 rfl 0 rfl
              have k3_1 := hs270.cellAt 3 rfl 1 rfl
              have k4_0 := hs270.cellAt 4 rfl 0 rfl
              have k4_1 := hs270.cellAt 4 rfl 1 rfl
              have f0_0 := hs270.freeAt 0 rfl 0
              have f0_1 := hs270.freeAt 0 rfl 1
              go_wp2_with fail
              have hs275 := hs270.set (p := []) (by simp <;> omega) 0 (.int .i64 SZ)
              have hs276 := hs275.set (p := []) (by simp <;> omega) 1 (.slice a6 2 c6)
              have HAX_277 := Lib.hid (AccP.setCell (b := w.heap.size) (o := 1) (AccP.setCell (b := w.heap.size) (o := 0) HAX_271.out (.int .i64 SZ) (by intro hA9; (try simp only at hA9); omega)) (.slice a6 2 c6) (by intro hA9; (try simp only at hA9); omega))
              clear HAX_271
              have HRB_278 := Lib.hid (AccP.setCell (b := w.heap.size) (o := 1) (AccP.setCell (b := w.heap.size) (o := 0) HRB_272.out (.int .i64 SZ) (by intro hA9; (try simp only at hA9); omega)) (.slice a6 2 c6) (by intro hA9; (try simp only at hA9); omega))
              clear HRB_272
              have HSR_279 := Lib.hid (Src.below (B := B) (Src.below (B := B) HSR_273.out ((Below.refl B _).setCell (p := ⟨w.heap.size, 0, none⟩) (by (try simp) <;> omega) (.int .i64 SZ))) ((Below.refl B _).setCell (p := ⟨w.heap.size, 1, none⟩) (by (try simp) <;> omega) (.slice a6 2 c6)))
              clear HSR_273
              clear k0_0 k0_1 k1_0 k1_1 k2_0 k2_1 k3_0 k3_1 k4_0 k4_1
              have hz_wP : wd274.heap.size ≤ (((wd274.setCell ⟨w.heap.size, 0, none⟩ (.int .i64 SZ)).setCell ⟨w.heap.size, 1, none⟩ (.slice a6 2 c6))).heap.size := by simp [World.setCell]
              generalize hgen_wP : ((wd274.setCell ⟨w.heap.size, 0, none⟩ (.int .i64 SZ)).setCell ⟨w.heap.size, 1, none⟩ (.slice a6 2 c6)) = wP at *
              clear hgen_wP
              have k0_0 := hs276.cellAt 0 rfl 0 rfl
              have k0_1 := hs276.cellAt 0 rfl 1 rfl
              have k1_0 := hs276.cellAt 1 rfl 0 rfl
              have k1_1 := hs276.cellAt 1 rfl 1 rfl
              have k2_0 := hs276.cellAt 2 rfl 0 rfl
              have k2_1 := hs276.cellAt 2 rfl 1 rfl
              have k3_0 := hs276.cellAt 3 rfl 0 rfl
              have k3_1 := hs276.cellAt 3 rfl 1 rfl
              have k4_0 := hs276.cellAt 4 rfl 0 rfl
              have k4_1 := hs276.cellAt 4 rfl 1 rfl
              (first | refine ⟨⟨hs276.cellAt 1 rfl 0 rfl, hs276.cellAt 1 rfl 1 rfl, hs276.cellAt 2 rfl 0 rfl, hs276.cellAt 2 rfl 1 rfl, hs276.cellAt 3 rfl 0 rfl, hs276.cellAt 3 rfl 1 rfl, hs276.cellAt 4 rfl 0 rfl, hs276.cellAt 4 rfl 1 rfl⟩, ?_⟩ | skip)
              (repeat (first | (apply t4_skip rfl (by rfl); try simp only [Act.put, List.setIfInBounds_toArray, List.set_cons_zero, List.set_cons_succ]) | (apply t4_float rfl (by rfl); (· (intro w' hS; go_simp <;> with_reducible rfl)); (try simp only [Act.put, List.setIfInBounds_toArray, List.set_cons_zero, List.set_cons_succ]))))
              refine t4_last rfl (by rfl) (fun K hK => ?_)
              clear k0_0 k0_1 k1_0 k1_1 k2_0 k2_1 k3_0 k3_1 k4_0 k4_1
              have k0_0 := hs276.cellAt 0 rfl 0 rfl
              have k0_1 := hs276.cellAt 0 rfl 1 rfl
              have k1_0 := hs276.cellAt 1 rfl 0 rfl
              have k1_1 := hs276.cellAt 1 rfl 1 rfl
              have k2_0 := hs276.cellAt 2 rfl 0 rfl
              have k2_1 := hs276.cellAt 2 rfl 1 rfl
              have k3_0 := hs276.cellAt 3 rfl 0 rfl
              have k3_1 := hs276.cellAt 3 rfl 1 rfl
              have k4_0 := hs276.cellAt 4 rfl 0 rfl
              have k4_1 := hs276.cellAt 4 rfl 1 rfl
              clear k0_0 k0_1 k1_0 k1_1 k2_0 k2_1 k3_0 k3_1 k4_0 k4_1
              have k0_0 := hs276.cellAt 0 rfl 0 rfl
              have k0_1 := hs276.cellAt 0 rfl 1 rfl
              have k1_0 := hs276.cellAt 1 rfl 0 rfl
              have k1_1 := hs276.cellAt 1 rfl 1 rfl
              have k2_0 := hs276.cellAt 2 rfl 0 rfl
              have k2_1 := hs276.cellAt 2 rfl 1 rfl
              have k3_0 := hs276.cellAt 3 rfl 0 rfl
              have k3_1 := hs276.cellAt 3 rfl 1 rfl
              have k4_0 := hs276.cellAt 4 rfl 0 rfl
              have k4_1 := hs276.cellAt 4 rfl 1 rfl
              have f1_0 := hs276.freeAt 1 rfl 0
              have f1_1 := hs276.freeAt 1 rfl 1
              go_wp2_with fail
              refine t4_nil (NoPanic.normal ?_)
              have hs280 := hs276.set (p := [_]) (by simp <;> omega) 0 (.int .i64 U)
              have hs281 := hs280.set (p := [_]) (by simp <;> omega) 1 (.slice ax m cx)
              have HAX_282 := Lib.hid (AccP.setCell (b := w.heap.size + 1) (o := 1) (AccP.setCell (b := w.heap.size + 1) (o := 0) HAX_277.out (.int .i64 U) (by intro hA9; (try simp only at hA9); omega)) (.slice ax m cx) (by intro hA9; (try simp only at hA9); omega))
              clear HAX_277
              have HRB_283 := Lib.hid (AccP.setCell (b := w.heap.size + 1) (o := 1) (AccP.setCell (b := w.heap.size + 1) (o := 0) HRB_278.out (.int .i64 U) (by intro hA9; (try simp only at hA9); omega)) (.slice ax m cx) (by intro hA9; (try simp only at hA9); omega))
              clear HRB_278
              have HSR_284 := Lib.hid (Src.below (B := B) (Src.below (B := B) HSR_279.out ((Below.refl B _).setCell (p := ⟨w.heap.size + 1, 0, none⟩) (by (try simp) <;> omega) (.int .i64 U))) ((Below.refl B _).setCell (p := ⟨w.heap.size + 1, 1, none⟩) (by (try simp) <;> omega) (.slice ax m cx)))
              clear HSR_279
              clear k0_0 k0_1 k1_0 k1_1 k2_0 k2_1 k3_0 k3_1 k4_0 k4_1
              have hz_wQ : wP.heap.size ≤ (((wP.setCell ⟨w.heap.size + 1, 0, none⟩ (.int .i64 U)).setCell ⟨w.heap.size + 1, 1, none⟩ (.slice ax m cx))).heap.size := by simp [World.setCell]
              generalize hgen_wQ : ((wP.setCell ⟨w.heap.size + 1, 0, none⟩ (.int .i64 U)).setCell ⟨w.heap.size + 1, 1, none⟩ (.slice ax m cx)) = wQ at *
              clear hgen_wQ
              have k0_0 := hs281.cellAt 0 rfl 0 rfl
              have k0_1 := hs281.cellAt 0 rfl 1 rfl
              have k1_0 := hs281.cellAt 1 rfl 0 rfl
              have k1_1 := hs281.cellAt 1 rfl 1 rfl
              have k2_0 := hs281.cellAt 2 rfl 0 rfl
              have k2_1 := hs281.cellAt 2 rfl 1 rfl
              have k3_0 := hs281.cellAt 3 rfl 0 rfl
              have k3_1 := hs281.cellAt 3 rfl 1 rfl
              have k4_0 := hs281.cellAt 4 rfl 0 rfl
              have k4_1 := hs281.cellAt 4 rfl 1 rfl
              go_wp2_with fail
              have x0 := (hs281.cellAt 0 rfl 0 rfl)
              have x1 := (hs281.cellAt 0 rfl 1 rfl)
              have x2 := (hs281.cellAt 1 rfl 0 rfl)
              have x3 := (hs281.cellAt 1 rfl 1 rfl)
              exact bodyPost_ret (v := .tuple #[.agg #[.int .i64 SZ, .slice a6 2 c6], .agg #[.int .i64 U, .slice ax m cx]]) (by simp [results, Tryz.results16, go_sem, x0, x1, x2, x3]) rfl ⟨SZ, U, _, _, rfl, (RL0 ++ [((2 : Int), l5)]), lx, Firm.ic ⟨by omega, by omega⟩ (Fresh.firm (HRB_283.out.ip.fresh (lo := w.heap.size) (fun z hz => by have := hz.1; omega))), Firm.ic ⟨by omega, by omega⟩ (Fresh.firm (HAX_282.out.ip.fresh (lo := w.heap.size) (fun z hz => by have := hz.1; omega))), HSR_284.out.more (by omega), HBT.out.trans (but_of hs281.bel)⟩

end Go.Proofs.YtamkfnkikiekaaaGreat

