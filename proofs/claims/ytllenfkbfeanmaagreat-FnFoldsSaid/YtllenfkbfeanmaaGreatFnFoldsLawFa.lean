/-
  THE LAW FnFolds, WALKED.
-/
import Derived.Test.YtllenfkbfeanmaaGreatDrawIFa
import Derived.Test.YtllenfkbfeanmaaGreatPolyFFa
import Derived.Test.YtllenfkbfeanmaaGreatFoldsFa
import Derived.Test.YtllenfkbfeanmaaGreatKindSFa
import Derived.Test.YtllenfkbfeanmaaGreatA2Fa
namespace Go.Proofs.YtllenfkbfeanmaaGreat
open Go.RowKit Go.Shelf Go.IntWalk
open Rep (Rd Own sz)
set_option linter.unusedSimpArgs false
set_option linter.unusedVariables false

theorem len4 {α : Type} {l : List α} (h : l.length = 4) : ∃ a b c d, l = [a, b, c, d] := by
  match l, h with
  | [a, b, c, d], _ => exact ⟨a, b, c, d, rfl⟩
theorem len1 {α : Type} {l : List α} (h : l.length = 1) : ∃ a, l = [a] := by
  match l, h with
  | [a], _ => exact ⟨a, rfl⟩
theorem rd4 {w : World} {a : Option Addr} {n c : Nat} {x y z u : Int} (h : Rd w [.slice a n c] [x, y, z, u]) : ∃ b o, a = some ⟨b, o, none⟩ ∧ w.cell? ⟨b, o, none⟩ = some (.int .i64 x) ∧ w.cell? ⟨b, o + 1, none⟩ = some (.int .i64 y) ∧ w.cell? ⟨b, o + 2, none⟩ = some (.int .i64 z) ∧ w.cell? ⟨b, o + 3, none⟩ = some (.int .i64 u) := by
  obtain ⟨b, o, rfl, h0, _⟩ := rd_int_at h 0 (by simp)
  obtain ⟨b1, o1, e1, h1, _⟩ := rd_int_at h 1 (by simp)
  obtain ⟨b2, o2, e2, h2, _⟩ := rd_int_at h 2 (by simp)
  obtain ⟨b3, o3, e3, h3, _⟩ := rd_int_at h 3 (by simp)
  simp only [Option.some.injEq, Addr.mk.injEq, and_true] at e1 e2 e3
  obtain ⟨rfl, rfl⟩ := e1
  obtain ⟨rfl, rfl⟩ := e2
  obtain ⟨rfl, rfl⟩ := e3
  exact ⟨b, o, rfl, h0, h1, h2, h3⟩
theorem greedyVF_of {size : Int} {rs : List RelT} {U : Nat} {l : List OpT} {P : List RelT} (hok : instOk (size, rs) ((U : Int), l) = true) (h : PairsOk size U P) : greedyVF (size, rs) ((U : Int), l) P = if (greedyF size.toNat U P).2 = true then ((greedyF size.toNat U P).1, 0) else ([], 6) := by
  have hp : pairsOkB size (U : Int) P = true := by
    simp only [pairsOkB, relOk2, Int.toNat_natCast, Bool.and_eq_true, decide_eq_true_eq, List.all_eq_true]
    exact ⟨h.len, fun r hr => h.ok r hr⟩
  unfold greedyVF
  rw [if_pos hok]
  simp only [Int.toNat_natCast]
  rw [if_pos hp]
/-- What is folded: with a semilattice, of values. -/
theorem foldF_of {t : Tmpl} {f : OpT} {z : Int} {m : List Int} (ht : tmplOk t = true) (hf : opOk t.1 f = true) (h2 : f.1 = 2) (hv : Val t.1 (z :: m)) : foldF t f (z :: m) = (foldV t.1 f z m, 0) := by
  unfold foldF
  rw [if_pos ⟨ht, hf⟩]
  simp only
  rw [if_pos ⟨h2, valsOk_of (by simp) hv⟩]
theorem fold_val {size : Int} {f : OpT} (h : SemiP size f) : ∀ (m : List Int) (z : Int), (0 ≤ z ∧ z ≤ size - 1) → (∀ a, a ∈ m → 0 ≤ a ∧ a ≤ size - 1) → 0 ≤ foldV size f z m ∧ foldV size f z m ≤ size - 1
  | [], z, hz, _ => hz
  | a :: m, z, hz, hm => by
    show 0 ≤ foldV size f (valOf size f [z, a]) m ∧ foldV size f (valOf size f [z, a]) m ≤ size - 1
    exact fold_val h m _ (h.clo z a hz (hm a (List.mem_cons_self ..))) (fun b hb => hm b (List.mem_cons_of_mem _ hb))
set_option maxRecDepth 100000 in
set_option maxHeartbeats 16000000 in
theorem FnFolds_c (co mo : List Byte) (ac am : Option Addr) (nc nm cc cm : Nat) (w : World) (h0 : Rd w [.slice ac nc cc] co) (h1 : Rd w [.slice am nm cm] mo) :
    Calls Tryz.prog 3 #[.slice ac nc cc, .slice am nm cm] w fun e w' => e = .returned (.bool true) ∧ Below w.heap.size w w' := by
  have hl0 := (byt_of h0).2.2
  have hl1 := (byt_of h1).2.2
  have HCo := Lib.hid h0
  have HMo := Lib.hid h1
  clear h0 h1
  go_enter Tryz.func3, Tryz.ntmps3
  go_wp2_with fail
  refine (a2Long_c ac am nc cc nm cm _ hl0 hl1).mono ?_
  rintro e w1 ⟨rfl, rfl⟩
  cases hlg : (decide (3000 < nc) || decide (3000 < nm)) with
  | true =>
    clear hlg
    go_wp2_with fail
    go_ret
    exact ⟨rfl, (St.start w).bel⟩
  | false =>
    clear hlg
    go_wp2_with fail
    refine (A2Known_c ac nc cc co _ (Rd.mono HCo.out (St.start w).bel)).mono ?_
    rintro e w2 ⟨size, v, U, v2, rfl, rs, l, frT, frX, hok, hbw2⟩
    have hz_w2 : w.heap.size ≤ w2.heap.size := by have h9 := hbw2.size; (try simp at h9); omega
    have hs3 := (St.start w).step hbw2
    have hfT : Fresh _ _ [v] rs := fresh_snd rfl frT
    obtain ⟨aT, cT, rfl, _⟩ := rd_list hfT.rd
    have hfX : Fresh _ _ [v2] l := fresh_snd rfl frX
    obtain ⟨aX, cX, rfl, _⟩ := rd_list hfX.rd
    have HT := Lib.hid (Fresh.rd frT)
    have HX := Lib.hid (Fresh.rd frX)
    have HOK := Lib.hid hok
    have hV := (instOk_get hok).2.1
    have htok := (instOk_get hok).1
    have hs : 1 ≤ size ∧ size ≤ 4 := (tmplOk_get htok).1
    clear hfT hfX frT frX hok
    have hz_wK : w2.heap.size ≤ (w2).heap.size := by simp
    generalize hgen_wK : w2 = wK at *
    clear hgen_wK
    go_upto_region 4 with fail
    have hs4 := hs3.alloc #[.int .i64 size, .slice aT rs.length cT] 26 (n := wK.heap.size) (by simp)
    have HT_5 := Lib.hid (Rd.mono HT.out (belowA _ (.cells #[.int .i64 size, .slice aT rs.length cT] 26)))
    clear HT
    have HX_6 := Lib.hid (Rd.mono HX.out (belowA _ (.cells #[.int .i64 size, .slice aT rs.length cT] 26)))
    clear HX
    have k0_0 := hs4.cellAt 0 rfl 0 rfl
    have k0_1 := hs4.cellAt 0 rfl 1 rfl
    have hs7 := hs4.alloc #[.int .i64 U, .slice aX l.length cX] 29 (n := wK.heap.size + 1) (by simp)
    have HT_8 := Lib.hid (Rd.mono HT_5.out (belowA _ (.cells #[.int .i64 U, .slice aX l.length cX] 29)))
    clear HT_5
    have HX_9 := Lib.hid (Rd.mono HX_6.out (belowA _ (.cells #[.int .i64 U, .slice aX l.length cX] 29)))
    clear HX_6
    clear k0_0 k0_1
    have k0_0 := hs7.cellAt 0 rfl 0 rfl
    have k0_1 := hs7.cellAt 0 rfl 1 rfl
    have k1_0 := hs7.cellAt 1 rfl 0 rfl
    have k1_1 := hs7.cellAt 1 rfl 1 rfl
    have hz_wA : wK.heap.size + 1 + 1 ≤ (((wK.alloc (.cells #[.int .i64 size, .slice aT rs.length cT] 26)).alloc (.cells #[.int .i64 U, .slice aX l.length cX] 29))).heap.size := by simp
    generalize hgen_wA : ((wK.alloc (.cells #[.int .i64 size, .slice aT rs.length cT] 26)).alloc (.cells #[.int .i64 U, .slice aX l.length cX] 29)) = wA at *
    clear hgen_wA
    go_wp2_with fail
    refine (sFirst_c (size, rs) 2 6 (semiB size) _ _ _ HT_8.out (by omega) (by omega) (fun f pb v0 v1 w h c0 c1 ok => l02KindS_c size f pb 0 v0 v1 w h c0 c1 ok)).mono ?_
    rintro e w2 ⟨f0, f1, rfl, frF, hb2⟩
    have hz_w2 : wA.heap.size ≤ w2.heap.size := by have h9 := hb2.size; (try simp at h9); omega
    have hs10 := hs7.step hb2
    have HT_11 := Lib.hid (Rd.mono HT_8.out hb2)
    clear HT_8
    have HX_12 := Lib.hid (Rd.mono HX_9.out hb2)
    clear HX_9
    clear k0_0 k0_1 k1_0 k1_1
    have k0_0 := hs10.cellAt 0 rfl 0 rfl
    have k0_1 := hs10.cellAt 0 rfl 1 rfl
    have k1_0 := hs10.cellAt 1 rfl 0 rfl
    have k1_1 := hs10.cellAt 1 rfl 1 rfl
    have HFO := Lib.hid (first_ok (t := (size, rs)) (m := 2) (isK := semiB size) (by omega))
    generalize firstF (size, rs) 2 (semiB size) = FF at *
    obtain ⟨fc, far, ftb⟩ := FF
    simp only at frF
    have zf := rd_cons rfl frF.rd
    obtain ⟨rfl, _⟩ := rd_i1 zf.1
    obtain ⟨af, cf, rfl, _⟩ := rd_list zf.2
    have HF := Lib.hid frF.rd
    clear frF zf
    go_upto_region 5 with fail
    have hs13 := hs10.alloc #[.int .i64 far, .slice af ftb.length cf] 34 (n := w2.heap.size) (by simp)
    have HT_14 := Lib.hid (Rd.mono HT_11.out (belowA _ (.cells #[.int .i64 far, .slice af ftb.length cf] 34)))
    clear HT_11
    have HX_15 := Lib.hid (Rd.mono HX_12.out (belowA _ (.cells #[.int .i64 far, .slice af ftb.length cf] 34)))
    clear HX_12
    have HF_16 := Lib.hid (Rd.mono HF.out (belowA _ (.cells #[.int .i64 far, .slice af ftb.length cf] 34)))
    clear HF
    clear k0_0 k0_1 k1_0 k1_1
    have k0_0 := hs13.cellAt 0 rfl 0 rfl
    have k0_1 := hs13.cellAt 0 rfl 1 rfl
    have k1_0 := hs13.cellAt 1 rfl 0 rfl
    have k1_1 := hs13.cellAt 1 rfl 1 rfl
    have k2_0 := hs13.cellAt 2 rfl 0 rfl
    have k2_1 := hs13.cellAt 2 rfl 1 rfl
    have hz_wB : w2.heap.size + 1 ≤ ((w2.alloc (.cells #[.int .i64 far, .slice af ftb.length cf] 34))).heap.size := by simp
    generalize hgen_wB : (w2.alloc (.cells #[.int .i64 far, .slice af ftb.length cf] 34)) = wB at *
    clear hgen_wB
    go_wp2_with fail
    refine (A2Tuples_c am nm cm mo size 4 1 _ (Rd.mono HMo.out hs13.bel) ⟨hs.1, by omega⟩ (by omega) (by omega)).mono ?_
    rintro e w3 ⟨vt, rfl, ts, frL, hlen, hval, hb3⟩
    have hz_w3 : wB.heap.size ≤ w3.heap.size := by have h9 := hb3.size; (try simp at h9); omega
    have hs17 := hs13.step hb3
    have HT_18 := Lib.hid (Rd.mono HT_14.out hb3)
    clear HT_14
    have HX_19 := Lib.hid (Rd.mono HX_15.out hb3)
    clear HX_15
    have HF_20 := Lib.hid (Rd.mono HF_16.out hb3)
    clear HF_16
    clear k0_0 k0_1 k1_0 k1_1 k2_0 k2_1
    have k0_0 := hs17.cellAt 0 rfl 0 rfl
    have k0_1 := hs17.cellAt 0 rfl 1 rfl
    have k1_0 := hs17.cellAt 1 rfl 0 rfl
    have k1_1 := hs17.cellAt 1 rfl 1 rfl
    have k2_0 := hs17.cellAt 2 rfl 0 rfl
    have k2_1 := hs17.cellAt 2 rfl 1 rfl
    obtain ⟨LL, rfl⟩ := len1 hlen
    obtain ⟨hL4, hLV⟩ := hval LL (by simp)
    obtain ⟨a, b, c, d, rfl⟩ := len4 hL4
    obtain ⟨av, cv, rfl, hsl⟩ := rd_list frL.rd
    obtain ⟨g, o, v9, rfl, q0, hv9⟩ := rdSl_one rfl hsl 0 (by simp)
    rw [Nat.add_zero] at q0
    obtain ⟨aL, cL, rfl, _⟩ := rd_list hv9
    have HL := Lib.hid (show Rd _ [.slice aL 4 cL] [a, b, c, d] from hv9)
    have HLV := Lib.hid hLV
    clear hlen hval hL4 hLV frL hsl hv9
    go_upto_region 6 with fail
    by_cases hfc : fc = 0
    · obtain rfl : fc = 0 := hfc
      obtain ⟨htk, hop, hse, h2⟩ := HFO.out rfl
      obtain rfl : far = (2 : Int) := h2
      have HSP := Lib.hid (semi_laws hop hse)
      have hva := HLV.out a (by simp)
      have hvb := HLV.out b (by simp)
      have hvc := HLV.out c (by simp)
      have hvd := HLV.out d (by simp)
      have hff := fold_four HSP.out hva hvb hvc hvd
      have hvS := fold_val HSP.out [b, c, d] a hva (fun x hx => by simp at hx; rcases hx with rfl | rfl | rfl <;> assumption)
      have HE1 := Lib.hid (foldF_of (t := (size, rs)) (f := ((2 : Int), ftb)) (z := a) (m := [b, c, d]) htk hop rfl HLV.out)
      have HE2 := Lib.hid (foldF_of (t := (size, rs)) (f := ((2 : Int), ftb)) (z := d) (m := [b, a, c, d, a]) htk hop rfl (fun x hx => by simp at hx; rcases hx with rfl | rfl | rfl | rfl | rfl | rfl <;> assumption))
      have HE3 := Lib.hid (fun (z : Int) (hz : z = a ∨ z = b ∨ z = c ∨ z = d) => show foldF (size, rs) ((2 : Int), ftb) [z, foldV size ((2 : Int), ftb) a [b, c, d]] = (foldV size ((2 : Int), ftb) a [b, c, d], 0) from by
        rw [foldF_of (t := (size, rs)) (f := ((2 : Int), ftb)) (z := z) (m := [foldV size ((2 : Int), ftb) a [b, c, d]]) htk hop rfl (fun x hx => by
          simp at hx
          rcases hx with rfl | rfl
          · rcases hz with rfl | rfl | rfl | rfl <;> assumption
          · exact hvS)]
        rw [hff.2 z hz])
      rw [hff.1] at HE2
      clear hff htk hop hse
      generalize foldV size ((2 : Int), ftb) a [b, c, d] = SV at *
      have hSV : 0 ≤ SV ∧ SV ≤ size - 1 := hvS
      go_wp2_with fail
      refine (FoldValues_c (size, rs) _ _ ((2 : Int), ftb) _ _ [a, b, c, d] _ _ HT_18.out HF_20.out HL.out).mono ?_
      rintro e w4 ⟨rfl, hb4⟩
      rw [HE1.out]
      have hz_w4 : w3.heap.size ≤ w4.heap.size := by have h9 := hb4.size; (try simp at h9); omega
      have hs21 := hs17.step hb4
      have q0_22 := cellL hb4 q0
      clear q0
      have HT_23 := Lib.hid (Rd.mono HT_18.out hb4)
      clear HT_18
      have HX_24 := Lib.hid (Rd.mono HX_19.out hb4)
      clear HX_19
      have HF_25 := Lib.hid (Rd.mono HF_20.out hb4)
      clear HF_20
      have HL_26 := Lib.hid (Rd.mono HL.out hb4)
      clear HL
      clear k0_0 k0_1 k1_0 k1_1 k2_0 k2_1
      have k0_0 := hs21.cellAt 0 rfl 0 rfl
      have k0_1 := hs21.cellAt 0 rfl 1 rfl
      have k1_0 := hs21.cellAt 1 rfl 0 rfl
      have k1_1 := hs21.cellAt 1 rfl 1 rfl
      have k2_0 := hs21.cellAt 2 rfl 0 rfl
      have k2_1 := hs21.cellAt 2 rfl 1 rfl
      go_upto_region 8 with fail
      have hIa : I64 a := ⟨by omega, by omega⟩
      have hIb : I64 b := ⟨by omega, by omega⟩
      have hIc : I64 c := ⟨by omega, by omega⟩
      have hId : I64 d := ⟨by omega, by omega⟩
      obtain ⟨bL, oL, rfl, y0, y1, y2, y3⟩ := rd4 HL_26.out
      go_upto_region 8 with fail
      refine wp_region_noPanic (wp_region_tree4 (fun w' => w'.cell? ⟨wK.heap.size, 0, none⟩ = some (.int .i64 size) ∧ w'.cell? ⟨wK.heap.size, 1, none⟩ = some (.slice aT rs.length cT) ∧ w'.cell? ⟨wK.heap.size + 1, 0, none⟩ = some (.int .i64 U) ∧ w'.cell? ⟨wK.heap.size + 1, 1, none⟩ = some (.slice aX l.length cX) ∧ w'.cell? ⟨w2.heap.size, 0, none⟩ = some (.int .i64 2) ∧ w'.cell? ⟨w2.heap.size, 1, none⟩ = some (.slice af ftb.length cf) ∧ w'.cell? ⟨g, o, none⟩ = some (.slice (some ⟨bL, oL, none⟩) 4 cL) ∧ w'.cell? ⟨bL, oL, none⟩ = some (.int .i64 a) ∧ w'.cell? ⟨bL, oL + 1, none⟩ = some (.int .i64 b) ∧ w'.cell? ⟨bL, oL + 2, none⟩ = some (.int .i64 c) ∧ w'.cell? ⟨bL, oL + 3, none⟩ = some (.int .i64 d)) (.float 0 (.float 1 (.float 2 (.float 3 (.float 4 (.float 5 (.float 6 (.float 7 (.float 8 (.float 9 (.float 10 (.float 11 (.float 12 (.float 13 (.float 14 (.float 15 (.float 16 (.float 17 (.float 18 (.float 19 (.hard 20 (.hard 21 (.float 22 (.float 23 (.float 24 (.float 25 (.float 26 .nil))))))))))))))))))))))))))) (by kernel_rfl) (by kernel_rfl) (by kernel_rfl) rfl ?_ (fun _ _ _ _ _ h => h) ?_)
      · exact ⟨(hs21.drew).cellAt 0 rfl 0 rfl, (hs21.drew).cellAt 0 rfl 1 rfl, (hs21.drew).cellAt 1 rfl 0 rfl, (hs21.drew).cellAt 1 rfl 1 rfl, (hs21.drew).cellAt 2 rfl 0 rfl, (hs21.drew).cellAt 2 rfl 1 rfl, cellL (belowD _) q0_22, cellL (belowD _) y0, cellL (belowD _) y1, cellL (belowD _) y2, cellL (belowD _) y3⟩
      have hs27 := hs21.drew
      have q0_28 := cellL (belowD _) q0_22
      clear q0_22
      have y0_29 := cellL (belowD _) y0
      clear y0
      have y1_30 := cellL (belowD _) y1
      clear y1
      have y2_31 := cellL (belowD _) y2
      clear y2
      have y3_32 := cellL (belowD _) y3
      clear y3
      have HT_33 := Lib.hid (Rd.mono HT_23.out (belowD _))
      clear HT_23
      have HX_34 := Lib.hid (Rd.mono HX_24.out (belowD _))
      clear HX_24
      have HF_35 := Lib.hid (Rd.mono HF_25.out (belowD _))
      clear HF_25
      have HL_36 := Lib.hid (Rd.mono HL_26.out (belowD _))
      clear HL_26
      clear k0_0 k0_1 k1_0 k1_1 k2_0 k2_1
      have hz_wd37 : w4.heap.size ≤ (w4.drew).heap.size := by simp
      generalize hgen_wd37 : w4.drew = wd37 at *
      have HG_wd37 := Lib.hid hgen_wd37
      clear hgen_wd37
      (repeat (first | (apply t4_skip rfl (by rfl); try simp only [Act.put, List.setIfInBounds_toArray, List.set_cons_zero, List.set_cons_succ]) | (apply t4_float rfl (by rfl); (· (intro w' hS; go_simp <;> with_reducible rfl)); (try simp only [Act.put, List.setIfInBounds_toArray, List.set_cons_zero, List.set_cons_succ]))))
      refine t4_hard rfl (by rfl) (fun K hK => ?_)
      go_wp2_with fail
      have hs38 := hs27.alloc #[.int .i64 d, .int .i64 b, .int .i64 a, .int .i64 c, .int .i64 d, .int .i64 a] 2 (n := wd37.heap.size) (by simp)
      have q0_39 := cellL (belowA _ (.cells #[.int .i64 d, .int .i64 b, .int .i64 a, .int .i64 c, .int .i64 d, .int .i64 a] 2)) q0_28
      clear q0_28
      have y0_40 := cellL (belowA _ (.cells #[.int .i64 d, .int .i64 b, .int .i64 a, .int .i64 c, .int .i64 d, .int .i64 a] 2)) y0_29
      clear y0_29
      have y1_41 := cellL (belowA _ (.cells #[.int .i64 d, .int .i64 b, .int .i64 a, .int .i64 c, .int .i64 d, .int .i64 a] 2)) y1_30
      clear y1_30
      have y2_42 := cellL (belowA _ (.cells #[.int .i64 d, .int .i64 b, .int .i64 a, .int .i64 c, .int .i64 d, .int .i64 a] 2)) y2_31
      clear y2_31
      have y3_43 := cellL (belowA _ (.cells #[.int .i64 d, .int .i64 b, .int .i64 a, .int .i64 c, .int .i64 d, .int .i64 a] 2)) y3_32
      clear y3_32
      have HT_44 := Lib.hid (Rd.mono HT_33.out (belowA _ (.cells #[.int .i64 d, .int .i64 b, .int .i64 a, .int .i64 c, .int .i64 d, .int .i64 a] 2)))
      clear HT_33
      have HX_45 := Lib.hid (Rd.mono HX_34.out (belowA _ (.cells #[.int .i64 d, .int .i64 b, .int .i64 a, .int .i64 c, .int .i64 d, .int .i64 a] 2)))
      clear HX_34
      have HF_46 := Lib.hid (Rd.mono HF_35.out (belowA _ (.cells #[.int .i64 d, .int .i64 b, .int .i64 a, .int .i64 c, .int .i64 d, .int .i64 a] 2)))
      clear HF_35
      have HL_47 := Lib.hid (Rd.mono HL_36.out (belowA _ (.cells #[.int .i64 d, .int .i64 b, .int .i64 a, .int .i64 c, .int .i64 d, .int .i64 a] 2)))
      clear HL_36
      have HE6 := Lib.hid (Own.rd (lit_done (lit_cons (lit_int hId) (lit_cons (lit_int hIb) (lit_cons (lit_int hIa) (lit_cons (lit_int hIc) (lit_cons (lit_int hId) (lit_cons (lit_int hIa) lit_nil)))))) (hs38.box (wd37.heap.size, #[.int .i64 d, .int .i64 b, .int .i64 a, .int .i64 c, .int .i64 d, .int .i64 a], 2) (by simp)).2.2 rfl (by simp)))
      refine ⟨⟨hs38.cellAt 0 rfl 0 rfl, hs38.cellAt 0 rfl 1 rfl, hs38.cellAt 1 rfl 0 rfl, hs38.cellAt 1 rfl 1 rfl, hs38.cellAt 2 rfl 0 rfl, hs38.cellAt 2 rfl 1 rfl, q0_39, y0_40, y1_41, y2_42, y3_43⟩, ?_⟩
      (repeat (first | (apply t4_skip rfl (by rfl); try simp only [Act.put, List.setIfInBounds_toArray, List.set_cons_zero, List.set_cons_succ]) | (apply t4_float rfl (by rfl); (· (intro w' hS; go_simp <;> with_reducible rfl)); (try simp only [Act.put, List.setIfInBounds_toArray, List.set_cons_zero, List.set_cons_succ]))))
      refine t4_hard rfl (by rfl) (fun K hK => ?_)
      go_wp2_with (go_at_call 9; refine (FoldValues_c (size, rs) _ _ ((2 : Int), ftb) _ _ [d, b, a, c, d, a] _ _ HT_44.out HF_46.out HE6.out).mono ?_; rintro e w48 ⟨rfl, hbw48⟩)
      have hz_w48 : wd37.heap.size + 1 ≤ w48.heap.size := by have h9 := hbw48.size; (try simp at h9); omega
      have hs49 := hs38.step hbw48
      have q0_50 := cellL hbw48 q0_39
      clear q0_39
      have y0_51 := cellL hbw48 y0_40
      clear y0_40
      have y1_52 := cellL hbw48 y1_41
      clear y1_41
      have y2_53 := cellL hbw48 y2_42
      clear y2_42
      have y3_54 := cellL hbw48 y3_43
      clear y3_43
      have HT_55 := Lib.hid (Rd.mono HT_44.out hbw48)
      clear HT_44
      have HX_56 := Lib.hid (Rd.mono HX_45.out hbw48)
      clear HX_45
      have HF_57 := Lib.hid (Rd.mono HF_46.out hbw48)
      clear HF_46
      have HL_58 := Lib.hid (Rd.mono HL_47.out hbw48)
      clear HL_47
      rw [HE2.out]
      clear HE6
      refine ⟨⟨hs49.cellAt 0 rfl 0 rfl, hs49.cellAt 0 rfl 1 rfl, hs49.cellAt 1 rfl 0 rfl, hs49.cellAt 1 rfl 1 rfl, hs49.cellAt 2 rfl 0 rfl, hs49.cellAt 2 rfl 1 rfl, q0_50, y0_51, y1_52, y2_53, y3_54⟩, ?_⟩
      (repeat (first | (apply t4_skip rfl (by rfl); try simp only [Act.put, List.setIfInBounds_toArray, List.set_cons_zero, List.set_cons_succ]) | (apply t4_float rfl (by rfl); (· (intro w' hS; go_simp <;> with_reducible rfl)); (try simp only [Act.put, List.setIfInBounds_toArray, List.set_cons_zero, List.set_cons_succ]))))
      have k0_0 := hs49.cellAt 0 rfl 0 rfl
      have k0_1 := hs49.cellAt 0 rfl 1 rfl
      have k1_0 := hs49.cellAt 1 rfl 0 rfl
      have k1_1 := hs49.cellAt 1 rfl 1 rfl
      have k2_0 := hs49.cellAt 2 rfl 0 rfl
      have k2_1 := hs49.cellAt 2 rfl 1 rfl
      have k3_0 := hs49.cellAt 3 rfl 0 rfl
      have k3_1 := hs49.cellAt 3 rfl 1 rfl
      have k3_2 := hs49.cellAt 3 rfl 2 rfl
      have k3_3 := hs49.cellAt 3 rfl 3 rfl
      have k3_4 := hs49.cellAt 3 rfl 4 rfl
      have k3_5 := hs49.cellAt 3 rfl 5 rfl
      refine t4_nil (NoPanic.normal ?_)
      have hs59 := hs49.low (B' := w2.heap.size + 1) (bx' := [(wK.heap.size, #[.int .i64 size, .slice aT rs.length cT], 26), (wK.heap.size + 1, #[.int .i64 U, .slice aX l.length cX], 29), (w2.heap.size, #[.int .i64 2, .slice af ftb.length cf], 34)]) (by omega) (by (try simp) <;> omega) (fun x hx => by simp only [List.mem_cons, List.not_mem_nil, or_false] at hx; rcases hx with rfl | rfl | rfl <;> (refine ⟨?_, ?_⟩ <;> (try simp) <;> (try omega)))
      go_wp2_with fail
      refine (sFoldValues_c (size, rs) _ _ ((2 : Int), ftb) _ _ [a, b, c, d] _ _ HT_55.out HF_57.out HL_58.out).mono ?_
      rintro e w5 ⟨rfl, hb5⟩
      rw [HE1.out]
      have hz_w5 : w48.heap.size ≤ w5.heap.size := by have h9 := hb5.size; (try simp at h9); omega
      have hs60 := hs59.step hb5
      have q0_61 := cellL hb5 q0_50
      clear q0_50
      have y0_62 := cellL hb5 y0_51
      clear y0_51
      have y1_63 := cellL hb5 y1_52
      clear y1_52
      have y2_64 := cellL hb5 y2_53
      clear y2_53
      have y3_65 := cellL hb5 y3_54
      clear y3_54
      have HT_66 := Lib.hid (Rd.mono HT_55.out hb5)
      clear HT_55
      have HX_67 := Lib.hid (Rd.mono HX_56.out hb5)
      clear HX_56
      have HF_68 := Lib.hid (Rd.mono HF_57.out hb5)
      clear HF_57
      have HL_69 := Lib.hid (Rd.mono HL_58.out hb5)
      clear HL_58
      clear k0_0 k0_1 k1_0 k1_1 k2_0 k2_1 k3_0 k3_1 k3_2 k3_3 k3_4 k3_5
      have k0_0 := hs60.cellAt 0 rfl 0 rfl
      have k0_1 := hs60.cellAt 0 rfl 1 rfl
      have k1_0 := hs60.cellAt 1 rfl 0 rfl
      have k1_1 := hs60.cellAt 1 rfl 1 rfl
      have k2_0 := hs60.cellAt 2 rfl 0 rfl
      have k2_1 := hs60.cellAt 2 rfl 1 rfl
      go_wp2_with fail
      have HST := Lib.hid hs60
      have HTQ := Lib.hid HT_66.out
      have HXQ := Lib.hid HX_67.out
      have HFQ := Lib.hid HF_68.out
      have HLQ := Lib.hid HL_69.out
      have hzq := hs60.hi
      go_loopw [16] (fun i wl => ∃ k : Nat, k ≤ 4 ∧ i = .int .i64 k ∧ Hid (Below w5.heap.size w5 wl)) (fun i _ => 4 - (intOf i).toNat)
      case atStart => exact ⟨0, by omega, rfl, Below.refl _ _⟩
      case round =>
        obtain ⟨k, hk, rfl, hbl⟩ := hrel
        have hsr := HST.out.step hbl.out
        have HT := Lib.hid (Rd.mono HTQ.out hbl.out)
        have HX := Lib.hid (Rd.mono HXQ.out hbl.out)
        have HF := Lib.hid (Rd.mono HFQ.out hbl.out)
        have HL := Lib.hid (Rd.mono HLQ.out hbl.out)
        have HBQ := hbl
        clear hbl
        have k0_0 := hsr.cellAt 0 rfl 0 rfl
        have k0_1 := hsr.cellAt 0 rfl 1 rfl
        have k1_0 := hsr.cellAt 1 rfl 0 rfl
        have k1_1 := hsr.cellAt 1 rfl 1 rfl
        have k2_0 := hsr.cellAt 2 rfl 0 rfl
        have k2_1 := hsr.cellAt 2 rfl 1 rfl
        by_cases hlk : k < 4
        · have hlkI : (k : Int) < 4 := by omega
          obtain ⟨b9, o9, e9, z0, hIz⟩ := rd_int_at HL.out k hlk
          simp only [Option.some.injEq, Addr.mk.injEq, and_true] at e9
          obtain ⟨rfl, rfl⟩ := e9
          have hz9 : ([a, b, c, d] : List Int)[k] = a ∨ ([a, b, c, d] : List Int)[k] = b ∨ ([a, b, c, d] : List Int)[k] = c ∨ ([a, b, c, d] : List Int)[k] = d := by
            match k, hlk with
            | 0, _ => exact .inl rfl
            | 1, _ => exact .inr (.inl rfl)
            | 2, _ => exact .inr (.inr (.inl rfl))
            | 3, _ => exact .inr (.inr (.inr rfl))
          have HE4 := Lib.hid (HE3.out _ hz9)
          clear hz9
          generalize ([a, b, c, d] : List Int)[k] = Z at *
          have hIS : I64 SV := ⟨by omega, by omega⟩
          go_upto_region 15 with fail
          refine wp_region_noPanic (wp_region_tree4 (fun w' => w'.cell? ⟨wK.heap.size, 0, none⟩ = some (.int .i64 size) ∧ w'.cell? ⟨wK.heap.size, 1, none⟩ = some (.slice aT rs.length cT) ∧ w'.cell? ⟨wK.heap.size + 1, 0, none⟩ = some (.int .i64 U) ∧ w'.cell? ⟨wK.heap.size + 1, 1, none⟩ = some (.slice aX l.length cX) ∧ w'.cell? ⟨w2.heap.size, 0, none⟩ = some (.int .i64 2) ∧ w'.cell? ⟨w2.heap.size, 1, none⟩ = some (.slice af ftb.length cf) ∧ w'.cell? ⟨bL, oL + k, none⟩ = some (.int .i64 Z)) (.float 0 (.float 1 (.float 2 (.float 3 (.float 4 (.float 5 (.float 6 (.hard 7 (.hard 8 (.float 9 (.float 10 (.float 11 (.float 12 (.float 13 .nil)))))))))))))) (by kernel_rfl) (by kernel_rfl) (by kernel_rfl) rfl ?_ (fun _ _ _ _ _ h => h) ?_)
          · exact ⟨(hsr.drew).cellAt 0 rfl 0 rfl, (hsr.drew).cellAt 0 rfl 1 rfl, (hsr.drew).cellAt 1 rfl 0 rfl, (hsr.drew).cellAt 1 rfl 1 rfl, (hsr.drew).cellAt 2 rfl 0 rfl, (hsr.drew).cellAt 2 rfl 1 rfl, cellL (belowD _) z0⟩
          have hs70 := hsr.drew
          have z0_71 := cellL (belowD _) z0
          clear z0
          have HT_72 := Lib.hid (Rd.mono HT.out (belowD _))
          clear HT
          have HX_73 := Lib.hid (Rd.mono HX.out (belowD _))
          clear HX
          have HF_74 := Lib.hid (Rd.mono HF.out (belowD _))
          clear HF
          have HL_75 := Lib.hid (Rd.mono HL.out (belowD _))
          clear HL
          have HBQ_76 := Lib.hid (HBQ.out.trans (((belowD _)).mono HBQ.out.size))
          clear HBQ
          clear k0_0 k0_1 k1_0 k1_1 k2_0 k2_1
          have hz_wd77 : wr.heap.size ≤ (wr.drew).heap.size := by simp
          generalize hgen_wd77 : wr.drew = wd77 at *
          have HG_wd77 := Lib.hid hgen_wd77
          clear hgen_wd77
          (repeat (first | (apply t4_skip rfl (by rfl); try simp only [Act.put, List.setIfInBounds_toArray, List.set_cons_zero, List.set_cons_succ]) | (apply t4_float rfl (by rfl); (· (intro w' hS; go_simp <;> with_reducible rfl)); (try simp only [Act.put, List.setIfInBounds_toArray, List.set_cons_zero, List.set_cons_succ]))))
          refine t4_hard rfl (by rfl) (fun K hK => ?_)
          go_wp2_with fail
          have hs78 := hs70.alloc #[.int .i64 Z, .int .i64 SV] 2 (n := wd77.heap.size) (by simp)
          have z0_79 := cellL (belowA _ (.cells #[.int .i64 Z, .int .i64 SV] 2)) z0_71
          clear z0_71
          have HT_80 := Lib.hid (Rd.mono HT_72.out (belowA _ (.cells #[.int .i64 Z, .int .i64 SV] 2)))
          clear HT_72
          have HX_81 := Lib.hid (Rd.mono HX_73.out (belowA _ (.cells #[.int .i64 Z, .int .i64 SV] 2)))
          clear HX_73
          have HF_82 := Lib.hid (Rd.mono HF_74.out (belowA _ (.cells #[.int .i64 Z, .int .i64 SV] 2)))
          clear HF_74
          have HL_83 := Lib.hid (Rd.mono HL_75.out (belowA _ (.cells #[.int .i64 Z, .int .i64 SV] 2)))
          clear HL_75
          have HBQ_84 := Lib.hid (HBQ_76.out.trans (((belowA _ (.cells #[.int .i64 Z, .int .i64 SV] 2))).mono HBQ_76.out.size))
          clear HBQ_76
          have HE6 := Lib.hid (Own.rd (lit_done (lit_cons (lit_int hIz) (lit_cons (lit_int hIS) lit_nil)) (hs78.box (wd77.heap.size, #[.int .i64 Z, .int .i64 SV], 2) (by simp)).2.2 rfl (by simp)))
          refine ⟨⟨hs78.cellAt 0 rfl 0 rfl, hs78.cellAt 0 rfl 1 rfl, hs78.cellAt 1 rfl 0 rfl, hs78.cellAt 1 rfl 1 rfl, hs78.cellAt 2 rfl 0 rfl, hs78.cellAt 2 rfl 1 rfl, z0_79⟩, ?_⟩
          (repeat (first | (apply t4_skip rfl (by rfl); try simp only [Act.put, List.setIfInBounds_toArray, List.set_cons_zero, List.set_cons_succ]) | (apply t4_float rfl (by rfl); (· (intro w' hS; go_simp <;> with_reducible rfl)); (try simp only [Act.put, List.setIfInBounds_toArray, List.set_cons_zero, List.set_cons_succ]))))
          refine t4_hard rfl (by rfl) (fun K hK => ?_)
          go_wp2_with (go_at_call 9; refine (FoldValues_c (size, rs) _ _ ((2 : Int), ftb) _ _ [Z, SV] _ _ HT_80.out HF_82.out HE6.out).mono ?_; rintro e w85 ⟨rfl, hbw85⟩)
          have hz_w85 : wd77.heap.size + 1 ≤ w85.heap.size := by have h9 := hbw85.size; (try simp at h9); omega
          have hs86 := hs78.step hbw85
          have z0_87 := cellL hbw85 z0_79
          clear z0_79
          have HT_88 := Lib.hid (Rd.mono HT_80.out hbw85)
          clear HT_80
          have HX_89 := Lib.hid (Rd.mono HX_81.out hbw85)
          clear HX_81
          have HF_90 := Lib.hid (Rd.mono HF_82.out hbw85)
          clear HF_82
          have HL_91 := Lib.hid (Rd.mono HL_83.out hbw85)
          clear HL_83
          have HBQ_92 := Lib.hid (HBQ_84.out.trans ((hbw85).mono HBQ_84.out.size))
          clear HBQ_84
          rw [HE4.out]
          clear HE6
          refine ⟨⟨hs86.cellAt 0 rfl 0 rfl, hs86.cellAt 0 rfl 1 rfl, hs86.cellAt 1 rfl 0 rfl, hs86.cellAt 1 rfl 1 rfl, hs86.cellAt 2 rfl 0 rfl, hs86.cellAt 2 rfl 1 rfl, z0_87⟩, ?_⟩
          (repeat (first | (apply t4_skip rfl (by rfl); try simp only [Act.put, List.setIfInBounds_toArray, List.set_cons_zero, List.set_cons_succ]) | (apply t4_float rfl (by rfl); (· (intro w' hS; go_simp <;> with_reducible rfl)); (try simp only [Act.put, List.setIfInBounds_toArray, List.set_cons_zero, List.set_cons_succ]))))
          have k0_0 := hs86.cellAt 0 rfl 0 rfl
          have k0_1 := hs86.cellAt 0 rfl 1 rfl
          have k1_0 := hs86.cellAt 1 rfl 0 rfl
          have k1_1 := hs86.cellAt 1 rfl 1 rfl
          have k2_0 := hs86.cellAt 2 rfl 0 rfl
          have k2_1 := hs86.cellAt 2 rfl 1 rfl
          have k3_0 := hs86.cellAt 3 rfl 0 rfl
          have k3_1 := hs86.cellAt 3 rfl 1 rfl
          refine t4_nil (NoPanic.normal ?_)
          have HBR := Lib.hid HBQ_92.out
          go_wp2_with fail
          go_roundw
          case rel => exact ⟨k + 1, by omega, by go_num, HBR.out⟩
          case measure => simp [intOf]; omega
        · obtain rfl : k = 4 := by omega
          have hnk : ¬ ((4 : Nat) : Int) < 4 := by omega
          clear HST HTQ HXQ HFQ HLQ HE1 HE2 HE3
          clear HF
          clear HL
          clear HBQ
          have hUU : 1 ≤ U ∧ U ≤ 10 := by omega
          go_wp2_with fail
          refine (FirstPairs_c (size, rs) ((U : Int), l) U _ _ _ _ _ HT.out HX.out HOK.out rfl).mono ?_
          rintro e wP ⟨vP, rfl, frP, hbP⟩
          have HPO := Lib.hid (fst_ok (t := (size, rs)) (x := ((U : Int), l)) U)
          generalize fstP (size, rs) ((U : Int), l) U = P at *
          obtain ⟨aP, cP, rfl, _⟩ := rd_list frP.rd
          have hz_wP : wr.heap.size ≤ wP.heap.size := by have h9 := hbP.size; (try simp at h9); omega
          have hs93 := hsr.step hbP
          have HT_94 := Lib.hid (Rd.mono HT.out hbP)
          clear HT
          have HX_95 := Lib.hid (Rd.mono HX.out hbP)
          clear HX
          clear k0_0 k0_1 k1_0 k1_1 k2_0 k2_1
          have k0_0 := hs93.cellAt 0 rfl 0 rfl
          have k0_1 := hs93.cellAt 0 rfl 1 rfl
          have k1_0 := hs93.cellAt 1 rfl 0 rfl
          have k1_1 := hs93.cellAt 1 rfl 1 rfl
          have k2_0 := hs93.cellAt 2 rfl 0 rfl
          have k2_1 := hs93.cellAt 2 rfl 1 rfl
          have HP := Lib.hid frP.rd
          clear frP
          have HPS := Lib.hid (HPO.out.pairs hs hUU.2)
          have HGV := Lib.hid (greedyVF_of HOK.out HPS.out)
          have HGL := Lib.hid (fun h => greedy_left (size := size.toNat) (v := U) (ps := P) h)
          generalize greedyF size.toNat U P = GF at *
          obtain ⟨ML, gb⟩ := GF
          cases gb with
          | false =>
            have hgv : greedyVF (size, rs) ((U : Int), l) P = ([], 6) := HGV.out.trans (by simp)
            have HGW := Lib.hid hgv
            clear hgv
            go_wp2_with fail
            refine (GreedyValues_c (size, rs) _ _ ((U : Int), l) _ _ P _ _ HT_94.out HX_95.out HP.out).mono ?_
            rintro e wG ⟨vG, rfl, frG, hbG⟩
            rw [HGW.out] at frG ⊢
            obtain ⟨aG, cG, rfl, _⟩ := rd_list frG.rd
            have hz_wG : wP.heap.size ≤ wG.heap.size := by have h9 := hbG.size; (try simp at h9); omega
            have hs96 := hs93.step hbG
            have HT_97 := Lib.hid (Rd.mono HT_94.out hbG)
            clear HT_94
            have HX_98 := Lib.hid (Rd.mono HX_95.out hbG)
            clear HX_95
            have HP_99 := Lib.hid (Rd.mono HP.out hbG)
            clear HP
            clear k0_0 k0_1 k1_0 k1_1 k2_0 k2_1
            have k0_0 := hs96.cellAt 0 rfl 0 rfl
            have k0_1 := hs96.cellAt 0 rfl 1 rfl
            have k1_0 := hs96.cellAt 1 rfl 0 rfl
            have k1_1 := hs96.cellAt 1 rfl 1 rfl
            have k2_0 := hs96.cellAt 2 rfl 0 rfl
            have k2_1 := hs96.cellAt 2 rfl 1 rfl
            have HG := Lib.hid frG.rd
            clear frG
            go_wp2_with fail
            refine (sGreedyValues_c (size, rs) _ _ ((U : Int), l) _ _ P _ _ HT_97.out HX_98.out HP_99.out).mono ?_
            rintro e wH ⟨vH, rfl, frH, hbH⟩
            rw [HGW.out] at frH ⊢
            obtain ⟨aH, cH, rfl, _⟩ := rd_list frH.rd
            have hz_wH : wG.heap.size ≤ wH.heap.size := by have h9 := hbH.size; (try simp at h9); omega
            have hs100 := hs96.step hbH
            have HT_101 := Lib.hid (Rd.mono HT_97.out hbH)
            clear HT_97
            have HX_102 := Lib.hid (Rd.mono HX_98.out hbH)
            clear HX_98
            have HP_103 := Lib.hid (Rd.mono HP_99.out hbH)
            clear HP_99
            have HG_104 := Lib.hid (Rd.mono HG.out hbH)
            clear HG
            clear k0_0 k0_1 k1_0 k1_1 k2_0 k2_1
            have k0_0 := hs100.cellAt 0 rfl 0 rfl
            have k0_1 := hs100.cellAt 0 rfl 1 rfl
            have k1_0 := hs100.cellAt 1 rfl 0 rfl
            have k1_1 := hs100.cellAt 1 rfl 1 rfl
            have k2_0 := hs100.cellAt 2 rfl 0 rfl
            have k2_1 := hs100.cellAt 2 rfl 1 rfl
            have HH := Lib.hid frH.rd
            clear frH
            go_wp2_with fail
            refine (A2Same_t [] _ _ _ HG_104.out HH.out).mono ?_
            rintro e wS ⟨rfl, hbS⟩
            clear HH
            have hz_wS : wH.heap.size ≤ wS.heap.size := by have h9 := hbS.size; (try simp at h9); omega
            have hs105 := hs100.step hbS
            have HT_106 := Lib.hid (Rd.mono HT_101.out hbS)
            clear HT_101
            have HX_107 := Lib.hid (Rd.mono HX_102.out hbS)
            clear HX_102
            have HP_108 := Lib.hid (Rd.mono HP_103.out hbS)
            clear HP_103
            have HG_109 := Lib.hid (Rd.mono HG_104.out hbS)
            clear HG_104
            clear k0_0 k0_1 k1_0 k1_1 k2_0 k2_1
            have k0_0 := hs105.cellAt 0 rfl 0 rfl
            have k0_1 := hs105.cellAt 0 rfl 1 rfl
            have k1_0 := hs105.cellAt 1 rfl 0 rfl
            have k1_1 := hs105.cellAt 1 rfl 1 rfl
            have k2_0 := hs105.cellAt 2 rfl 0 rfl
            have k2_1 := hs105.cellAt 2 rfl 1 rfl
            go_wp2_with fail
            go_ret
            exact ⟨rfl, hs105.bel⟩
          | true =>
            have hgv : greedyVF (size, rs) ((U : Int), l) P = (ML, 0) := HGV.out.trans (by simp)
            have HGW := Lib.hid hgv
            clear hgv
            have HLF := Lib.hid (HGL.out rfl)
            clear HGL HGV
            go_wp2_with fail
            refine (GreedyValues_c (size, rs) _ _ ((U : Int), l) _ _ P _ _ HT_94.out HX_95.out HP.out).mono ?_
            rintro e wG ⟨vG, rfl, frG, hbG⟩
            rw [HGW.out] at frG ⊢
            obtain ⟨aG, cG, rfl, _⟩ := rd_list frG.rd
            have hz_wG : wP.heap.size ≤ wG.heap.size := by have h9 := hbG.size; (try simp at h9); omega
            have hs110 := hs93.step hbG
            have HT_111 := Lib.hid (Rd.mono HT_94.out hbG)
            clear HT_94
            have HX_112 := Lib.hid (Rd.mono HX_95.out hbG)
            clear HX_95
            have HP_113 := Lib.hid (Rd.mono HP.out hbG)
            clear HP
            clear k0_0 k0_1 k1_0 k1_1 k2_0 k2_1
            have k0_0 := hs110.cellAt 0 rfl 0 rfl
            have k0_1 := hs110.cellAt 0 rfl 1 rfl
            have k1_0 := hs110.cellAt 1 rfl 0 rfl
            have k1_1 := hs110.cellAt 1 rfl 1 rfl
            have k2_0 := hs110.cellAt 2 rfl 0 rfl
            have k2_1 := hs110.cellAt 2 rfl 1 rfl
            have HG := Lib.hid frG.rd
            clear frG
            go_wp2_with fail
            refine (sGreedyValues_c (size, rs) _ _ ((U : Int), l) _ _ P _ _ HT_111.out HX_112.out HP_113.out).mono ?_
            rintro e wH ⟨vH, rfl, frH, hbH⟩
            rw [HGW.out] at frH ⊢
            obtain ⟨aH, cH, rfl, _⟩ := rd_list frH.rd
            have hz_wH : wG.heap.size ≤ wH.heap.size := by have h9 := hbH.size; (try simp at h9); omega
            have hs114 := hs110.step hbH
            have HT_115 := Lib.hid (Rd.mono HT_111.out hbH)
            clear HT_111
            have HX_116 := Lib.hid (Rd.mono HX_112.out hbH)
            clear HX_112
            have HP_117 := Lib.hid (Rd.mono HP_113.out hbH)
            clear HP_113
            have HG_118 := Lib.hid (Rd.mono HG.out hbH)
            clear HG
            clear k0_0 k0_1 k1_0 k1_1 k2_0 k2_1
            have k0_0 := hs114.cellAt 0 rfl 0 rfl
            have k0_1 := hs114.cellAt 0 rfl 1 rfl
            have k1_0 := hs114.cellAt 1 rfl 0 rfl
            have k1_1 := hs114.cellAt 1 rfl 1 rfl
            have k2_0 := hs114.cellAt 2 rfl 0 rfl
            have k2_1 := hs114.cellAt 2 rfl 1 rfl
            have HM := Lib.hid frH.rd
            clear frH
            go_wp2_with fail
            refine (A2Same_t ML _ _ _ HG_118.out HM.out).mono ?_
            rintro e wS ⟨rfl, hbS⟩
            clear HG_118
            have hz_wS : wH.heap.size ≤ wS.heap.size := by have h9 := hbS.size; (try simp at h9); omega
            have hs119 := hs114.step hbS
            have HT_120 := Lib.hid (Rd.mono HT_115.out hbS)
            clear HT_115
            have HX_121 := Lib.hid (Rd.mono HX_116.out hbS)
            clear HX_116
            have HP_122 := Lib.hid (Rd.mono HP_117.out hbS)
            clear HP_117
            have HM_123 := Lib.hid (Rd.mono HM.out hbS)
            clear HM
            clear k0_0 k0_1 k1_0 k1_1 k2_0 k2_1
            have k0_0 := hs119.cellAt 0 rfl 0 rfl
            have k0_1 := hs119.cellAt 0 rfl 1 rfl
            have k1_0 := hs119.cellAt 1 rfl 0 rfl
            have k1_1 := hs119.cellAt 1 rfl 1 rfl
            have k2_0 := hs119.cellAt 2 rfl 0 rfl
            have k2_1 := hs119.cellAt 2 rfl 1 rfl
            go_wp2_with fail
            have HST := Lib.hid hs119
            have HPQ := Lib.hid HP_122.out
            have HMQ := Lib.hid HM_123.out
            have hMLl : ML.length = U := HLF.out.1
            have HMLL := Lib.hid hMLl
            clear hMLl
            have hzq := hs119.hi
            go_loopw [25] (fun i wl => ∃ j : Nat, 1 ≤ j ∧ j ≤ U ∧ i = .int .i64 j ∧ Hid (Below wS.heap.size wS wl)) (fun i _ => U - (intOf i).toNat)
            case atStart => exact ⟨1, by omega, by omega, rfl, Below.refl _ _⟩
            case round =>
              obtain ⟨j, hj1, hjU, rfl, hbl⟩ := hrel
              have hsr := HST.out.step hbl.out
              have HBQ := hbl
              clear hbl
              have k0_0 := hsr.cellAt 0 rfl 0 rfl
              have k0_1 := hsr.cellAt 0 rfl 1 rfl
              have k1_0 := hsr.cellAt 1 rfl 0 rfl
              have k1_1 := hsr.cellAt 1 rfl 1 rfl
              have k2_0 := hsr.cellAt 2 rfl 0 rfl
              have k2_1 := hsr.cellAt 2 rfl 1 rfl
              by_cases hlj : j < U
              · have hljI : (j : Int) < U := by omega
                go_wp2_with fail
                go_loopw [26] (fun i wl => ∃ i9 : Nat, i9 ≤ j ∧ i = .int .i64 i9 ∧ Hid (Below wS.heap.size wS wl)) (fun i _ => j - (intOf i).toNat)
                case atStart => exact ⟨0, by omega, rfl, HBQ.out⟩
                case round =>
                  clear HBQ
                  obtain ⟨i9, hij, rfl, hbl⟩ := hrel
                  have hsi := HST.out.step hbl.out
                  have HP := Lib.hid (Rd.mono HPQ.out hbl.out)
                  have HM := Lib.hid (Rd.mono HMQ.out hbl.out)
                  have HBQ := hbl
                  clear hbl
                  have k0_0 := hsi.cellAt 0 rfl 0 rfl
                  have k0_1 := hsi.cellAt 0 rfl 1 rfl
                  have k1_0 := hsi.cellAt 1 rfl 0 rfl
                  have k1_1 := hsi.cellAt 1 rfl 1 rfl
                  have k2_0 := hsi.cellAt 2 rfl 0 rfl
                  have k2_1 := hsi.cellAt 2 rfl 1 rfl
                  by_cases hli : i9 < j
                  · have hliI : (i9 : Int) < j := by omega
                    have HLE := Lib.hid (show i9 + 1 ≤ j from hli)
                    have HWI := Lib.hid (i64_in ((i9 : Int) + 1) (by omega))
                    have HCI := Lib.hid (show ((i9 + 1 : Nat) : Int) = (i9 : Int) + 1 from rfl)
                    have hmi : i9 < ML.length := by rw [HMLL.out]; omega
                    have hmj : j < ML.length := by rw [HMLL.out]; omega
                    have hmiI : (i9 : Int) < ML.length := by omega
                    have hmjI : (j : Int) < ML.length := by omega
                    have hpl := HPS.out.lt hli hlj
                    have hplI : (pidx i9 j : Int) < P.length := by omega
                    have hp0 : (0 : Int) ≤ (pidx i9 j : Int) := by omega
                    have HHAS := Lib.hid (left_has (ps := P) (a := ML.getD i9 0) (b := ML.getD j 0) hli (HLF.out.2.left j hmj i9 hli))
                    have HROK := Lib.hid (HPS.out.ok _ (getD_mem (0, []) hpl)).1
                    go_wp2_with fail
                    refine (PairIndex_c U i9 j _ hUU.2 hli hlj).mono ?_
                    rintro e w7 ⟨rfl, hb7⟩
                    have hz_w7 : wr.heap.size ≤ w7.heap.size := by have h9 := hb7.size; (try simp at h9); omega
                    have hs124 := hsi.step hb7
                    have HP_125 := Lib.hid (Rd.mono HP.out hb7)
                    clear HP
                    have HM_126 := Lib.hid (Rd.mono HM.out hb7)
                    clear HM
                    have HBQ_127 := Lib.hid (HBQ.out.trans ((hb7).mono HBQ.out.size))
                    clear HBQ
                    clear k0_0 k0_1 k1_0 k1_1 k2_0 k2_1
                    have k0_0 := hs124.cellAt 0 rfl 0 rfl
                    have k0_1 := hs124.cellAt 0 rfl 1 rfl
                    have k1_0 := hs124.cellAt 1 rfl 0 rfl
                    have k1_1 := hs124.cellAt 1 rfl 1 rfl
                    have k2_0 := hs124.cellAt 2 rfl 0 rfl
                    have k2_1 := hs124.cellAt 2 rfl 1 rfl
                    obtain ⟨aP9, cP9, eP, hslP⟩ := rd_list HP_125.out
                    simp only [Value.slice.injEq] at eP
                    obtain ⟨rfl, -, rfl⟩ := eP
                    obtain ⟨bP, oP, r0, r1, rfl, x0, x1, hy⟩ := rdSl_two rfl hslP (pidx i9 j) hpl
                    rw [show P[pidx i9 j] = P.getD (pidx i9 j) (0, []) by simp [List.getD, hpl]] at hy
                    have hpx : 0 ≤ pidx i9 j := Nat.zero_le _
                    obtain ⟨bM, oM, rfl, m0, hI0⟩ := rd_int_at HM_126.out i9 hmi
                    obtain ⟨bM', oM', eM, m1, hI1⟩ := rd_int_at HM_126.out j hmj
                    simp only [Option.some.injEq, Addr.mk.injEq, and_true] at eM
                    obtain ⟨rfl, rfl⟩ := eM
                    rw [show ML.getD i9 0 = ML[i9] by simp [List.getD, hmi], show ML.getD j 0 = ML[j] by simp [List.getD, hmj]] at HHAS
                    generalize P.getD (pidx i9 j) (0, []) = RP at *
                    generalize pidx i9 j = PX at *
                    obtain ⟨ra, rt⟩ := RP
                    have hy0 := rd_cons rfl hy
                    obtain ⟨rfl, _⟩ := rd_i1 hy0.1
                    obtain ⟨a5, c5, rfl, _⟩ := rd_list hy0.2
                    have HR := Lib.hid hy
                    clear hy hy0 hslP
                    generalize ML[i9] = MI at *
                    generalize ML[j] = MJ at *
                    clear HP_125
                    clear HM_126
                    go_upto_region 34 with fail
                    refine wp_region_noPanic (wp_region_tree4 (fun w' => w'.cell? ⟨wK.heap.size, 0, none⟩ = some (.int .i64 size) ∧ w'.cell? ⟨wK.heap.size, 1, none⟩ = some (.slice aT rs.length cT) ∧ w'.cell? ⟨wK.heap.size + 1, 0, none⟩ = some (.int .i64 U) ∧ w'.cell? ⟨wK.heap.size + 1, 1, none⟩ = some (.slice aX l.length cX) ∧ w'.cell? ⟨w2.heap.size, 0, none⟩ = some (.int .i64 (2 : Int)) ∧ w'.cell? ⟨w2.heap.size, 1, none⟩ = some (.slice af ftb.length cf) ∧ w'.cell? ⟨bP, oP + PX * 2, none⟩ = some (.int .i64 ra) ∧ w'.cell? ⟨bP, oP + PX * 2 + 1, none⟩ = some (.slice a5 rt.length c5) ∧ w'.cell? ⟨bM, oM + i9, none⟩ = some (.int .i64 MI) ∧ w'.cell? ⟨bM, oM + j, none⟩ = some (.int .i64 MJ)) (.float 0 (.float 1 (.float 2 (.float 3 (.float 4 (.float 5 (.float 6 (.float 7 (.float 8 (.float 9 (.float 10 (.float 11 (.float 12 (.float 13 (.hard 14 (.hard 15 (.float 16 (.float 17 (.float 18 (.float 19 (.float 20 .nil))))))))))))))))))))) (by kernel_rfl) (by kernel_rfl) (by kernel_rfl) rfl ?_ (fun _ _ _ _ _ h => h) ?_)
                    · exact ⟨(hs124.drew).cellAt 0 rfl 0 rfl, (hs124.drew).cellAt 0 rfl 1 rfl, (hs124.drew).cellAt 1 rfl 0 rfl, (hs124.drew).cellAt 1 rfl 1 rfl, (hs124.drew).cellAt 2 rfl 0 rfl, (hs124.drew).cellAt 2 rfl 1 rfl, cellL (belowD _) x0, cellL (belowD _) x1, cellL (belowD _) m0, cellL (belowD _) m1⟩
                    have hs128 := hs124.drew
                    have x0_129 := cellL (belowD _) x0
                    clear x0
                    have x1_130 := cellL (belowD _) x1
                    clear x1
                    have m0_131 := cellL (belowD _) m0
                    clear m0
                    have m1_132 := cellL (belowD _) m1
                    clear m1
                    have HBQ_133 := Lib.hid (HBQ_127.out.trans (((belowD _)).mono HBQ_127.out.size))
                    clear HBQ_127
                    have HR_134 := Lib.hid (Rd.mono HR.out (belowD _))
                    clear HR
                    clear k0_0 k0_1 k1_0 k1_1 k2_0 k2_1
                    have hz_wd135 : w7.heap.size ≤ (w7.drew).heap.size := by simp
                    generalize hgen_wd135 : w7.drew = wd135 at *
                    have HG_wd135 := Lib.hid hgen_wd135
                    clear hgen_wd135
                    (repeat (first | (apply t4_skip rfl (by rfl); try simp only [Act.put, List.setIfInBounds_toArray, List.set_cons_zero, List.set_cons_succ]) | (apply t4_float rfl (by rfl); (· (intro w' hS; go_simp <;> with_reducible rfl)); (try simp only [Act.put, List.setIfInBounds_toArray, List.set_cons_zero, List.set_cons_succ]))))
                    refine t4_hard rfl (by rfl) (fun K hK => ?_)
                    go_wp2_with fail
                    have hs136 := hs128.alloc #[.int .i64 MI, .int .i64 MJ] 2 (n := wd135.heap.size) (by simp)
                    have x0_137 := cellL (belowA _ (.cells #[.int .i64 MI, .int .i64 MJ] 2)) x0_129
                    clear x0_129
                    have x1_138 := cellL (belowA _ (.cells #[.int .i64 MI, .int .i64 MJ] 2)) x1_130
                    clear x1_130
                    have m0_139 := cellL (belowA _ (.cells #[.int .i64 MI, .int .i64 MJ] 2)) m0_131
                    clear m0_131
                    have m1_140 := cellL (belowA _ (.cells #[.int .i64 MI, .int .i64 MJ] 2)) m1_132
                    clear m1_132
                    have HBQ_141 := Lib.hid (HBQ_133.out.trans (((belowA _ (.cells #[.int .i64 MI, .int .i64 MJ] 2))).mono HBQ_133.out.size))
                    clear HBQ_133
                    have HR_142 := Lib.hid (Rd.mono HR_134.out (belowA _ (.cells #[.int .i64 MI, .int .i64 MJ] 2)))
                    clear HR_134
                    have HE6 := Lib.hid (Own.rd (lit_done (lit_cons (lit_int hI0) (lit_cons (lit_int hI1) lit_nil)) (hs136.box (wd135.heap.size, #[.int .i64 MI, .int .i64 MJ], 2) (by simp)).2.2 rfl (by simp)))
                    refine ⟨⟨hs136.cellAt 0 rfl 0 rfl, hs136.cellAt 0 rfl 1 rfl, hs136.cellAt 1 rfl 0 rfl, hs136.cellAt 1 rfl 1 rfl, hs136.cellAt 2 rfl 0 rfl, hs136.cellAt 2 rfl 1 rfl, x0_137, x1_138, m0_139, m1_140⟩, ?_⟩
                    (repeat (first | (apply t4_skip rfl (by rfl); try simp only [Act.put, List.setIfInBounds_toArray, List.set_cons_zero, List.set_cons_succ]) | (apply t4_float rfl (by rfl); (· (intro w' hS; go_simp <;> with_reducible rfl)); (try simp only [Act.put, List.setIfInBounds_toArray, List.set_cons_zero, List.set_cons_succ]))))
                    refine t4_hard rfl (by rfl) (fun K hK => ?_)
                    go_wp2_with (go_at_call 16; refine (HasTuple_c size (ra, rt) [MI, MJ] _ _ _ _ HR_142.out HE6.out HROK.out).mono ?_; rintro e w143 ⟨rfl, hbw143⟩)
                    have hz_w143 : wd135.heap.size + 1 ≤ w143.heap.size := by have h9 := hbw143.size; (try simp at h9); omega
                    have hs144 := hs136.step hbw143
                    have x0_145 := cellL hbw143 x0_137
                    clear x0_137
                    have x1_146 := cellL hbw143 x1_138
                    clear x1_138
                    have m0_147 := cellL hbw143 m0_139
                    clear m0_139
                    have m1_148 := cellL hbw143 m1_140
                    clear m1_140
                    have HBQ_149 := Lib.hid (HBQ_141.out.trans ((hbw143).mono HBQ_141.out.size))
                    clear HBQ_141
                    have HR_150 := Lib.hid (Rd.mono HR_142.out hbw143)
                    clear HR_142
                    rw [HHAS.out]
                    clear HE6
                    refine ⟨⟨hs144.cellAt 0 rfl 0 rfl, hs144.cellAt 0 rfl 1 rfl, hs144.cellAt 1 rfl 0 rfl, hs144.cellAt 1 rfl 1 rfl, hs144.cellAt 2 rfl 0 rfl, hs144.cellAt 2 rfl 1 rfl, x0_145, x1_146, m0_147, m1_148⟩, ?_⟩
                    (repeat (first | (apply t4_skip rfl (by rfl); try simp only [Act.put, List.setIfInBounds_toArray, List.set_cons_zero, List.set_cons_succ]) | (apply t4_float rfl (by rfl); (· (intro w' hS; go_simp <;> with_reducible rfl)); (try simp only [Act.put, List.setIfInBounds_toArray, List.set_cons_zero, List.set_cons_succ]))))
                    have k0_0 := hs144.cellAt 0 rfl 0 rfl
                    have k0_1 := hs144.cellAt 0 rfl 1 rfl
                    have k1_0 := hs144.cellAt 1 rfl 0 rfl
                    have k1_1 := hs144.cellAt 1 rfl 1 rfl
                    have k2_0 := hs144.cellAt 2 rfl 0 rfl
                    have k2_1 := hs144.cellAt 2 rfl 1 rfl
                    have k3_0 := hs144.cellAt 3 rfl 0 rfl
                    have k3_1 := hs144.cellAt 3 rfl 1 rfl
                    refine t4_nil (NoPanic.normal ?_)
                    have HBR := Lib.hid HBQ_149.out
                    go_wp2_with fail
                    go_roundw
                    case rel => exact ⟨i9 + 1, HLE.out, (by first | rfl | (rw [HWI.out]; rfl) | (simp only [HWI.out, HCI.out])), HBR.out⟩
                    case measure => simp [intOf]; omega
                  · have hni : ¬ ((i9 : Int) < j) := by omega
                    clear hli
                    go_wp2_with fail
                    go_roundw
                    case rel => exact ⟨j + 1, by omega, by omega, by go_num, HBQ.out⟩
                    case measure => simp [intOf]; omega
              · have hnj : ¬ ((j : Int) < U) := by omega
                rw [HMLL.out]
                clear hlj
                go_wp2_with fail
                go_ret
                exact ⟨by simp, hsr.bel⟩
    · have hfc2 : (fc == 0) = false := by simpa using hfc
      clear hfc
      have hUU : 1 ≤ U ∧ U ≤ 10 := by omega
      go_wp2_with fail
      refine (FirstPairs_c (size, rs) ((U : Int), l) U _ _ _ _ _ HT_18.out HX_19.out HOK.out rfl).mono ?_
      rintro e wP ⟨vP, rfl, frP, hbP⟩
      have HPO := Lib.hid (fst_ok (t := (size, rs)) (x := ((U : Int), l)) U)
      generalize fstP (size, rs) ((U : Int), l) U = P at *
      obtain ⟨aP, cP, rfl, _⟩ := rd_list frP.rd
      have hz_wP : w3.heap.size ≤ wP.heap.size := by have h9 := hbP.size; (try simp at h9); omega
      have hs151 := hs17.step hbP
      have q0_152 := cellL hbP q0
      clear q0
      have HT_153 := Lib.hid (Rd.mono HT_18.out hbP)
      clear HT_18
      have HX_154 := Lib.hid (Rd.mono HX_19.out hbP)
      clear HX_19
      have HF_155 := Lib.hid (Rd.mono HF_20.out hbP)
      clear HF_20
      have HL_156 := Lib.hid (Rd.mono HL.out hbP)
      clear HL
      clear k0_0 k0_1 k1_0 k1_1 k2_0 k2_1
      have k0_0 := hs151.cellAt 0 rfl 0 rfl
      have k0_1 := hs151.cellAt 0 rfl 1 rfl
      have k1_0 := hs151.cellAt 1 rfl 0 rfl
      have k1_1 := hs151.cellAt 1 rfl 1 rfl
      have k2_0 := hs151.cellAt 2 rfl 0 rfl
      have k2_1 := hs151.cellAt 2 rfl 1 rfl
      have HP := Lib.hid frP.rd
      clear frP
      have HPS := Lib.hid (HPO.out.pairs hs hUU.2)
      have HGV := Lib.hid (greedyVF_of HOK.out HPS.out)
      have HGL := Lib.hid (fun h => greedy_left (size := size.toNat) (v := U) (ps := P) h)
      generalize greedyF size.toNat U P = GF at *
      obtain ⟨ML, gb⟩ := GF
      cases gb with
      | false =>
        have hgv : greedyVF (size, rs) ((U : Int), l) P = ([], 6) := HGV.out.trans (by simp)
        have HGW := Lib.hid hgv
        clear hgv
        go_wp2_with fail
        refine (GreedyValues_c (size, rs) _ _ ((U : Int), l) _ _ P _ _ HT_153.out HX_154.out HP.out).mono ?_
        rintro e wG ⟨vG, rfl, frG, hbG⟩
        rw [HGW.out] at frG ⊢
        obtain ⟨aG, cG, rfl, _⟩ := rd_list frG.rd
        have hz_wG : wP.heap.size ≤ wG.heap.size := by have h9 := hbG.size; (try simp at h9); omega
        have hs157 := hs151.step hbG
        have q0_158 := cellL hbG q0_152
        clear q0_152
        have HT_159 := Lib.hid (Rd.mono HT_153.out hbG)
        clear HT_153
        have HX_160 := Lib.hid (Rd.mono HX_154.out hbG)
        clear HX_154
        have HF_161 := Lib.hid (Rd.mono HF_155.out hbG)
        clear HF_155
        have HL_162 := Lib.hid (Rd.mono HL_156.out hbG)
        clear HL_156
        have HP_163 := Lib.hid (Rd.mono HP.out hbG)
        clear HP
        clear k0_0 k0_1 k1_0 k1_1 k2_0 k2_1
        have k0_0 := hs157.cellAt 0 rfl 0 rfl
        have k0_1 := hs157.cellAt 0 rfl 1 rfl
        have k1_0 := hs157.cellAt 1 rfl 0 rfl
        have k1_1 := hs157.cellAt 1 rfl 1 rfl
        have k2_0 := hs157.cellAt 2 rfl 0 rfl
        have k2_1 := hs157.cellAt 2 rfl 1 rfl
        have HG := Lib.hid frG.rd
        clear frG
        go_wp2_with fail
        refine (sGreedyValues_c (size, rs) _ _ ((U : Int), l) _ _ P _ _ HT_159.out HX_160.out HP_163.out).mono ?_
        rintro e wH ⟨vH, rfl, frH, hbH⟩
        rw [HGW.out] at frH ⊢
        obtain ⟨aH, cH, rfl, _⟩ := rd_list frH.rd
        have hz_wH : wG.heap.size ≤ wH.heap.size := by have h9 := hbH.size; (try simp at h9); omega
        have hs164 := hs157.step hbH
        have q0_165 := cellL hbH q0_158
        clear q0_158
        have HT_166 := Lib.hid (Rd.mono HT_159.out hbH)
        clear HT_159
        have HX_167 := Lib.hid (Rd.mono HX_160.out hbH)
        clear HX_160
        have HF_168 := Lib.hid (Rd.mono HF_161.out hbH)
        clear HF_161
        have HL_169 := Lib.hid (Rd.mono HL_162.out hbH)
        clear HL_162
        have HP_170 := Lib.hid (Rd.mono HP_163.out hbH)
        clear HP_163
        have HG_171 := Lib.hid (Rd.mono HG.out hbH)
        clear HG
        clear k0_0 k0_1 k1_0 k1_1 k2_0 k2_1
        have k0_0 := hs164.cellAt 0 rfl 0 rfl
        have k0_1 := hs164.cellAt 0 rfl 1 rfl
        have k1_0 := hs164.cellAt 1 rfl 0 rfl
        have k1_1 := hs164.cellAt 1 rfl 1 rfl
        have k2_0 := hs164.cellAt 2 rfl 0 rfl
        have k2_1 := hs164.cellAt 2 rfl 1 rfl
        have HH := Lib.hid frH.rd
        clear frH
        go_wp2_with fail
        refine (A2Same_t [] _ _ _ HG_171.out HH.out).mono ?_
        rintro e wS ⟨rfl, hbS⟩
        clear HH
        have hz_wS : wH.heap.size ≤ wS.heap.size := by have h9 := hbS.size; (try simp at h9); omega
        have hs172 := hs164.step hbS
        have q0_173 := cellL hbS q0_165
        clear q0_165
        have HT_174 := Lib.hid (Rd.mono HT_166.out hbS)
        clear HT_166
        have HX_175 := Lib.hid (Rd.mono HX_167.out hbS)
        clear HX_167
        have HF_176 := Lib.hid (Rd.mono HF_168.out hbS)
        clear HF_168
        have HL_177 := Lib.hid (Rd.mono HL_169.out hbS)
        clear HL_169
        have HP_178 := Lib.hid (Rd.mono HP_170.out hbS)
        clear HP_170
        have HG_179 := Lib.hid (Rd.mono HG_171.out hbS)
        clear HG_171
        clear k0_0 k0_1 k1_0 k1_1 k2_0 k2_1
        have k0_0 := hs172.cellAt 0 rfl 0 rfl
        have k0_1 := hs172.cellAt 0 rfl 1 rfl
        have k1_0 := hs172.cellAt 1 rfl 0 rfl
        have k1_1 := hs172.cellAt 1 rfl 1 rfl
        have k2_0 := hs172.cellAt 2 rfl 0 rfl
        have k2_1 := hs172.cellAt 2 rfl 1 rfl
        go_wp2_with fail
        go_ret
        exact ⟨rfl, hs172.bel⟩
      | true =>
        have hgv : greedyVF (size, rs) ((U : Int), l) P = (ML, 0) := HGV.out.trans (by simp)
        have HGW := Lib.hid hgv
        clear hgv
        have HLF := Lib.hid (HGL.out rfl)
        clear HGL HGV
        go_wp2_with fail
        refine (GreedyValues_c (size, rs) _ _ ((U : Int), l) _ _ P _ _ HT_153.out HX_154.out HP.out).mono ?_
        rintro e wG ⟨vG, rfl, frG, hbG⟩
        rw [HGW.out] at frG ⊢
        obtain ⟨aG, cG, rfl, _⟩ := rd_list frG.rd
        have hz_wG : wP.heap.size ≤ wG.heap.size := by have h9 := hbG.size; (try simp at h9); omega
        have hs180 := hs151.step hbG
        have q0_181 := cellL hbG q0_152
        clear q0_152
        have HT_182 := Lib.hid (Rd.mono HT_153.out hbG)
        clear HT_153
        have HX_183 := Lib.hid (Rd.mono HX_154.out hbG)
        clear HX_154
        have HF_184 := Lib.hid (Rd.mono HF_155.out hbG)
        clear HF_155
        have HL_185 := Lib.hid (Rd.mono HL_156.out hbG)
        clear HL_156
        have HP_186 := Lib.hid (Rd.mono HP.out hbG)
        clear HP
        clear k0_0 k0_1 k1_0 k1_1 k2_0 k2_1
        have k0_0 := hs180.cellAt 0 rfl 0 rfl
        have k0_1 := hs180.cellAt 0 rfl 1 rfl
        have k1_0 := hs180.cellAt 1 rfl 0 rfl
        have k1_1 := hs180.cellAt 1 rfl 1 rfl
        have k2_0 := hs180.cellAt 2 rfl 0 rfl
        have k2_1 := hs180.cellAt 2 rfl 1 rfl
        have HG := Lib.hid frG.rd
        clear frG
        go_wp2_with fail
        refine (sGreedyValues_c (size, rs) _ _ ((U : Int), l) _ _ P _ _ HT_182.out HX_183.out HP_186.out).mono ?_
        rintro e wH ⟨vH, rfl, frH, hbH⟩
        rw [HGW.out] at frH ⊢
        obtain ⟨aH, cH, rfl, _⟩ := rd_list frH.rd
        have hz_wH : wG.heap.size ≤ wH.heap.size := by have h9 := hbH.size; (try simp at h9); omega
        have hs187 := hs180.step hbH
        have q0_188 := cellL hbH q0_181
        clear q0_181
        have HT_189 := Lib.hid (Rd.mono HT_182.out hbH)
        clear HT_182
        have HX_190 := Lib.hid (Rd.mono HX_183.out hbH)
        clear HX_183
        have HF_191 := Lib.hid (Rd.mono HF_184.out hbH)
        clear HF_184
        have HL_192 := Lib.hid (Rd.mono HL_185.out hbH)
        clear HL_185
        have HP_193 := Lib.hid (Rd.mono HP_186.out hbH)
        clear HP_186
        have HG_194 := Lib.hid (Rd.mono HG.out hbH)
        clear HG
        clear k0_0 k0_1 k1_0 k1_1 k2_0 k2_1
        have k0_0 := hs187.cellAt 0 rfl 0 rfl
        have k0_1 := hs187.cellAt 0 rfl 1 rfl
        have k1_0 := hs187.cellAt 1 rfl 0 rfl
        have k1_1 := hs187.cellAt 1 rfl 1 rfl
        have k2_0 := hs187.cellAt 2 rfl 0 rfl
        have k2_1 := hs187.cellAt 2 rfl 1 rfl
        have HM := Lib.hid frH.rd
        clear frH
        go_wp2_with fail
        refine (A2Same_t ML _ _ _ HG_194.out HM.out).mono ?_
        rintro e wS ⟨rfl, hbS⟩
        clear HG_194
        have hz_wS : wH.heap.size ≤ wS.heap.size := by have h9 := hbS.size; (try simp at h9); omega
        have hs195 := hs187.step hbS
        have q0_196 := cellL hbS q0_188
        clear q0_188
        have HT_197 := Lib.hid (Rd.mono HT_189.out hbS)
        clear HT_189
        have HX_198 := Lib.hid (Rd.mono HX_190.out hbS)
        clear HX_190
        have HF_199 := Lib.hid (Rd.mono HF_191.out hbS)
        clear HF_191
        have HL_200 := Lib.hid (Rd.mono HL_192.out hbS)
        clear HL_192
        have HP_201 := Lib.hid (Rd.mono HP_193.out hbS)
        clear HP_193
        have HM_202 := Lib.hid (Rd.mono HM.out hbS)
        clear HM
        clear k0_0 k0_1 k1_0 k1_1 k2_0 k2_1
        have k0_0 := hs195.cellAt 0 rfl 0 rfl
        have k0_1 := hs195.cellAt 0 rfl 1 rfl
        have k1_0 := hs195.cellAt 1 rfl 0 rfl
        have k1_1 := hs195.cellAt 1 rfl 1 rfl
        have k2_0 := hs195.cellAt 2 rfl 0 rfl
        have k2_1 := hs195.cellAt 2 rfl 1 rfl
        go_wp2_with fail
        have HST := Lib.hid hs195
        have HPQ := Lib.hid HP_201.out
        have HMQ := Lib.hid HM_202.out
        have hMLl : ML.length = U := HLF.out.1
        have HMLL := Lib.hid hMLl
        clear hMLl
        have hzq := hs195.hi
        go_loopw [25] (fun i wl => ∃ j : Nat, 1 ≤ j ∧ j ≤ U ∧ i = .int .i64 j ∧ Hid (Below wS.heap.size wS wl)) (fun i _ => U - (intOf i).toNat)
        case atStart => exact ⟨1, by omega, by omega, rfl, Below.refl _ _⟩
        case round =>
          obtain ⟨j, hj1, hjU, rfl, hbl⟩ := hrel
          have hsr := HST.out.step hbl.out
          have HBQ := hbl
          clear hbl
          have k0_0 := hsr.cellAt 0 rfl 0 rfl
          have k0_1 := hsr.cellAt 0 rfl 1 rfl
          have k1_0 := hsr.cellAt 1 rfl 0 rfl
          have k1_1 := hsr.cellAt 1 rfl 1 rfl
          have k2_0 := hsr.cellAt 2 rfl 0 rfl
          have k2_1 := hsr.cellAt 2 rfl 1 rfl
          by_cases hlj : j < U
          · have hljI : (j : Int) < U := by omega
            go_wp2_with fail
            go_loopw [26] (fun i wl => ∃ i9 : Nat, i9 ≤ j ∧ i = .int .i64 i9 ∧ Hid (Below wS.heap.size wS wl)) (fun i _ => j - (intOf i).toNat)
            case atStart => exact ⟨0, by omega, rfl, HBQ.out⟩
            case round =>
              clear HBQ
              obtain ⟨i9, hij, rfl, hbl⟩ := hrel
              have hsi := HST.out.step hbl.out
              have HP := Lib.hid (Rd.mono HPQ.out hbl.out)
              have HM := Lib.hid (Rd.mono HMQ.out hbl.out)
              have HBQ := hbl
              clear hbl
              have k0_0 := hsi.cellAt 0 rfl 0 rfl
              have k0_1 := hsi.cellAt 0 rfl 1 rfl
              have k1_0 := hsi.cellAt 1 rfl 0 rfl
              have k1_1 := hsi.cellAt 1 rfl 1 rfl
              have k2_0 := hsi.cellAt 2 rfl 0 rfl
              have k2_1 := hsi.cellAt 2 rfl 1 rfl
              by_cases hli : i9 < j
              · have hliI : (i9 : Int) < j := by omega
                have HLE := Lib.hid (show i9 + 1 ≤ j from hli)
                have HWI := Lib.hid (i64_in ((i9 : Int) + 1) (by omega))
                have HCI := Lib.hid (show ((i9 + 1 : Nat) : Int) = (i9 : Int) + 1 from rfl)
                have hmi : i9 < ML.length := by rw [HMLL.out]; omega
                have hmj : j < ML.length := by rw [HMLL.out]; omega
                have hmiI : (i9 : Int) < ML.length := by omega
                have hmjI : (j : Int) < ML.length := by omega
                have hpl := HPS.out.lt hli hlj
                have hplI : (pidx i9 j : Int) < P.length := by omega
                have hp0 : (0 : Int) ≤ (pidx i9 j : Int) := by omega
                have HHAS := Lib.hid (left_has (ps := P) (a := ML.getD i9 0) (b := ML.getD j 0) hli (HLF.out.2.left j hmj i9 hli))
                have HROK := Lib.hid (HPS.out.ok _ (getD_mem (0, []) hpl)).1
                go_wp2_with fail
                refine (PairIndex_c U i9 j _ hUU.2 hli hlj).mono ?_
                rintro e w7 ⟨rfl, hb7⟩
                have hz_w7 : wr.heap.size ≤ w7.heap.size := by have h9 := hb7.size; (try simp at h9); omega
                have hs203 := hsi.step hb7
                have HP_204 := Lib.hid (Rd.mono HP.out hb7)
                clear HP
                have HM_205 := Lib.hid (Rd.mono HM.out hb7)
                clear HM
                have HBQ_206 := Lib.hid (HBQ.out.trans ((hb7).mono HBQ.out.size))
                clear HBQ
                clear k0_0 k0_1 k1_0 k1_1 k2_0 k2_1
                have k0_0 := hs203.cellAt 0 rfl 0 rfl
                have k0_1 := hs203.cellAt 0 rfl 1 rfl
                have k1_0 := hs203.cellAt 1 rfl 0 rfl
                have k1_1 := hs203.cellAt 1 rfl 1 rfl
                have k2_0 := hs203.cellAt 2 rfl 0 rfl
                have k2_1 := hs203.cellAt 2 rfl 1 rfl
                obtain ⟨aP9, cP9, eP, hslP⟩ := rd_list HP_204.out
                simp only [Value.slice.injEq] at eP
                obtain ⟨rfl, -, rfl⟩ := eP
                obtain ⟨bP, oP, r0, r1, rfl, x0, x1, hy⟩ := rdSl_two rfl hslP (pidx i9 j) hpl
                rw [show P[pidx i9 j] = P.getD (pidx i9 j) (0, []) by simp [List.getD, hpl]] at hy
                have hpx : 0 ≤ pidx i9 j := Nat.zero_le _
                obtain ⟨bM, oM, rfl, m0, hI0⟩ := rd_int_at HM_205.out i9 hmi
                obtain ⟨bM', oM', eM, m1, hI1⟩ := rd_int_at HM_205.out j hmj
                simp only [Option.some.injEq, Addr.mk.injEq, and_true] at eM
                obtain ⟨rfl, rfl⟩ := eM
                rw [show ML.getD i9 0 = ML[i9] by simp [List.getD, hmi], show ML.getD j 0 = ML[j] by simp [List.getD, hmj]] at HHAS
                generalize P.getD (pidx i9 j) (0, []) = RP at *
                generalize pidx i9 j = PX at *
                obtain ⟨ra, rt⟩ := RP
                have hy0 := rd_cons rfl hy
                obtain ⟨rfl, _⟩ := rd_i1 hy0.1
                obtain ⟨a5, c5, rfl, _⟩ := rd_list hy0.2
                have HR := Lib.hid hy
                clear hy hy0 hslP
                generalize ML[i9] = MI at *
                generalize ML[j] = MJ at *
                clear HP_204
                clear HM_205
                go_upto_region 34 with fail
                refine wp_region_noPanic (wp_region_tree4 (fun w' => w'.cell? ⟨wK.heap.size, 0, none⟩ = some (.int .i64 size) ∧ w'.cell? ⟨wK.heap.size, 1, none⟩ = some (.slice aT rs.length cT) ∧ w'.cell? ⟨wK.heap.size + 1, 0, none⟩ = some (.int .i64 U) ∧ w'.cell? ⟨wK.heap.size + 1, 1, none⟩ = some (.slice aX l.length cX) ∧ w'.cell? ⟨w2.heap.size, 0, none⟩ = some (.int .i64 far) ∧ w'.cell? ⟨w2.heap.size, 1, none⟩ = some (.slice af ftb.length cf) ∧ w'.cell? ⟨bP, oP + PX * 2, none⟩ = some (.int .i64 ra) ∧ w'.cell? ⟨bP, oP + PX * 2 + 1, none⟩ = some (.slice a5 rt.length c5) ∧ w'.cell? ⟨bM, oM + i9, none⟩ = some (.int .i64 MI) ∧ w'.cell? ⟨bM, oM + j, none⟩ = some (.int .i64 MJ)) (.float 0 (.float 1 (.float 2 (.float 3 (.float 4 (.float 5 (.float 6 (.float 7 (.float 8 (.float 9 (.float 10 (.float 11 (.float 12 (.float 13 (.hard 14 (.hard 15 (.float 16 (.float 17 (.float 18 (.float 19 (.float 20 .nil))))))))))))))))))))) (by kernel_rfl) (by kernel_rfl) (by kernel_rfl) rfl ?_ (fun _ _ _ _ _ h => h) ?_)
                · exact ⟨(hs203.drew).cellAt 0 rfl 0 rfl, (hs203.drew).cellAt 0 rfl 1 rfl, (hs203.drew).cellAt 1 rfl 0 rfl, (hs203.drew).cellAt 1 rfl 1 rfl, (hs203.drew).cellAt 2 rfl 0 rfl, (hs203.drew).cellAt 2 rfl 1 rfl, cellL (belowD _) x0, cellL (belowD _) x1, cellL (belowD _) m0, cellL (belowD _) m1⟩
                have hs207 := hs203.drew
                have x0_208 := cellL (belowD _) x0
                clear x0
                have x1_209 := cellL (belowD _) x1
                clear x1
                have m0_210 := cellL (belowD _) m0
                clear m0
                have m1_211 := cellL (belowD _) m1
                clear m1
                have HBQ_212 := Lib.hid (HBQ_206.out.trans (((belowD _)).mono HBQ_206.out.size))
                clear HBQ_206
                have HR_213 := Lib.hid (Rd.mono HR.out (belowD _))
                clear HR
                clear k0_0 k0_1 k1_0 k1_1 k2_0 k2_1
                have hz_wd214 : w7.heap.size ≤ (w7.drew).heap.size := by simp
                generalize hgen_wd214 : w7.drew = wd214 at *
                have HG_wd214 := Lib.hid hgen_wd214
                clear hgen_wd214
                (repeat (first | (apply t4_skip rfl (by rfl); try simp only [Act.put, List.setIfInBounds_toArray, List.set_cons_zero, List.set_cons_succ]) | (apply t4_float rfl (by rfl); (· (intro w' hS; go_simp <;> with_reducible rfl)); (try simp only [Act.put, List.setIfInBounds_toArray, List.set_cons_zero, List.set_cons_succ]))))
                refine t4_hard rfl (by rfl) (fun K hK => ?_)
                go_wp2_with fail
                have hs215 := hs207.alloc #[.int .i64 MI, .int .i64 MJ] 2 (n := wd214.heap.size) (by simp)
                have x0_216 := cellL (belowA _ (.cells #[.int .i64 MI, .int .i64 MJ] 2)) x0_208
                clear x0_208
                have x1_217 := cellL (belowA _ (.cells #[.int .i64 MI, .int .i64 MJ] 2)) x1_209
                clear x1_209
                have m0_218 := cellL (belowA _ (.cells #[.int .i64 MI, .int .i64 MJ] 2)) m0_210
                clear m0_210
                have m1_219 := cellL (belowA _ (.cells #[.int .i64 MI, .int .i64 MJ] 2)) m1_211
                clear m1_211
                have HBQ_220 := Lib.hid (HBQ_212.out.trans (((belowA _ (.cells #[.int .i64 MI, .int .i64 MJ] 2))).mono HBQ_212.out.size))
                clear HBQ_212
                have HR_221 := Lib.hid (Rd.mono HR_213.out (belowA _ (.cells #[.int .i64 MI, .int .i64 MJ] 2)))
                clear HR_213
                have HE6 := Lib.hid (Own.rd (lit_done (lit_cons (lit_int hI0) (lit_cons (lit_int hI1) lit_nil)) (hs215.box (wd214.heap.size, #[.int .i64 MI, .int .i64 MJ], 2) (by simp)).2.2 rfl (by simp)))
                refine ⟨⟨hs215.cellAt 0 rfl 0 rfl, hs215.cellAt 0 rfl 1 rfl, hs215.cellAt 1 rfl 0 rfl, hs215.cellAt 1 rfl 1 rfl, hs215.cellAt 2 rfl 0 rfl, hs215.cellAt 2 rfl 1 rfl, x0_216, x1_217, m0_218, m1_219⟩, ?_⟩
                (repeat (first | (apply t4_skip rfl (by rfl); try simp only [Act.put, List.setIfInBounds_toArray, List.set_cons_zero, List.set_cons_succ]) | (apply t4_float rfl (by rfl); (· (intro w' hS; go_simp <;> with_reducible rfl)); (try simp only [Act.put, List.setIfInBounds_toArray, List.set_cons_zero, List.set_cons_succ]))))
                refine t4_hard rfl (by rfl) (fun K hK => ?_)
                go_wp2_with (go_at_call 16; refine (HasTuple_c size (ra, rt) [MI, MJ] _ _ _ _ HR_221.out HE6.out HROK.out).mono ?_; rintro e w222 ⟨rfl, hbw222⟩)
                have hz_w222 : wd214.heap.size + 1 ≤ w222.heap.size := by have h9 := hbw222.size; (try simp at h9); omega
                have hs223 := hs215.step hbw222
                have x0_224 := cellL hbw222 x0_216
                clear x0_216
                have x1_225 := cellL hbw222 x1_217
                clear x1_217
                have m0_226 := cellL hbw222 m0_218
                clear m0_218
                have m1_227 := cellL hbw222 m1_219
                clear m1_219
                have HBQ_228 := Lib.hid (HBQ_220.out.trans ((hbw222).mono HBQ_220.out.size))
                clear HBQ_220
                have HR_229 := Lib.hid (Rd.mono HR_221.out hbw222)
                clear HR_221
                rw [HHAS.out]
                clear HE6
                refine ⟨⟨hs223.cellAt 0 rfl 0 rfl, hs223.cellAt 0 rfl 1 rfl, hs223.cellAt 1 rfl 0 rfl, hs223.cellAt 1 rfl 1 rfl, hs223.cellAt 2 rfl 0 rfl, hs223.cellAt 2 rfl 1 rfl, x0_224, x1_225, m0_226, m1_227⟩, ?_⟩
                (repeat (first | (apply t4_skip rfl (by rfl); try simp only [Act.put, List.setIfInBounds_toArray, List.set_cons_zero, List.set_cons_succ]) | (apply t4_float rfl (by rfl); (· (intro w' hS; go_simp <;> with_reducible rfl)); (try simp only [Act.put, List.setIfInBounds_toArray, List.set_cons_zero, List.set_cons_succ]))))
                have k0_0 := hs223.cellAt 0 rfl 0 rfl
                have k0_1 := hs223.cellAt 0 rfl 1 rfl
                have k1_0 := hs223.cellAt 1 rfl 0 rfl
                have k1_1 := hs223.cellAt 1 rfl 1 rfl
                have k2_0 := hs223.cellAt 2 rfl 0 rfl
                have k2_1 := hs223.cellAt 2 rfl 1 rfl
                have k3_0 := hs223.cellAt 3 rfl 0 rfl
                have k3_1 := hs223.cellAt 3 rfl 1 rfl
                refine t4_nil (NoPanic.normal ?_)
                have HBR := Lib.hid HBQ_228.out
                go_wp2_with fail
                go_roundw
                case rel => exact ⟨i9 + 1, HLE.out, (by first | rfl | (rw [HWI.out]; rfl) | (simp only [HWI.out, HCI.out])), HBR.out⟩
                case measure => simp [intOf]; omega
              · have hni : ¬ ((i9 : Int) < j) := by omega
                clear hli
                go_wp2_with fail
                go_roundw
                case rel => exact ⟨j + 1, by omega, by omega, by go_num, HBQ.out⟩
                case measure => simp [intOf]; omega
          · have hnj : ¬ ((j : Int) < U) := by omega
            rw [HMLL.out]
            clear hlj
            go_wp2_with fail
            go_ret
            exact ⟨by simp, hsr.bel⟩

end Go.Proofs.YtllenfkbfeanmaaGreat

