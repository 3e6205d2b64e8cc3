import Derived.Test.YtpkdiiagnplpkaaGreatMajBQm
import Derived.Test.YtpkdiiagnplpkaaGreatTernKQm
import Derived.Test.YtpkdiiagnplpkaaGreatMakePQm
set_option linter.unusedSimpArgs false
set_option linter.unusedVariables false
set_option maxHeartbeats 16000000
set_option maxRecDepth 100000
namespace Go.Proofs.YtpkdiiagnplpkaaGreat
open Go.RowKit Go.Shelf Go.IntWalk
open Rep (Rd Own sz)
theorem SolveByMajority_c (t : Tmpl) (t0 t1 : Value) (x : Inst) (x0 x1 : Value) (f : OpT) (f0 f1 : Value) (w : World) (ht : Rd w [t0, t1] t) (hx : Rd w [x0, x1] x) (hf : Rd w [f0, f1] f) :
 Calls Tryz.prog 11 #[.agg #[t0, t1], .agg #[x0, x1], .agg #[f0, f1]] w fun e w' => ∃ u0 u1 u2 u3 u4, e = .returned (.tuple #[.agg #[u0, u1, u2, u3, u4], .int .i64 (majF t x f).2]) ∧ Fresh w.heap.size w' [u0, u1, u2, u3, u4] (majF t x f).1 ∧ Below w.heap.size w w' := by
 obtain ⟨size, rs⟩ := t
 obtain ⟨vars, cs⟩ := x
 obtain ⟨fa, ft⟩ := f
 have HT := qH ht
 have HX := qH hx
 have HF := qH hf
 have zt := rd_cons rfl ht
 obtain ⟨rfl, _⟩ := rd_i1 zt.1
 obtain ⟨at0, ct0, rfl, _⟩ := rd_list zt.2
 have zx := rd_cons rfl hx
 obtain ⟨rfl, _⟩ := rd_i1 zx.1
 obtain ⟨ax, cx, rfl, _⟩ := rd_list zx.2
 have zf := rd_cons rfl hf
 obtain ⟨rfl, _⟩ := rd_i1 zf.1
 obtain ⟨af, cf, rfl, _⟩ := rd_list zf.2
 have HRS := qH zt.2
 have HCS := qH zx.2
 clear ht hx hf zt zx zf
 have hs1 := (St.start w).alloc #[.int .i64 size, .slice at0 rs.length ct0] 42 (n := w.heap.size) (by simp)
 obtain ⟨k0_0, k0_1⟩ := hs1.c2 0 0 0 1
 have hs2 := hs1.alloc #[.int .i64 vars, .slice ax cs.length cx] 46 (n := w.heap.size + 1) (by simp)
 clear k0_0 k0_1
 obtain ⟨k0_0, k0_1, k1_0, k1_1⟩ := hs2.c4 0 0 0 1 1 0 1 1
 have hs3 := hs2.alloc #[.int .i64 fa, .slice af ft.length cf] 48 (n := w.heap.size + 1 + 1) (by simp)
 clear k0_0 k0_1 k1_0 k1_1
 obtain ⟨k0_0, k0_1, k1_0, k1_1, k2_0, k2_1⟩ := hs3.c6 0 0 0 1 1 0 1 1 2 0 2 1
 have hs4 := hs3.alloc #[.int .i64 0, .slice none 0 0, .slice none 0 0, .slice none 0 0, .slice none 0 0] 37 (n := w.heap.size + 1 + 1 + 1) (by simp)
 clear k0_0 k0_1 k1_0 k1_1 k2_0 k2_1
 obtain ⟨k0_0, k0_1, k1_0, k1_1, k2_0, k2_1, k3_0, k3_1⟩ := hs4.c8 0 0 0 1 1 0 1 1 2 0 2 1 3 0 3 1
 obtain ⟨k3_2, k3_3, k3_4⟩ := hs4.c3 3 2 3 3 3 4
 go_enter Tryz.func11, Tryz.ntmps11
 go_wp2_with fail
 refine (solverFaultM_c (size, rs) (vars, cs) (fa, ft) _ _ _ _ _ _ _ (Rd.mono HT.out hs4.bel) (Rd.mono HX.out hs4.bel) (Rd.mono HF.out hs4.bel)).mono ?_
 rintro e w5 ⟨rfl, hbw5⟩
 have hz_w5 : w.heap.size + 1 + 1 + 1 + 1 ≤ w5.heap.size := by have h9 := hbw5.size; (try simp at h9); omega
 have hs6 := hs4.step hbw5
 clear k0_0 k0_1 k1_0 k1_1 k2_0 k2_1 k3_0 k3_1 k3_2 k3_3 k3_4
 obtain ⟨k0_0, k0_1, k1_0, k1_1, k2_0, k2_1, k3_0, k3_1⟩ := hs6.c8 0 0 0 1 1 0 1 1 2 0 2 1 3 0 3 1
 obtain ⟨k3_2, k3_3, k3_4⟩ := hs6.c3 3 2 3 3 3 4
 by_cases h0 : wayF (majB size (fa, ft)) (size, rs) (vars, cs) (fa, ft) = 0
 · obtain ⟨h1, h2, h3⟩ := wayF_0 h0
   have hs := (tmplOk_get (instOk_get h1).1).1
   have hv := (instOk_get h1).2.1
   simp only at hs hv h2
   obtain ⟨sn, rfl⟩ : ∃ n : Nat, size = (n : Int) := ⟨size.toNat, by omega⟩
   obtain ⟨V, rfl⟩ : ∃ n : Nat, vars = (n : Int) := ⟨vars.toNat, by omega⟩
   have H0 := qH (show majF ((sn : Int), rs) ((V : Int), cs) (fa, ft) = if (V : Int) = 1 then majA (arcsF ((sn : Int), rs) ((V : Int), cs) (fullD sn V)) else majP sn V (pairsF ((sn : Int), rs) ((V : Int), cs)) by unfold majF; rw [if_pos h0]; simp only [Int.toNat_natCast])
   have HFF := qH (full_facts (sn := sn) (V := V) h1 rfl rfl)
   have HOKI := qH h1
   rw [h0]
   clear h0 h1 h2 h3
   by_cases hV1 : V = 1
   · have hvb : ((V : Int) == 1) = true := by rw [hV1]; rfl
     have hvp : (0 : Int) < V := by omega
     have H0A := qH (show majF ((sn : Int), rs) ((V : Int), cs) (fa, ft) = majA (arcsF ((sn : Int), rs) ((V : Int), cs) (fullD sn V)) by rw [H0.out, if_pos (by omega)])
     have HV1 := qH hV1
     clear hV1 H0
     go_wp2_with fail
     refine (fullDomains_c sn V rs cs _ _ _ (Rd.mono HRS.out hs6.bel) (Rd.mono HCS.out hs6.bel) (by omega) (by omega)).mono ?_
     rintro e wD5 ⟨v5, rfl, hac, hb5⟩
     obtain ⟨g2, c2, rfl⟩ := accP_form hac (by rw [HFF.out.len]; omega)
     rw [HFF.out.len] at hac ⊢
     have HDI := qH hac.ip
     have HB5 := qH hb5
     obtain ⟨wB, hwB⟩ : ∃ x, x = w5 := ⟨_, rfl⟩
     have HSB := qH (show St w (w.heap.size + 1 + 1 + 1 + 1) wB _ from by rw [hwB]; exact hs6.up (by omega) hs6.hi)
     have HTB := qH (Rd.mono HT.out hs6.bel)
     have HXB := qH (Rd.mono HX.out hs6.bel)
     rw [← hwB] at HDI HB5 HTB HXB
     clear hac hb5 hwB
     have hsD := HSB.out.step HB5.out
     obtain ⟨k0_0, k0_1, k1_0, k1_1, k2_0, k2_1, k3_0, k3_1⟩ := hsD.c8 0 0 0 1 1 0 1 1 2 0 2 1 3 0 3 1
     obtain ⟨k3_2, k3_3, k3_4⟩ := hsD.c3 3 2 3 3 3 4
     go_wp2_with fail
     refine (makeArcs_c ((sn : Int), rs) ((V : Int), cs) (fullD sn V) _ _ _ _ g2 c2 V (lensA (fullD sn V)) (fun z => wB.heap.size ≤ z) wB wD5 HB5.out HTB.out HXB.out HFF.out.f.inst HDI.out (fun z hz => hz) (by have h := HFF.out.f.ok; rw [HFF.out.len] at h; exact h) rfl (by have := HFF.out.f.forty; omega)).mono ?_
     rintro e wA6 ⟨gs, co, rfl, hA⟩
     have hA : ArcW wB _ _ _ _ _ _ _ _ gs co (arcsF ((sn : Int), rs) ((V : Int), cs) (fullD sn V)) := hA
     have HAW := qH hA
     have HI3 := qH HFF.out.i64
     have HIN := qH HFF.out.inn
     have hlB := HSB.out.hi
     have hl0 := HSB.out.lo
     have hs6 := HSB.out.step (hA.bel)
     have hz6 := hA.bel.size
     show _
     have eAF : (arcsA ((sn : Int), rs).2 ((V : Int), cs).2 (lensA (fullD sn V) + 1) (fullD sn V, [])) = arcsF ((sn : Int), rs) ((V : Int), cs) (fullD sn V) := rfl
     rw [eAF]
     clear hA eAF
     generalize arcsF ((sn : Int), rs) ((V : Int), cs) (fullD sn V) = AF at *
     obtain ⟨k0_0, k0_1, k1_0, k1_1, k2_0, k2_1, k3_0, k3_1⟩ := hs6.c8 0 0 0 1 1 0 1 1 2 0 2 1 3 0 3 1
     obtain ⟨k3_2, k3_3, k3_4⟩ := hs6.c3 3 2 3 3 3 4
     have HDR := qH HAW.out.rd
     have HFS := qH (Fresh.lower (fresh_tail rfl (arcW_fresh HAW.out HI3.out (lo := wB.heap.size) (HB5.out.size) (fun z hz => hz))) (show w.heap.size + 1 + 1 + 1 + 1 ≤ wB.heap.size by omega))
     obtain ⟨D, hD⟩ : ∃ D, AF.1 = [D] := by
      have h1 : AF.1.length = 1 := by rw [HIN.out.len]; exact HV1.out
      match AF.1, h1 with
      | [D], _ => exact ⟨D, rfl⟩
     have hdm := HAW.out.dom
     rw [hD] at hdm
     obtain ⟨vd, q0, hv⟩ := ip_elem hdm rfl 0 (by simp)
     obtain ⟨aD, cD, rfl, hdr⟩ := rd_list hv.rd
     rw [List.getElem_cons_zero] at hv hdr q0
     have hlD := (rdSl_len hdr)
     have HMA := qH (show majF ((sn : Int), rs) ((V : Int), cs) (fa, ft) = if decide (D.length = 0) = true then ((1, [], AF.2, [], []), 0) else ((0, [D.getD 0 0], [], [], []), 0) by
      rw [H0A.out]; unfold majA goneD; rw [hD]; simp)
     have HV := qH hv
     have q9 := q0
     rw [Nat.zero_add] at q9
     clear hdm hv hdr q0 hD
     by_cases hd0 : D.length = 0
     · have hdb : ((D.length : Int) == 0) = true := by rw [hd0]; rfl
       have H5 := qH (show majF ((sn : Int), rs) ((V : Int), cs) (fa, ft) = ((1, [], AF.2, [], []), 0) by rw [HMA.out, if_pos (decide_eq_true hd0)])
       clear hd0
       have g0 := (hs6.freeAt 3 rfl 0)
       have g1 := (hs6.freeAt 3 rfl 1)
       have g2 := (hs6.freeAt 3 rfl 2)
       have g3 := (hs6.freeAt 3 rfl 3)
       have g4 := (hs6.freeAt 3 rfl 4)
       have hs9 := (((((hs6.set (p := [_, _, _]) (by simp <;> omega) 0 (.int .i64 1)).set (p := [_, _, _]) (by simp <;> omega) 1 (.slice none 0 0)).set (p := [_, _, _]) (by simp <;> omega) 2 (.slice (some ⟨gs, 0, none⟩) AF.2.length co)).set (p := [_, _, _]) (by simp <;> omega) 3 (.slice none 0 0)).set (p := [_, _, _]) (by simp <;> omega) 4 (.slice none 0 0))
       have HB9 := qH hs9.bel
       obtain ⟨y0, y1, y2, y3, y4⟩ := hs9.c5 3 0 3 1 3 2 3 3 3 4
       have HFR := qH (show Fresh w.heap.size (((((wA6.setCell ⟨w.heap.size + 1 + 1 + 1, 0, none⟩ (.int .i64 1)).setCell ⟨w.heap.size + 1 + 1 + 1, 1, none⟩ (.slice none 0 0)).setCell ⟨w.heap.size + 1 + 1 + 1, 2, none⟩ (.slice (some ⟨gs, 0, none⟩) AF.2.length co)).setCell ⟨w.heap.size + 1 + 1 + 1, 3, none⟩ (.slice none 0 0)).setCell ⟨w.heap.size + 1 + 1 + 1, 4, none⟩ (.slice none 0 0)) [.int .i64 1, .slice none 0 0, .slice (some ⟨gs, 0, none⟩) AF.2.length co, .slice none 0 0, .slice none 0 0] ((1, [], AF.2, [], []) : Vdct) from ((((((fresh_vdA (i64_of 1 (by decide) (by decide)) HFS.out).setCell (a := ⟨w.heap.size + 1 + 1 + 1, 0, none⟩) (by simp <;> omega) (.int .i64 1)).setCell (a := ⟨w.heap.size + 1 + 1 + 1, 1, none⟩) (by simp <;> omega) (.slice none 0 0)).setCell (a := ⟨w.heap.size + 1 + 1 + 1, 2, none⟩) (by simp <;> omega) (.slice (some ⟨gs, 0, none⟩) AF.2.length co)).setCell (a := ⟨w.heap.size + 1 + 1 + 1, 3, none⟩) (by simp <;> omega) (.slice none 0 0)).setCell (a := ⟨w.heap.size + 1 + 1 + 1, 4, none⟩) (by simp <;> omega) (.slice none 0 0)).lower (by omega))
       clear hs9
       go_wp2_with fail
       refine bodyPost_ret (v := .tuple #[.agg #[.int .i64 1, .slice none 0 0, .slice (some ⟨gs, 0, none⟩) AF.2.length co, .slice none 0 0, .slice none 0 0], .int .i64 0]) (by simp [results, Tryz.results11, go_sem, y0, y1, y2, y3, y4]) rfl ⟨_, _, _, _, _, by rw [H5.out], ?_, HB9.out⟩
       rw [H5.out]; exact HFR.out
     · have hdb : ((D.length : Int) == 0) = false := by rw [beq_eq_false_iff_ne]; omega
       obtain ⟨z, m, rfl⟩ : ∃ z m, D = z :: m := by
        match D, hd0 with
        | z :: m, _ => exact ⟨z, m, rfl⟩
       have H5 := qH (show majF ((sn : Int), rs) ((V : Int), cs) (fa, ft) = ((0, [z], [], [], []), 0) by rw [HMA.out, if_neg (by simp)]; rfl)
       obtain ⟨gD, oD, cD2, cur, eD, heq, -⟩ := ip_form HV.out (by simp)
       simp only [Value.slice.injEq] at heq
       obtain ⟨rfl, -, rfl⟩ := heq
       have HFV := qH (show Fresh (w.heap.size + 1 + 1 + 1 + 1) wA6 [.slice (some ⟨gD, oD, none⟩) 1 1] [z] from (ip_head1 HV.out).fresh (fun k hk => by
        have h5 := HB5.out.size
        rcases hk.1.1 with h | h <;> omega))
       have hc1 : (1 : Int) ≤ cD := by have := hlD.1; simp at this; omega
       clear hd0
       go_wp2_with fail
       refine (solution_c _ _ _ _).mono ?_
       rintro e w7 ⟨rfl, hbw7⟩
       have hz_w7 : wA6.heap.size ≤ w7.heap.size := by have h9 := hbw7.size; (try simp at h9); omega
       have hs8 := hs6.step hbw7
       have q9_9 := qC hbw7 q9
       clear q9
       clear HFS
       have HFV_11 := qH (Fresh.mono HFV.out hbw7)
       clear HFV
       clear k0_0 k0_1 k1_0 k1_1 k2_0 k2_1 k3_0 k3_1 k3_2 k3_3 k3_4
       obtain ⟨k0_0, k0_1, k1_0, k1_1, k2_0, k2_1, k3_0, k3_1⟩ := hs8.c8 0 0 0 1 1 0 1 1 2 0 2 1 3 0 3 1
       obtain ⟨k3_2, k3_3, k3_4⟩ := hs8.c3 3 2 3 3 3 4
       have g0 := (hs8.freeAt 3 rfl 0)
       have g1 := (hs8.freeAt 3 rfl 1)
       have g2 := (hs8.freeAt 3 rfl 2)
       have g3 := (hs8.freeAt 3 rfl 3)
       have g4 := (hs8.freeAt 3 rfl 4)
       have hs9 := (((((hs8.set (p := [_, _, _]) (by simp <;> omega) 0 (.int .i64 0)).set (p := [_, _, _]) (by simp <;> omega) 1 (.slice (some ⟨gD, oD, none⟩) 1 1)).set (p := [_, _, _]) (by simp <;> omega) 2 (.slice none 0 0)).set (p := [_, _, _]) (by simp <;> omega) 3 (.slice none 0 0)).set (p := [_, _, _]) (by simp <;> omega) 4 (.slice none 0 0))
       have HB9 := qH hs9.bel
       obtain ⟨y0, y1, y2, y3, y4⟩ := hs9.c5 3 0 3 1 3 2 3 3 3 4
       have HFR := qH (show Fresh w.heap.size (((((w7.setCell ⟨w.heap.size + 1 + 1 + 1, 0, none⟩ (.int .i64 0)).setCell ⟨w.heap.size + 1 + 1 + 1, 1, none⟩ (.slice (some ⟨gD, oD, none⟩) 1 1)).setCell ⟨w.heap.size + 1 + 1 + 1, 2, none⟩ (.slice none 0 0)).setCell ⟨w.heap.size + 1 + 1 + 1, 3, none⟩ (.slice none 0 0)).setCell ⟨w.heap.size + 1 + 1 + 1, 4, none⟩ (.slice none 0 0)) [.int .i64 0, .slice (some ⟨gD, oD, none⟩) 1 1, .slice none 0 0, .slice none 0 0, .slice none 0 0] ((0, [z], [], [], []) : Vdct) from ((((((fresh_vd (i64_of 0 (by decide) (by decide)) HFV_11.out).setCell (a := ⟨w.heap.size + 1 + 1 + 1, 0, none⟩) (by simp <;> omega) (.int .i64 0)).setCell (a := ⟨w.heap.size + 1 + 1 + 1, 1, none⟩) (by simp <;> omega) (.slice (some ⟨gD, oD, none⟩) 1 1)).setCell (a := ⟨w.heap.size + 1 + 1 + 1, 2, none⟩) (by simp <;> omega) (.slice none 0 0)).setCell (a := ⟨w.heap.size + 1 + 1 + 1, 3, none⟩) (by simp <;> omega) (.slice none 0 0)).setCell (a := ⟨w.heap.size + 1 + 1 + 1, 4, none⟩) (by simp <;> omega) (.slice none 0 0)).lower (by omega))
       clear hs9
       go_wp2_with fail
       refine bodyPost_ret (v := .tuple #[.agg #[.int .i64 0, .slice (some ⟨gD, oD, none⟩) 1 1, .slice none 0 0, .slice none 0 0, .slice none 0 0], .int .i64 0]) (by simp [results, Tryz.results11, go_sem, y0, y1, y2, y3, y4]) rfl ⟨_, _, _, _, _, by rw [H5.out], ?_, HB9.out⟩
       rw [H5.out]; exact HFR.out
   · have hvb : ((V : Int) == 1) = false := by rw [beq_eq_false_iff_ne]; omega
     have H0B := qH (show majF ((sn : Int), rs) ((V : Int), cs) (fa, ft) = majP sn V (pairsF ((sn : Int), rs) ((V : Int), cs)) by rw [H0.out, if_neg (by omega)])
     have HI3 := qH (pairs_i64 (pairsF_ok ((sn : Int), rs) ((V : Int), cs)) (by simp only [Int.toNat_natCast]; omega))
     have HPO := qH (pairsOk_made hs (pairsF_ok ((sn : Int), rs) ((V : Int), cs)).ok (by simp only [Int.toNat_natCast]; omega))
     clear hV1 H0
     go_wp2_with fail
     have hs0 := hs6
     refine (makePairs_c ((sn : Int), rs) ((V : Int), cs) V _ _ _ _ _ (Rd.mono HT.out hs6.bel) (Rd.mono HX.out hs6.bel) HOKI.out rfl).mono ?_
     rintro e wA6 ⟨vp, gs, co, rfl, hA⟩
     have hs6 := hs0.step (hA.bel)
     have hz6 := hA.bel.size
     have hl0 := hs0.hi
     have HDR := qH hA.dom.rd
     have HFS := qH (Fresh.lower (fresh_tail rfl (pairW_fresh hA HI3.out)) hs0.hi)
     clear hA
     generalize pairsF ((sn : Int), rs) ((V : Int), cs) = PF at *
     simp only [Int.toNat_natCast] at HPO
     obtain ⟨ap, cp, rfl, _⟩ := rd_list HDR.out
     obtain ⟨k0_0, k0_1, k1_0, k1_1, k2_0, k2_1, k3_0, k3_1⟩ := hs6.c8 0 0 0 1 1 0 1 1 2 0 2 1 3 0 3 1
     obtain ⟨k3_2, k3_3, k3_4⟩ := hs6.c3 3 2 3 3 3 4
     have egE : ∀ args w, (callFunc 42 args).run Tryz.prog w = .ok (.enter 42 args) w := enters_of Tryz.func42 (by kernel_rfl) rfl
     go_wp2_with fail
     refine (containsRels_c PF.1 _ 42 _ _ _ HDR.out egE (hasNone_by _ _)).mono ?_
     rintro e w12 ⟨rfl, hbw12⟩
     have hz_w12 : wA6.heap.size ≤ w12.heap.size := by have h9 := hbw12.size; (try simp at h9); omega
     have hs13 := hs6.step hbw12
     have HDR_14 := qH (Rd.mono HDR.out hbw12)
     clear HDR
     have HFS_15 := qH (Fresh.mono HFS.out hbw12)
     clear HFS
     clear k0_0 k0_1 k1_0 k1_1 k2_0 k2_1 k3_0 k3_1 k3_2 k3_3 k3_4
     obtain ⟨k0_0, k0_1, k1_0, k1_1, k2_0, k2_1, k3_0, k3_1⟩ := hs13.c8 0 0 0 1 1 0 1 1 2 0 2 1 3 0 3 1
     obtain ⟨k3_2, k3_3, k3_4⟩ := hs13.c3 3 2 3 3 3 4
     cases hg : PF.1.any (fun r => decide (r.2.length = 0)) with
     | true =>
      have H5 := qH (show majF ((sn : Int), rs) ((V : Int), cs) (fa, ft) = ((2, [], [], PF.2, []), 0) by rw [H0B.out]; unfold majP; rw [if_pos (show voidP PF.1 = true from hg)])
      clear hg
      have g0 := (hs13.freeAt 3 rfl 0)
      have g1 := (hs13.freeAt 3 rfl 1)
      have g2 := (hs13.freeAt 3 rfl 2)
      have g3 := (hs13.freeAt 3 rfl 3)
      have g4 := (hs13.freeAt 3 rfl 4)
      have hs9 := (((((hs13.set (p := [_, _, _]) (by simp <;> omega) 0 (.int .i64 2)).set (p := [_, _, _]) (by simp <;> omega) 1 (.slice none 0 0)).set (p := [_, _, _]) (by simp <;> omega) 2 (.slice none 0 0)).set (p := [_, _, _]) (by simp <;> omega) 3 (.slice (some ⟨gs, 0, none⟩) PF.2.length co)).set (p := [_, _, _]) (by simp <;> omega) 4 (.slice none 0 0))
      have HB9 := qH hs9.bel
      obtain ⟨y0, y1, y2, y3, y4⟩ := hs9.c5 3 0 3 1 3 2 3 3 3 4
      have HFR := qH (show Fresh w.heap.size (((((w12.setCell ⟨w.heap.size + 1 + 1 + 1, 0, none⟩ (.int .i64 2)).setCell ⟨w.heap.size + 1 + 1 + 1, 1, none⟩ (.slice none 0 0)).setCell ⟨w.heap.size + 1 + 1 + 1, 2, none⟩ (.slice none 0 0)).setCell ⟨w.heap.size + 1 + 1 + 1, 3, none⟩ (.slice (some ⟨gs, 0, none⟩) PF.2.length co)).setCell ⟨w.heap.size + 1 + 1 + 1, 4, none⟩ (.slice none 0 0)) [.int .i64 2, .slice none 0 0, .slice none 0 0, .slice (some ⟨gs, 0, none⟩) PF.2.length co, .slice none 0 0] ((2, [], [], PF.2, []) : Vdct) from ((((((fresh_vdP (i64_of 2 (by decide) (by decide)) HFS_15.out).setCell (a := ⟨w.heap.size + 1 + 1 + 1, 0, none⟩) (by simp <;> omega) (.int .i64 2)).setCell (a := ⟨w.heap.size + 1 + 1 + 1, 1, none⟩) (by simp <;> omega) (.slice none 0 0)).setCell (a := ⟨w.heap.size + 1 + 1 + 1, 2, none⟩) (by simp <;> omega) (.slice none 0 0)).setCell (a := ⟨w.heap.size + 1 + 1 + 1, 3, none⟩) (by simp <;> omega) (.slice (some ⟨gs, 0, none⟩) PF.2.length co)).setCell (a := ⟨w.heap.size + 1 + 1 + 1, 4, none⟩) (by simp <;> omega) (.slice none 0 0)).lower (by omega))
      clear hs9
      go_wp2_with fail
      refine bodyPost_ret (v := .tuple #[.agg #[.int .i64 2, .slice none 0 0, .slice none 0 0, .slice (some ⟨gs, 0, none⟩) PF.2.length co, .slice none 0 0], .int .i64 0]) (by simp [results, Tryz.results11, go_sem, y0, y1, y2, y3, y4]) rfl ⟨_, _, _, _, _, by rw [H5.out], ?_, HB9.out⟩
      rw [H5.out]; exact HFR.out
     | false =>
      have H6 := qH (show majF ((sn : Int), rs) ((V : Int), cs) (fa, ft) = if (greedyF sn V PF.1).2 then ((0, (greedyF sn V PF.1).1, [], [], []), 0) else (vd0, 6) by rw [H0B.out]; unfold majP; rw [if_neg (show ¬ voidP PF.1 = true from by show ¬ PF.1.any _ = true; rw [hg]; decide)])
      clear hg
      go_wp2_with fail
      refine (greedy_c sn V PF.1 _ _ HDR_14.out HPO.out (by omega)).mono ?_
      rintro e w16 ⟨vr, rfl, frr, hbw16⟩
      have hz_w16 : w12.heap.size ≤ w16.heap.size := by have h9 := hbw16.size; (try simp at h9); omega
      have hs17 := hs13.step hbw16
      have HDR_18 := qH (Rd.mono HDR_14.out hbw16)
      clear HDR_14
      have HFS_19 := qH (Fresh.mono HFS_15.out hbw16)
      clear HFS_15
      clear k0_0 k0_1 k1_0 k1_1 k2_0 k2_1 k3_0 k3_1 k3_2 k3_3 k3_4
      obtain ⟨k0_0, k0_1, k1_0, k1_1, k2_0, k2_1, k3_0, k3_1⟩ := hs17.c8 0 0 0 1 1 0 1 1 2 0 2 1 3 0 3 1
      obtain ⟨k3_2, k3_3, k3_4⟩ := hs17.c3 3 2 3 3 3 4
      have HFV := qH (frr.lower (show w.heap.size + 1 + 1 + 1 + 1 ≤ _ by omega))
      obtain ⟨ar, cr, rfl, _⟩ := rd_list frr.rd
      clear frr
      generalize greedyF sn V PF.1 = G at *
      obtain ⟨gl, gb⟩ := G
      simp only at HFV
      cases gb with
      | true =>
       have H5 := qH (show majF ((sn : Int), rs) ((V : Int), cs) (fa, ft) = ((0, gl, [], [], []), 0) by rw [H6.out]; rfl)
       go_wp2_with fail
       refine (solution_c _ _ _ _).mono ?_
       rintro e w20 ⟨rfl, hbw20⟩
       have hz_w20 : w16.heap.size ≤ w20.heap.size := by have h9 := hbw20.size; (try simp at h9); omega
       have hs21 := hs17.step hbw20
       clear HDR_18
       clear HFS_19
       have HFV_24 := qH (Fresh.mono HFV.out hbw20)
       clear HFV
       clear k0_0 k0_1 k1_0 k1_1 k2_0 k2_1 k3_0 k3_1 k3_2 k3_3 k3_4
       obtain ⟨k0_0, k0_1, k1_0, k1_1, k2_0, k2_1, k3_0, k3_1⟩ := hs21.c8 0 0 0 1 1 0 1 1 2 0 2 1 3 0 3 1
       obtain ⟨k3_2, k3_3, k3_4⟩ := hs21.c3 3 2 3 3 3 4
       have g0 := (hs21.freeAt 3 rfl 0)
       have g1 := (hs21.freeAt 3 rfl 1)
       have g2 := (hs21.freeAt 3 rfl 2)
       have g3 := (hs21.freeAt 3 rfl 3)
       have g4 := (hs21.freeAt 3 rfl 4)
       have hs9 := (((((hs21.set (p := [_, _, _]) (by simp <;> omega) 0 (.int .i64 0)).set (p := [_, _, _]) (by simp <;> omega) 1 (.slice ar gl.length cr)).set (p := [_, _, _]) (by simp <;> omega) 2 (.slice none 0 0)).set (p := [_, _, _]) (by simp <;> omega) 3 (.slice none 0 0)).set (p := [_, _, _]) (by simp <;> omega) 4 (.slice none 0 0))
       have HB9 := qH hs9.bel
       obtain ⟨y0, y1, y2, y3, y4⟩ := hs9.c5 3 0 3 1 3 2 3 3 3 4
       have HFR := qH (show Fresh w.heap.size (((((w20.setCell ⟨w.heap.size + 1 + 1 + 1, 0, none⟩ (.int .i64 0)).setCell ⟨w.heap.size + 1 + 1 + 1, 1, none⟩ (.slice ar gl.length cr)).setCell ⟨w.heap.size + 1 + 1 + 1, 2, none⟩ (.slice none 0 0)).setCell ⟨w.heap.size + 1 + 1 + 1, 3, none⟩ (.slice none 0 0)).setCell ⟨w.heap.size + 1 + 1 + 1, 4, none⟩ (.slice none 0 0)) [.int .i64 0, .slice ar gl.length cr, .slice none 0 0, .slice none 0 0, .slice none 0 0] ((0, gl, [], [], []) : Vdct) from ((((((fresh_vd (i64_of 0 (by decide) (by decide)) HFV_24.out).setCell (a := ⟨w.heap.size + 1 + 1 + 1, 0, none⟩) (by simp <;> omega) (.int .i64 0)).setCell (a := ⟨w.heap.size + 1 + 1 + 1, 1, none⟩) (by simp <;> omega) (.slice ar gl.length cr)).setCell (a := ⟨w.heap.size + 1 + 1 + 1, 2, none⟩) (by simp <;> omega) (.slice none 0 0)).setCell (a := ⟨w.heap.size + 1 + 1 + 1, 3, none⟩) (by simp <;> omega) (.slice none 0 0)).setCell (a := ⟨w.heap.size + 1 + 1 + 1, 4, none⟩) (by simp <;> omega) (.slice none 0 0)).lower (by omega))
       clear hs9
       go_wp2_with fail
       refine bodyPost_ret (v := .tuple #[.agg #[.int .i64 0, .slice ar gl.length cr, .slice none 0 0, .slice none 0 0, .slice none 0 0], .int .i64 0]) (by simp [results, Tryz.results11, go_sem, y0, y1, y2, y3, y4]) rfl ⟨_, _, _, _, _, by rw [H5.out], ?_, HB9.out⟩
       rw [H5.out]; exact HFR.out
      | false =>
       have H5 := qH (show majF ((sn : Int), rs) ((V : Int), cs) (fa, ft) = (vd0, 6) by rw [H6.out]; rfl)
       have g0 := (hs17.freeAt 3 rfl 0)
       have g1 := (hs17.freeAt 3 rfl 1)
       have g2 := (hs17.freeAt 3 rfl 2)
       have g3 := (hs17.freeAt 3 rfl 3)
       have g4 := (hs17.freeAt 3 rfl 4)
       have hs9 := (((((hs17.set (p := [_, _, _]) (by simp <;> omega) 0 (.int .i64 0)).set (p := [_, _, _]) (by simp <;> omega) 1 (.slice none 0 0)).set (p := [_, _, _]) (by simp <;> omega) 2 (.slice none 0 0)).set (p := [_, _, _]) (by simp <;> omega) 3 (.slice none 0 0)).set (p := [_, _, _]) (by simp <;> omega) 4 (.slice none 0 0))
       have HB9 := qH hs9.bel
       obtain ⟨y0, y1, y2, y3, y4⟩ := hs9.c5 3 0 3 1 3 2 3 3 3 4
       clear hs9
       go_wp2_with fail
       refine bodyPost_ret (v := .tuple #[.agg #[.int .i64 0, .slice none 0 0, .slice none 0 0, .slice none 0 0, .slice none 0 0], .int .i64 6]) (by simp [results, Tryz.results11, go_sem, y0, y1, y2, y3, y4]) rfl ⟨_, _, _, _, _, by rw [H5.out], ?_, HB9.out⟩
       rw [H5.out]; exact fresh_vd ⟨by decide, by decide⟩ fresh_nil_list
 · have H5 := qH (show majF (size, rs) (vars, cs) (fa, ft) = (vd0, wayF (majB size (fa, ft)) (size, rs) (vars, cs) (fa, ft)) by unfold majF; rw [if_neg h0])
   have hne : (wayF (majB size (fa, ft)) (size, rs) (vars, cs) (fa, ft) != 0) = true := by rw [bne_iff_ne]; exact h0
   clear h0
   generalize wayF (majB size (fa, ft)) (size, rs) (vars, cs) (fa, ft) = CODE at *
   have g0 := (hs6.freeAt 3 rfl 0)
   have g1 := (hs6.freeAt 3 rfl 1)
   have g2 := (hs6.freeAt 3 rfl 2)
   have g3 := (hs6.freeAt 3 rfl 3)
   have g4 := (hs6.freeAt 3 rfl 4)
   have hs9 := (((((hs6.set (p := [_, _, _]) (by simp <;> omega) 0 (.int .i64 0)).set (p := [_, _, _]) (by simp <;> omega) 1 (.slice none 0 0)).set (p := [_, _, _]) (by simp <;> omega) 2 (.slice none 0 0)).set (p := [_, _, _]) (by simp <;> omega) 3 (.slice none 0 0)).set (p := [_, _, _]) (by simp <;> omega) 4 (.slice none 0 0))
   have HB9 := qH hs9.bel
   obtain ⟨y0, y1, y2, y3, y4⟩ := hs9.c5 3 0 3 1 3 2 3 3 3 4
   clear hs9
   go_wp2_with fail
   refine bodyPost_ret (v := .tuple #[.agg #[.int .i64 0, .slice none 0 0, .slice none 0 0, .slice none 0 0, .slice none 0 0], .int .i64 CODE]) (by simp [results, Tryz.results11, go_sem, y0, y1, y2, y3, y4]) rfl ⟨_, _, _, _, _, by rw [H5.out], ?_, HB9.out⟩
   rw [H5.out]; exact fresh_vd ⟨by decide, by decide⟩ fresh_nil_list
end Go.Proofs.YtpkdiiagnplpkaaGreat
