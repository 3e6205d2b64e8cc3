/-
  CONTRACTS: DerivationOf, Follows of the reference; Follows of the program.
-/
import Derived.Test.YtpejlnofaijmaaaDerive
namespace Go.Proofs.Ytpejlnofaijmaaa
open Go.RowKit Go.Shelf Go.IntWalk
open Rep (Rd Own sz)
set_option linter.unusedSimpArgs false
set_option linter.unusedVariables false

theorem firstI_none {l : List Int} : decide (0 ≤ firstI (fun a => a != 0) l) = !(l.all (fun a => a == 0)) := by
  rw [firstI_any, ← all_of_any0, Bool.not_not]
theorem RowIn.mono {w w' : World} {b o : Nat} {cur : Array Value} {e : TypeId} {p0 p2 : List Nat} {v0 v2 : Value} {r : SRow} (h : RowIn w b o cur e p0 p2 v0 v2 r) (hb : Below w.heap.size w w') : RowIn w' b o cur e p0 p2 v0 v2 r :=
  ⟨by rw [hb.block b (Array.getElem?_eq_some_iff.1 h.blk).1]; exact h.blk, h.c0, h.c1, h.c2, ownSl_mono h.own0 hb, ownSl_mono h.own2 hb, h.n0, h.n2, h.dis⟩
set_option maxRecDepth 100000 in
set_option maxHeartbeats 16000000 in
theorem l07Derive_c (s : Sys) (x : Eqn) (sb eb : Nat) (v0 v1 v2 e0 e1 : Value) (w : World) (hx : Rd w [v0, v1, v2] s) (he : Rd w [e0, e1] x)
    (c0 : w.cell? ⟨sb, 0, none⟩ = some v0) (c1 : w.cell? ⟨sb, 1, none⟩ = some v1) (c2 : w.cell? ⟨sb, 2, none⟩ = some v2) (d0 : w.cell? ⟨eb, 0, none⟩ = some e0) (d1 : w.cell? ⟨eb, 1, none⟩ = some e1) (hok : validS s = true) (hq : eqnOk s.1 s.2.1 x = true) :
    Calls Try.prog 26 #[.pointer (some ⟨sb, 0, none⟩), .pointer (some ⟨eb, 0, none⟩)] w fun e w' => ∃ v, e = .returned (.tuple #[v, .int .i64 (derF s x).2]) ∧ Fresh w.heap.size w' [v] (derF s x).1 ∧ Below w.heap.size w w' := by
  obtain ⟨p, u, l⟩ := s
  obtain ⟨El, Er⟩ := x
  have HX := Lib.hid hx
  have HK := Lib.hid hok
  have KO := Lib.hid (elim_ok hok)
  have HQ := Lib.hid hq
  have z := rd_cons rfl hx
  obtain ⟨rfl, _⟩ := rd_i1 z.1
  have z2 := rd_cons rfl z.2
  obtain ⟨rfl, _⟩ := rd_i1 z2.1
  obtain ⟨a, c, rfl, _⟩ := rd_list z2.2
  have hu2 := KO.out.hu
  have hp2 := KO.out.hp
  have hl2 := KO.out.hl
  simp only at hu2 hp2 hl2 hq
  obtain ⟨U, hU⟩ : ∃ U : Nat, u = U := ⟨u.toNat, by omega⟩
  subst hU
  have hGe := eqn_good (U := U) hq
  have HGX := Lib.hid (show GoodS p U l.length (El, Er, List.replicate l.length 0) from goodS_of_eqn (e := (El, Er)) (by omega) hq)
  have ze := rd_cons rfl he
  obtain ⟨rfl, hIr⟩ := rd_i1 ze.2
  obtain ⟨ae, ce, ev, _⟩ := rd_list ze.1
  rw [hGe.1] at ev
  subst ev
  have HE := Lib.hid (show Rd w [.slice ae U ce] El from ze.1)
  have HEL := Lib.hid hGe.1
  simp only at hIr
  have hEr := hGe.2.2
  simp only at hEr
  have hle := KO.out.le
  have hlen := KO.out.len
  simp only at hle hlen
  have HLN := Lib.hid hlen
  have hp3 : p ≤ 3 := by omega
  have hp0 : 2 ≤ p := by omega
  clear hx he z z2 ze hok hq hGe hlen
  have c0_ := cellL (St.start w).bel c0
  clear c0_
  have c0_ := cellL (St.start w).bel c0
  have c1_ := cellL (St.start w).bel c1
  clear c0_ c1_
  have c0_ := cellL (St.start w).bel c0
  have c1_ := cellL (St.start w).bel c1
  have c2_ := cellL (St.start w).bel c2
  clear c0_ c1_ c2_
  have c0_ := cellL (St.start w).bel c0
  have c1_ := cellL (St.start w).bel c1
  have c2_ := cellL (St.start w).bel c2
  have d0_ := cellL (St.start w).bel d0
  clear c0_ c1_ c2_ d0_
  have c0_ := cellL (St.start w).bel c0
  have c1_ := cellL (St.start w).bel c1
  have c2_ := cellL (St.start w).bel c2
  have d0_ := cellL (St.start w).bel d0
  have d1_ := cellL (St.start w).bel d1
  go_enter Try.func26, Try.ntmps26
  go_wp2_with fail
  refine (l07Reduce_c (p, (U : Int), l) _ _ _ _ _ (Rd.mono HX.out (St.start w).bel) c0_ c1_ c2_ HK.out).mono ?_
  rintro e w1 ⟨g4, c4, rfl, fr, hbw1⟩
  have hz_w1 : w.heap.size ≤ w1.heap.size := by have h9 := hbw1.size; (try simp at h9); omega
  have hs2 := (St.start w).step hbw1
  clear c0_ c1_ c2_ d0_ d1_
  have c0_ := cellL hs2.bel c0
  have c1_ := cellL hs2.bel c1
  have c2_ := cellL hs2.bel c2
  have d0_ := cellL hs2.bel d0
  have d1_ := cellL hs2.bel d1
  have HRD := Lib.hid (show Rd w1 [.slice (some ⟨g4, 0, none⟩) l.length c4] (elimS (p, (U : Int), l)).1 from fr.rd)
  clear fr
  go_wp2_with fail
  refine (l07False_c (elimS (p, (U : Int), l)).1 _ _ _ HRD.out (by rw [KO.out.len]; exact KO.out.le) (by have := KO.out.len; have := KO.out.hl; omega)).mono ?_
  rintro e w3 ⟨rfl, rfl⟩
  rw [show falseF (elimS (p, (U : Int), l)).1 (elimS (p, (U : Int), l)).2.length = falseS (p, (U : Int), l) from rfl]
  by_cases hf : 0 ≤ falseS (p, (U : Int), l)
  · have H3 := Lib.hid (derF_bad (x := (El, Er)) hf)
    go_wp2_with fail
    have hq9 := hs2.step (belowA _ (.cells #[] 2))
    refine bodyPost_ret (v := .tuple #[.slice (some ⟨w1.heap.size, 0, none⟩) 0 0, .int .i64 4]) (by simp [results, Try.results26, go_sem]) rfl ⟨.slice (some ⟨w1.heap.size, 0, none⟩) 0 0, ?_, ?_, hq9.bel⟩
    · rw [H3.out]
    · rw [H3.out]; exact fresh_nil _
  · have hm1 : falseS (p, (U : Int), l) < 0 := by omega
    have HF := Lib.hid hf
    clear hf
    have H4 := Lib.hid (derF_no (s := (p, (U : Int), l)) (x := (El, Er)) (by have := HF.out; omega))
    have H5 := Lib.hid (derF_yes (s := (p, (U : Int), l)) (x := (El, Er)) (by have := HF.out; omega))
    have HGT := Lib.hid (taken_len KO.out (x := (El, Er)) HQ.out)
    have HTS := Lib.hid (show takenS (p, (U : Int), l) (El, Er) = takenTo p (elimS (p, (U : Int), l)).1 (elimS (p, (U : Int), l)).2 (El, Er, List.replicate l.length 0) (elimS (p, (U : Int), l)).2.length from rfl)
    obtain ⟨wB, hwB⟩ : ∃ x, x = w1 := ⟨_, rfl⟩
    subst hwB
    have HRB := Lib.hid HRD.out
    have HBL := Lib.hid (Below.refl wB.heap.size wB)
    go_upto_region 4 with fail
    go_cut [8] from 20 to 81 (fun x8 wx => ∃ (g gP gM cP : Nat), x8 = .pointer (some ⟨g, 0, none⟩) ∧ Hid (RowIn wx g 0 #[.slice (some ⟨gP, 0, none⟩) U cP, .int .i64 Er, .slice (some ⟨gM, 0, none⟩) l.length l.length] 89 [gP] [gM] (.slice (some ⟨gP, 0, none⟩) U cP) (.slice (some ⟨gM, 0, none⟩) l.length l.length) (El, Er, List.replicate l.length 0)) ∧ Hid (wB.heap.size ≤ g ∧ wB.heap.size ≤ gP ∧ wB.heap.size ≤ gM) ∧ Hid (Below wB.heap.size wB wx))
    case first =>
      refine wp_region_noPanic (wp_region_tree4 (fun w' => w'.cell? ⟨sb, 0, none⟩ = some (.int .i64 p) ∧ w'.cell? ⟨sb, 1, none⟩ = some (.int .i64 U) ∧ w'.cell? ⟨sb, 2, none⟩ = some (.slice a l.length c) ∧ w'.cell? ⟨eb, 0, none⟩ = some (.slice ae U ce) ∧ w'.cell? ⟨eb, 1, none⟩ = some (.int .i64 Er)) (.float 0 (.float 1 (.float 2 (.float 3 (.float 5 (.float 6 (.float 7 (.float 8 (.float 9 (.float 10 (.float 11 (.float 12 (.float 13 (.fork3 4 (.fork2 14 (.float 15 (.hard 16 (.last 17 .nil))) 16 (.hard 14 (.float 15 (.last 17 .nil)))) 14 (.fork2 4 (.float 15 (.hard 16 (.last 17 .nil))) 16 (.hard 4 (.float 15 (.last 17 .nil)))) 16 (.fork2 4 (.hard 14 (.float 15 (.last 17 .nil))) 14 (.hard 4 (.float 15 (.last 17 .nil)))))))))))))))))) (by kernel_rfl) (by kernel_rfl) (by kernel_rfl) rfl ?_ (fun _ _ _ _ _ h => h) ?_)
      · exact ⟨cellL (hs2.drew).bel c0, cellL (hs2.drew).bel c1, cellL (hs2.drew).bel c2, cellL (hs2.drew).bel d0, cellL (hs2.drew).bel d1⟩
      have hs4 := hs2.drew
      have HRD_5 := Lib.hid (Rd.mono HRD.out (belowD _))
      clear HRD
      have HBL_6 := Lib.hid (HBL.out.trans (((belowD _)).mono HBL.out.size))
      clear HBL
      clear c0_ c1_ c2_ d0_ d1_
      have hz_wd7 : wB.heap.size ≤ (wB.drew).heap.size := by simp
      generalize hgen_wd7 : wB.drew = wd7 at *
      have HG_wd7 := Lib.hid hgen_wd7
      clear hgen_wd7
      (repeat (first | (apply t4_skip rfl (by rfl); try simp only [Act.put, List.setIfInBounds_toArray, List.set_cons_zero, List.set_cons_succ]) | (apply t4_float rfl (by rfl); (· (intro w' hS; go_simp <;> with_reducible rfl)); (try simp only [Act.put, List.setIfInBounds_toArray, List.set_cons_zero, List.set_cons_succ]))))
      refine t4_fork3 ?_ ?_ ?_
      · refine t4_hard rfl (by rfl) (fun K hK => ?_)
        go_wp2_with (go_at_call 51; refine (l00Own_c El _ _ (Rd.mono HE.out hs4.bel) (by rw [HEL.out]; omega)).mono ?_; rintro e w8 ⟨v4, rfl, hA, hbw8⟩)
        have hz_w8 : wd7.heap.size ≤ w8.heap.size := by have h9 := hbw8.size; (try simp at h9); omega
        have hs9 := hs4.step hbw8
        have HRD_10 := Lib.hid (Rd.mono HRD_5.out hbw8)
        clear HRD_5
        have HBL_11 := Lib.hid (HBL_6.out.trans ((hbw8).mono HBL_6.out.size))
        clear HBL_6
        obtain ⟨gP, cP, rfl, hgP1, hgP2⟩ := hA.form' (by rw [HEL.out]; omega)
        have HROW := Lib.hid (row_base (acc_ints_get hA).1)
        have HIE := Lib.hid (acc_ints_get hA).2.2
        rw [HEL.out] at HROW
        rw [HEL.out]
        (try simp at hgP1)
        clear hA
        refine ⟨⟨cellL hs9.bel c0, cellL hs9.bel c1, cellL hs9.bel c2, cellL hs9.bel d0, cellL hs9.bel d1⟩, ?_⟩
        (repeat (first | (apply t4_skip rfl (by rfl); try simp only [Act.put, List.setIfInBounds_toArray, List.set_cons_zero, List.set_cons_succ]) | (apply t4_float rfl (by rfl); (· (intro w' hS; go_simp <;> with_reducible rfl)); (try simp only [Act.put, List.setIfInBounds_toArray, List.set_cons_zero, List.set_cons_succ]))))
        refine t4_fork2 ?_ ?_
        · refine t4_hard rfl (by rfl) (fun K hK => ?_)
          refine wp_make_rep _ _ _ 28 rfl E_ints (0 : Int) own0_int l.length (by omega) rfl rfl ?_
          intro wM hownM hbM hzM
          have HOM : Hid (OwnSl [w8.heap.size] wM (.slice (some ⟨w8.heap.size, 0, none⟩) l.length l.length) (List.replicate l.length (0 : Int))) := Lib.hid (by simpa using hownM)
          have hgM : w8.heap.size < wM.heap.size := by rw [hzM]; simp
          clear hownM hzM
          have hz_wM : w8.heap.size ≤ wM.heap.size := by have h9 := hbM.size; (try simp at h9); omega
          have hs12 := hs9.step hbM
          have HRD_13 := Lib.hid (Rd.mono HRD_10.out hbM)
          clear HRD_10
          have HBL_14 := Lib.hid (HBL_11.out.trans ((hbM).mono HBL_11.out.size))
          clear HBL_11
          have HROW_15 := Lib.hid (ownsRow_below HROW.out hbM)
          clear HROW
          refine hK _ _ ⟨⟨cellL hs12.bel c0, cellL hs12.bel c1, cellL hs12.bel c2, cellL hs12.bel d0, cellL hs12.bel d1⟩, ?_⟩
          (repeat (first | (apply t4_skip rfl (by rfl); try simp only [Act.put, List.setIfInBounds_toArray, List.set_cons_zero, List.set_cons_succ]) | (apply t4_float rfl (by rfl); (· (intro w' hS; go_simp <;> with_reducible rfl)); (try simp only [Act.put, List.setIfInBounds_toArray, List.set_cons_zero, List.set_cons_succ]))))
          refine t4_hard rfl (by rfl) (fun K hK => ?_)
          go_wp2_with fail
          have hs16 := hs12.alloc #[.slice none 0 0, .int .i64 0, .slice none 0 0] 89 (n := wM.heap.size) (by simp)
          have HRD_17 := Lib.hid (Rd.mono HRD_13.out (belowA _ (.cells #[.slice none 0 0, .int .i64 0, .slice none 0 0] 89)))
          clear HRD_13
          have HBL_18 := Lib.hid (HBL_14.out.trans (((belowA _ (.cells #[.slice none 0 0, .int .i64 0, .slice none 0 0] 89))).mono HBL_14.out.size))
          clear HBL_14
          have HROW_19 := Lib.hid (ownsRow_below HROW_15.out (belowA _ (.cells #[.slice none 0 0, .int .i64 0, .slice none 0 0] 89)))
          clear HROW_15
          have HOM_20 := Lib.hid (ownSl_mono HOM.out (belowA _ (.cells #[.slice none 0 0, .int .i64 0, .slice none 0 0] 89)))
          clear HOM
          have hz_wA : wM.heap.size + 1 ≤ ((wM.alloc (.cells #[.slice none 0 0, .int .i64 0, .slice none 0 0] 89))).heap.size := by simp
          generalize hgen_wA : (wM.alloc (.cells #[.slice none 0 0, .int .i64 0, .slice none 0 0] 89)) = wA at *
          clear hgen_wA
          refine ⟨⟨cellL hs16.bel c0, cellL hs16.bel c1, cellL hs16.bel c2, cellL hs16.bel d0, cellL hs16.bel d1⟩, ?_⟩
          (repeat (first | (apply t4_skip rfl (by rfl); try simp only [Act.put, List.setIfInBounds_toArray, List.set_cons_zero, List.set_cons_succ]) | (apply t4_float rfl (by rfl); (· (intro w' hS; go_simp <;> with_reducible rfl)); (try simp only [Act.put, List.setIfInBounds_toArray, List.set_cons_zero, List.set_cons_succ]))))
          refine t4_last rfl (by rfl) (fun K hK => ?_)
          have k0_0 := hs16.cellAt 0 rfl 0 rfl
          have k0_1 := hs16.cellAt 0 rfl 1 rfl
          have k0_2 := hs16.cellAt 0 rfl 2 rfl
          have c0_ := cellL hs16.bel c0
          have c1_ := cellL hs16.bel c1
          have c2_ := cellL hs16.bel c2
          have d0_ := cellL hs16.bel d0
          have d1_ := cellL hs16.bel d1
          have f0 := (hs16.freeAt 0 rfl 0)
          have f1 := (hs16.freeAt 0 rfl 1)
          have f2 := (hs16.freeAt 0 rfl 2)
          have hqb := hs16.box (wM.heap.size, #[.slice none 0 0, .int .i64 0, .slice none 0 0], 89) (by simp)
          have hgG := hqb.2.1
          simp only at hgG
          have hqs := (((hs16.set (p := []) (by simp <;> omega) 0 (.slice (some ⟨gP, 0, none⟩) U cP)).set (p := []) (by simp <;> omega) 1 (.int .i64 Er)).set (p := []) (by simp <;> omega) 2 (.slice (some ⟨w8.heap.size, 0, none⟩) l.length l.length)).box (wM.heap.size, #[.slice (some ⟨gP, 0, none⟩) U cP, .int .i64 Er, .slice (some ⟨w8.heap.size, 0, none⟩) l.length l.length], 89) (by simp)
          go_wp2_with fail
          refine t4_nil (NoPanic.normal ?_)
          go_wp2_with fail
          go_meet
          case rel =>
            have ho := (((OnlyAt.refl [wM.heap.size] wA).setCell (p := ⟨wM.heap.size, 0, none⟩) (by simp) (.slice (some ⟨gP, 0, none⟩) U cP)).setCell (p := ⟨wM.heap.size, 1, none⟩) (by simp) (.int .i64 Er)).setCell (p := ⟨wM.heap.size, 2, none⟩) (by simp) (.slice (some ⟨w8.heap.size, 0, none⟩) l.length l.length)
            have o1 := ownSl_ints (l := El) (by exact row_frame HROW_19.out (fun k hk => ho.block k (by simp [Value.ownBlock] at hk ⊢; omega))) HEL.out.symm HIE.out
            have o2 := ownSl_only HOM_20.out ho (fun k h1 h2 => by simp at h1 h2; omega)
            have hbb := HBL_18.out
            refine ⟨wM.heap.size, gP, w8.heap.size, cP, rfl, ⟨hqs.2.2, rfl, rfl, rfl, o1, o2, by simp; omega, by simp; omega, by simp; omega⟩, ⟨by omega, by omega, by omega⟩, hbb.trans (ho.below (by simp; omega))⟩
        · refine t4_hard rfl (by rfl) (fun K hK => ?_)
          go_wp2_with fail
          have hs21 := hs9.alloc #[.slice none 0 0, .int .i64 0, .slice none 0 0] 89 (n := w8.heap.size) (by simp)
          have HRD_22 := Lib.hid (Rd.mono HRD_10.out (belowA _ (.cells #[.slice none 0 0, .int .i64 0, .slice none 0 0] 89)))
          clear HRD_10
          have HBL_23 := Lib.hid (HBL_11.out.trans (((belowA _ (.cells #[.slice none 0 0, .int .i64 0, .slice none 0 0] 89))).mono HBL_11.out.size))
          clear HBL_11
          have HROW_24 := Lib.hid (ownsRow_below HROW.out (belowA _ (.cells #[.slice none 0 0, .int .i64 0, .slice none 0 0] 89)))
          clear HROW
          have hz_wA : w8.heap.size + 1 ≤ ((w8.alloc (.cells #[.slice none 0 0, .int .i64 0, .slice none 0 0] 89))).heap.size := by simp
          generalize hgen_wA : (w8.alloc (.cells #[.slice none 0 0, .int .i64 0, .slice none 0 0] 89)) = wA at *
          clear hgen_wA
          refine ⟨⟨cellL hs21.bel c0, cellL hs21.bel c1, cellL hs21.bel c2, cellL hs21.bel d0, cellL hs21.bel d1⟩, ?_⟩
          (repeat (first | (apply t4_skip rfl (by rfl); try simp only [Act.put, List.setIfInBounds_toArray, List.set_cons_zero, List.set_cons_succ]) | (apply t4_float rfl (by rfl); (· (intro w' hS; go_simp <;> with_reducible rfl)); (try simp only [Act.put, List.setIfInBounds_toArray, List.set_cons_zero, List.set_cons_succ]))))
          refine t4_hard rfl (by rfl) (fun K hK => ?_)
          refine wp_make_rep _ _ _ 28 rfl E_ints (0 : Int) own0_int l.length (by omega) rfl rfl ?_
          intro wM hownM hbM hzM
          have HOM : Hid (OwnSl [wA.heap.size] wM (.slice (some ⟨wA.heap.size, 0, none⟩) l.length l.length) (List.replicate l.length (0 : Int))) := Lib.hid (by simpa using hownM)
          have hgM : wA.heap.size < wM.heap.size := by rw [hzM]; simp
          clear hownM hzM
          have hz_wM : wA.heap.size ≤ wM.heap.size := by have h9 := hbM.size; (try simp at h9); omega
          have hs25 := hs21.step hbM
          have HRD_26 := Lib.hid (Rd.mono HRD_22.out hbM)
          clear HRD_22
          have HBL_27 := Lib.hid (HBL_23.out.trans ((hbM).mono HBL_23.out.size))
          clear HBL_23
          have HROW_28 := Lib.hid (ownsRow_below HROW_24.out hbM)
          clear HROW_24
          refine hK _ _ ⟨⟨cellL hs25.bel c0, cellL hs25.bel c1, cellL hs25.bel c2, cellL hs25.bel d0, cellL hs25.bel d1⟩, ?_⟩
          (repeat (first | (apply t4_skip rfl (by rfl); try simp only [Act.put, List.setIfInBounds_toArray, List.set_cons_zero, List.set_cons_succ]) | (apply t4_float rfl (by rfl); (· (intro w' hS; go_simp <;> with_reducible rfl)); (try simp only [Act.put, List.setIfInBounds_toArray, List.set_cons_zero, List.set_cons_succ]))))
          refine t4_last rfl (by rfl) (fun K hK => ?_)
          have k0_0 := hs25.cellAt 0 rfl 0 rfl
          have k0_1 := hs25.cellAt 0 rfl 1 rfl
          have k0_2 := hs25.cellAt 0 rfl 2 rfl
          have c0_ := cellL hs25.bel c0
          have c1_ := cellL hs25.bel c1
          have c2_ := cellL hs25.bel c2
          have d0_ := cellL hs25.bel d0
          have d1_ := cellL hs25.bel d1
          have f0 := (hs25.freeAt 0 rfl 0)
          have f1 := (hs25.freeAt 0 rfl 1)
          have f2 := (hs25.freeAt 0 rfl 2)
          have hqb := hs25.box (w8.heap.size, #[.slice none 0 0, .int .i64 0, .slice none 0 0], 89) (by simp)
          have hgG := hqb.2.1
          simp only at hgG
          have hqs := (((hs25.set (p := []) (by simp <;> omega) 0 (.slice (some ⟨gP, 0, none⟩) U cP)).set (p := []) (by simp <;> omega) 1 (.int .i64 Er)).set (p := []) (by simp <;> omega) 2 (.slice (some ⟨wA.heap.size, 0, none⟩) l.length l.length)).box (w8.heap.size, #[.slice (some ⟨gP, 0, none⟩) U cP, .int .i64 Er, .slice (some ⟨wA.heap.size, 0, none⟩) l.length l.length], 89) (by simp)
          go_wp2_with fail
          refine t4_nil (NoPanic.normal ?_)
          go_wp2_with fail
          go_meet
          case rel =>
            have ho := (((OnlyAt.refl [w8.heap.size] wM).setCell (p := ⟨w8.heap.size, 0, none⟩) (by simp) (.slice (some ⟨gP, 0, none⟩) U cP)).setCell (p := ⟨w8.heap.size, 1, none⟩) (by simp) (.int .i64 Er)).setCell (p := ⟨w8.heap.size, 2, none⟩) (by simp) (.slice (some ⟨wA.heap.size, 0, none⟩) l.length l.length)
            have o1 := ownSl_ints (l := El) (by exact row_frame HROW_28.out (fun k hk => ho.block k (by simp [Value.ownBlock] at hk ⊢; omega))) HEL.out.symm HIE.out
            have o2 := ownSl_only HOM.out ho (fun k h1 h2 => by simp at h1 h2; omega)
            have hbb := HBL_27.out
            refine ⟨w8.heap.size, gP, wA.heap.size, cP, rfl, ⟨hqs.2.2, rfl, rfl, rfl, o1, o2, by simp; omega, by simp; omega, by simp; omega⟩, ⟨by omega, by omega, by omega⟩, hbb.trans (ho.below (by simp; omega))⟩
      · refine t4_hard rfl (by rfl) (fun K hK => ?_)
        refine wp_make_rep _ _ _ 28 rfl E_ints (0 : Int) own0_int l.length (by omega) rfl rfl ?_
        intro wM hownM hbM hzM
        have HOM : Hid (OwnSl [wd7.heap.size] wM (.slice (some ⟨wd7.heap.size, 0, none⟩) l.length l.length) (List.replicate l.length (0 : Int))) := Lib.hid (by simpa using hownM)
        have hgM : wd7.heap.size < wM.heap.size := by rw [hzM]; simp
        clear hownM hzM
        have hz_wM : wd7.heap.size ≤ wM.heap.size := by have h9 := hbM.size; (try simp at h9); omega
        have hs29 := hs4.step hbM
        have HRD_30 := Lib.hid (Rd.mono HRD_5.out hbM)
        clear HRD_5
        have HBL_31 := Lib.hid (HBL_6.out.trans ((hbM).mono HBL_6.out.size))
        clear HBL_6
        refine hK _ _ ⟨⟨cellL hs29.bel c0, cellL hs29.bel c1, cellL hs29.bel c2, cellL hs29.bel d0, cellL hs29.bel d1⟩, ?_⟩
        (repeat (first | (apply t4_skip rfl (by rfl); try simp only [Act.put, List.setIfInBounds_toArray, List.set_cons_zero, List.set_cons_succ]) | (apply t4_float rfl (by rfl); (· (intro w' hS; go_simp <;> with_reducible rfl)); (try simp only [Act.put, List.setIfInBounds_toArray, List.set_cons_zero, List.set_cons_succ]))))
        refine t4_fork2 ?_ ?_
        · refine t4_hard rfl (by rfl) (fun K hK => ?_)
          go_wp2_with (go_at_call 51; refine (l00Own_c El _ _ (Rd.mono HE.out hs29.bel) (by rw [HEL.out]; omega)).mono ?_; rintro e w32 ⟨v4, rfl, hA, hbw32⟩)
          have hz_w32 : wM.heap.size ≤ w32.heap.size := by have h9 := hbw32.size; (try simp at h9); omega
          have hs33 := hs29.step hbw32
          have HRD_34 := Lib.hid (Rd.mono HRD_30.out hbw32)
          clear HRD_30
          have HBL_35 := Lib.hid (HBL_31.out.trans ((hbw32).mono HBL_31.out.size))
          clear HBL_31
          have HOM_36 := Lib.hid (ownSl_mono HOM.out hbw32)
          clear HOM
          obtain ⟨gP, cP, rfl, hgP1, hgP2⟩ := hA.form' (by rw [HEL.out]; omega)
          have HROW := Lib.hid (row_base (acc_ints_get hA).1)
          have HIE := Lib.hid (acc_ints_get hA).2.2
          rw [HEL.out] at HROW
          rw [HEL.out]
          (try simp at hgP1)
          clear hA
          refine ⟨⟨cellL hs33.bel c0, cellL hs33.bel c1, cellL hs33.bel c2, cellL hs33.bel d0, cellL hs33.bel d1⟩, ?_⟩
          (repeat (first | (apply t4_skip rfl (by rfl); try simp only [Act.put, List.setIfInBounds_toArray, List.set_cons_zero, List.set_cons_succ]) | (apply t4_float rfl (by rfl); (· (intro w' hS; go_simp <;> with_reducible rfl)); (try simp only [Act.put, List.setIfInBounds_toArray, List.set_cons_zero, List.set_cons_succ]))))
          refine t4_hard rfl (by rfl) (fun K hK => ?_)
          go_wp2_with fail
          have hs37 := hs33.alloc #[.slice none 0 0, .int .i64 0, .slice none 0 0] 89 (n := w32.heap.size) (by simp)
          have HRD_38 := Lib.hid (Rd.mono HRD_34.out (belowA _ (.cells #[.slice none 0 0, .int .i64 0, .slice none 0 0] 89)))
          clear HRD_34
          have HBL_39 := Lib.hid (HBL_35.out.trans (((belowA _ (.cells #[.slice none 0 0, .int .i64 0, .slice none 0 0] 89))).mono HBL_35.out.size))
          clear HBL_35
          have HOM_40 := Lib.hid (ownSl_mono HOM_36.out (belowA _ (.cells #[.slice none 0 0, .int .i64 0, .slice none 0 0] 89)))
          clear HOM_36
          have HROW_41 := Lib.hid (ownsRow_below HROW.out (belowA _ (.cells #[.slice none 0 0, .int .i64 0, .slice none 0 0] 89)))
          clear HROW
          have hz_wA : w32.heap.size + 1 ≤ ((w32.alloc (.cells #[.slice none 0 0, .int .i64 0, .slice none 0 0] 89))).heap.size := by simp
          generalize hgen_wA : (w32.alloc (.cells #[.slice none 0 0, .int .i64 0, .slice none 0 0] 89)) = wA at *
          clear hgen_wA
          refine ⟨⟨cellL hs37.bel c0, cellL hs37.bel c1, cellL hs37.bel c2, cellL hs37.bel d0, cellL hs37.bel d1⟩, ?_⟩
          (repeat (first | (apply t4_skip rfl (by rfl); try simp only [Act.put, List.setIfInBounds_toArray, List.set_cons_zero, List.set_cons_succ]) | (apply t4_float rfl (by rfl); (· (intro w' hS; go_simp <;> with_reducible rfl)); (try simp only [Act.put, List.setIfInBounds_toArray, List.set_cons_zero, List.set_cons_succ]))))
          refine t4_last rfl (by rfl) (fun K hK => ?_)
          have k0_0 := hs37.cellAt 0 rfl 0 rfl
          have k0_1 := hs37.cellAt 0 rfl 1 rfl
          have k0_2 := hs37.cellAt 0 rfl 2 rfl
          have c0_ := cellL hs37.bel c0
          have c1_ := cellL hs37.bel c1
          have c2_ := cellL hs37.bel c2
          have d0_ := cellL hs37.bel d0
          have d1_ := cellL hs37.bel d1
          have f0 := (hs37.freeAt 0 rfl 0)
          have f1 := (hs37.freeAt 0 rfl 1)
          have f2 := (hs37.freeAt 0 rfl 2)
          have hqb := hs37.box (w32.heap.size, #[.slice none 0 0, .int .i64 0, .slice none 0 0], 89) (by simp)
          have hgG := hqb.2.1
          simp only at hgG
          have hqs := (((hs37.set (p := []) (by simp <;> omega) 0 (.slice (some ⟨gP, 0, none⟩) U cP)).set (p := []) (by simp <;> omega) 1 (.int .i64 Er)).set (p := []) (by simp <;> omega) 2 (.slice (some ⟨wd7.heap.size, 0, none⟩) l.length l.length)).box (w32.heap.size, #[.slice (some ⟨gP, 0, none⟩) U cP, .int .i64 Er, .slice (some ⟨wd7.heap.size, 0, none⟩) l.length l.length], 89) (by simp)
          go_wp2_with fail
          refine t4_nil (NoPanic.normal ?_)
          go_wp2_with fail
          go_meet
          case rel =>
            have ho := (((OnlyAt.refl [w32.heap.size] wA).setCell (p := ⟨w32.heap.size, 0, none⟩) (by simp) (.slice (some ⟨gP, 0, none⟩) U cP)).setCell (p := ⟨w32.heap.size, 1, none⟩) (by simp) (.int .i64 Er)).setCell (p := ⟨w32.heap.size, 2, none⟩) (by simp) (.slice (some ⟨wd7.heap.size, 0, none⟩) l.length l.length)
            have o1 := ownSl_ints (l := El) (by exact row_frame HROW_41.out (fun k hk => ho.block k (by simp [Value.ownBlock] at hk ⊢; omega))) HEL.out.symm HIE.out
            have o2 := ownSl_only HOM_40.out ho (fun k h1 h2 => by simp at h1 h2; omega)
            have hbb := HBL_39.out
            refine ⟨w32.heap.size, gP, wd7.heap.size, cP, rfl, ⟨hqs.2.2, rfl, rfl, rfl, o1, o2, by simp; omega, by simp; omega, by simp; omega⟩, ⟨by omega, by omega, by omega⟩, hbb.trans (ho.below (by simp; omega))⟩
        · refine t4_hard rfl (by rfl) (fun K hK => ?_)
          go_wp2_with fail
          have hs42 := hs29.alloc #[.slice none 0 0, .int .i64 0, .slice none 0 0] 89 (n := wM.heap.size) (by simp)
          have HRD_43 := Lib.hid (Rd.mono HRD_30.out (belowA _ (.cells #[.slice none 0 0, .int .i64 0, .slice none 0 0] 89)))
          clear HRD_30
          have HBL_44 := Lib.hid (HBL_31.out.trans (((belowA _ (.cells #[.slice none 0 0, .int .i64 0, .slice none 0 0] 89))).mono HBL_31.out.size))
          clear HBL_31
          have HOM_45 := Lib.hid (ownSl_mono HOM.out (belowA _ (.cells #[.slice none 0 0, .int .i64 0, .slice none 0 0] 89)))
          clear HOM
          have hz_wA : wM.heap.size + 1 ≤ ((wM.alloc (.cells #[.slice none 0 0, .int .i64 0, .slice none 0 0] 89))).heap.size := by simp
          generalize hgen_wA : (wM.alloc (.cells #[.slice none 0 0, .int .i64 0, .slice none 0 0] 89)) = wA at *
          clear hgen_wA
          refine ⟨⟨cellL hs42.bel c0, cellL hs42.bel c1, cellL hs42.bel c2, cellL hs42.bel d0, cellL hs42.bel d1⟩, ?_⟩
          (repeat (first | (apply t4_skip rfl (by rfl); try simp only [Act.put, List.setIfInBounds_toArray, List.set_cons_zero, List.set_cons_succ]) | (apply t4_float rfl (by rfl); (· (intro w' hS; go_simp <;> with_reducible rfl)); (try simp only [Act.put, List.setIfInBounds_toArray, List.set_cons_zero, List.set_cons_succ]))))
          refine t4_hard rfl (by rfl) (fun K hK => ?_)
          go_wp2_with (go_at_call 51; refine (l00Own_c El _ _ (Rd.mono HE.out hs42.bel) (by rw [HEL.out]; omega)).mono ?_; rintro e w46 ⟨v4, rfl, hA, hbw46⟩)
          have hz_w46 : wA.heap.size ≤ w46.heap.size := by have h9 := hbw46.size; (try simp at h9); omega
          have hs47 := hs42.step hbw46
          have HRD_48 := Lib.hid (Rd.mono HRD_43.out hbw46)
          clear HRD_43
          have HBL_49 := Lib.hid (HBL_44.out.trans ((hbw46).mono HBL_44.out.size))
          clear HBL_44
          have HOM_50 := Lib.hid (ownSl_mono HOM_45.out hbw46)
          clear HOM_45
          obtain ⟨gP, cP, rfl, hgP1, hgP2⟩ := hA.form' (by rw [HEL.out]; omega)
          have HROW := Lib.hid (row_base (acc_ints_get hA).1)
          have HIE := Lib.hid (acc_ints_get hA).2.2
          rw [HEL.out] at HROW
          rw [HEL.out]
          (try simp at hgP1)
          clear hA
          refine ⟨⟨cellL hs47.bel c0, cellL hs47.bel c1, cellL hs47.bel c2, cellL hs47.bel d0, cellL hs47.bel d1⟩, ?_⟩
          (repeat (first | (apply t4_skip rfl (by rfl); try simp only [Act.put, List.setIfInBounds_toArray, List.set_cons_zero, List.set_cons_succ]) | (apply t4_float rfl (by rfl); (· (intro w' hS; go_simp <;> with_reducible rfl)); (try simp only [Act.put, List.setIfInBounds_toArray, List.set_cons_zero, List.set_cons_succ]))))
          refine t4_last rfl (by rfl) (fun K hK => ?_)
          have k0_0 := hs47.cellAt 0 rfl 0 rfl
          have k0_1 := hs47.cellAt 0 rfl 1 rfl
          have k0_2 := hs47.cellAt 0 rfl 2 rfl
          have c0_ := cellL hs47.bel c0
          have c1_ := cellL hs47.bel c1
          have c2_ := cellL hs47.bel c2
          have d0_ := cellL hs47.bel d0
          have d1_ := cellL hs47.bel d1
          have f0 := (hs47.freeAt 0 rfl 0)
          have f1 := (hs47.freeAt 0 rfl 1)
          have f2 := (hs47.freeAt 0 rfl 2)
          have hqb := hs47.box (wM.heap.size, #[.slice none 0 0, .int .i64 0, .slice none 0 0], 89) (by simp)
          have hgG := hqb.2.1
          simp only at hgG
          have hqs := (((hs47.set (p := []) (by simp <;> omega) 0 (.slice (some ⟨gP, 0, none⟩) U cP)).set (p := []) (by simp <;> omega) 1 (.int .i64 Er)).set (p := []) (by simp <;> omega) 2 (.slice (some ⟨wd7.heap.size, 0, none⟩) l.length l.length)).box (wM.heap.size, #[.slice (some ⟨gP, 0, none⟩) U cP, .int .i64 Er, .slice (some ⟨wd7.heap.size, 0, none⟩) l.length l.length], 89) (by simp)
          go_wp2_with fail
          refine t4_nil (NoPanic.normal ?_)
          go_wp2_with fail
          go_meet
          case rel =>
            have ho := (((OnlyAt.refl [wM.heap.size] w46).setCell (p := ⟨wM.heap.size, 0, none⟩) (by simp) (.slice (some ⟨gP, 0, none⟩) U cP)).setCell (p := ⟨wM.heap.size, 1, none⟩) (by simp) (.int .i64 Er)).setCell (p := ⟨wM.heap.size, 2, none⟩) (by simp) (.slice (some ⟨wd7.heap.size, 0, none⟩) l.length l.length)
            have o1 := ownSl_ints (l := El) (by exact row_frame HROW.out (fun k hk => ho.block k (by simp [Value.ownBlock] at hk ⊢; omega))) HEL.out.symm HIE.out
            have o2 := ownSl_only HOM_50.out ho (fun k h1 h2 => by simp at h1 h2; omega)
            have hbb := HBL_49.out
            refine ⟨wM.heap.size, gP, wd7.heap.size, cP, rfl, ⟨hqs.2.2, rfl, rfl, rfl, o1, o2, by simp; omega, by simp; omega, by simp; omega⟩, ⟨by omega, by omega, by omega⟩, hbb.trans (ho.below (by simp; omega))⟩
      · refine t4_hard rfl (by rfl) (fun K hK => ?_)
        go_wp2_with fail
        have hs51 := hs4.alloc #[.slice none 0 0, .int .i64 0, .slice none 0 0] 89 (n := wd7.heap.size) (by simp)
        have HRD_52 := Lib.hid (Rd.mono HRD_5.out (belowA _ (.cells #[.slice none 0 0, .int .i64 0, .slice none 0 0] 89)))
        clear HRD_5
        have HBL_53 := Lib.hid (HBL_6.out.trans (((belowA _ (.cells #[.slice none 0 0, .int .i64 0, .slice none 0 0] 89))).mono HBL_6.out.size))
        clear HBL_6
        have hz_wA : wd7.heap.size + 1 ≤ ((wd7.alloc (.cells #[.slice none 0 0, .int .i64 0, .slice none 0 0] 89))).heap.size := by simp
        generalize hgen_wA : (wd7.alloc (.cells #[.slice none 0 0, .int .i64 0, .slice none 0 0] 89)) = wA at *
        clear hgen_wA
        refine ⟨⟨cellL hs51.bel c0, cellL hs51.bel c1, cellL hs51.bel c2, cellL hs51.bel d0, cellL hs51.bel d1⟩, ?_⟩
        (repeat (first | (apply t4_skip rfl (by rfl); try simp only [Act.put, List.setIfInBounds_toArray, List.set_cons_zero, List.set_cons_succ]) | (apply t4_float rfl (by rfl); (· (intro w' hS; go_simp <;> with_reducible rfl)); (try simp only [Act.put, List.setIfInBounds_toArray, List.set_cons_zero, List.set_cons_succ]))))
        refine t4_fork2 ?_ ?_
        · refine t4_hard rfl (by rfl) (fun K hK => ?_)
          go_wp2_with (go_at_call 51; refine (l00Own_c El _ _ (Rd.mono HE.out hs51.bel) (by rw [HEL.out]; omega)).mono ?_; rintro e w54 ⟨v4, rfl, hA, hbw54⟩)
          have hz_w54 : wA.heap.size ≤ w54.heap.size := by have h9 := hbw54.size; (try simp at h9); omega
          have hs55 := hs51.step hbw54
          have HRD_56 := Lib.hid (Rd.mono HRD_52.out hbw54)
          clear HRD_52
          have HBL_57 := Lib.hid (HBL_53.out.trans ((hbw54).mono HBL_53.out.size))
          clear HBL_53
          obtain ⟨gP, cP, rfl, hgP1, hgP2⟩ := hA.form' (by rw [HEL.out]; omega)
          have HROW := Lib.hid (row_base (acc_ints_get hA).1)
          have HIE := Lib.hid (acc_ints_get hA).2.2
          rw [HEL.out] at HROW
          rw [HEL.out]
          (try simp at hgP1)
          clear hA
          refine ⟨⟨cellL hs55.bel c0, cellL hs55.bel c1, cellL hs55.bel c2, cellL hs55.bel d0, cellL hs55.bel d1⟩, ?_⟩
          (repeat (first | (apply t4_skip rfl (by rfl); try simp only [Act.put, List.setIfInBounds_toArray, List.set_cons_zero, List.set_cons_succ]) | (apply t4_float rfl (by rfl); (· (intro w' hS; go_simp <;> with_reducible rfl)); (try simp only [Act.put, List.setIfInBounds_toArray, List.set_cons_zero, List.set_cons_succ]))))
          refine t4_hard rfl (by rfl) (fun K hK => ?_)
          refine wp_make_rep _ _ _ 28 rfl E_ints (0 : Int) own0_int l.length (by omega) rfl rfl ?_
          intro wM hownM hbM hzM
          have HOM : Hid (OwnSl [w54.heap.size] wM (.slice (some ⟨w54.heap.size, 0, none⟩) l.length l.length) (List.replicate l.length (0 : Int))) := Lib.hid (by simpa using hownM)
          have hgM : w54.heap.size < wM.heap.size := by rw [hzM]; simp
          clear hownM hzM
          have hz_wM : w54.heap.size ≤ wM.heap.size := by have h9 := hbM.size; (try simp at h9); omega
          have hs58 := hs55.step hbM
          have HRD_59 := Lib.hid (Rd.mono HRD_56.out hbM)
          clear HRD_56
          have HBL_60 := Lib.hid (HBL_57.out.trans ((hbM).mono HBL_57.out.size))
          clear HBL_57
          have HROW_61 := Lib.hid (ownsRow_below HROW.out hbM)
          clear HROW
          refine hK _ _ ⟨⟨cellL hs58.bel c0, cellL hs58.bel c1, cellL hs58.bel c2, cellL hs58.bel d0, cellL hs58.bel d1⟩, ?_⟩
          (repeat (first | (apply t4_skip rfl (by rfl); try simp only [Act.put, List.setIfInBounds_toArray, List.set_cons_zero, List.set_cons_succ]) | (apply t4_float rfl (by rfl); (· (intro w' hS; go_simp <;> with_reducible rfl)); (try simp only [Act.put, List.setIfInBounds_toArray, List.set_cons_zero, List.set_cons_succ]))))
          refine t4_last rfl (by rfl) (fun K hK => ?_)
          have k0_0 := hs58.cellAt 0 rfl 0 rfl
          have k0_1 := hs58.cellAt 0 rfl 1 rfl
          have k0_2 := hs58.cellAt 0 rfl 2 rfl
          have c0_ := cellL hs58.bel c0
          have c1_ := cellL hs58.bel c1
          have c2_ := cellL hs58.bel c2
          have d0_ := cellL hs58.bel d0
          have d1_ := cellL hs58.bel d1
          have f0 := (hs58.freeAt 0 rfl 0)
          have f1 := (hs58.freeAt 0 rfl 1)
          have f2 := (hs58.freeAt 0 rfl 2)
          have hqb := hs58.box (wd7.heap.size, #[.slice none 0 0, .int .i64 0, .slice none 0 0], 89) (by simp)
          have hgG := hqb.2.1
          simp only at hgG
          have hqs := (((hs58.set (p := []) (by simp <;> omega) 0 (.slice (some ⟨gP, 0, none⟩) U cP)).set (p := []) (by simp <;> omega) 1 (.int .i64 Er)).set (p := []) (by simp <;> omega) 2 (.slice (some ⟨w54.heap.size, 0, none⟩) l.length l.length)).box (wd7.heap.size, #[.slice (some ⟨gP, 0, none⟩) U cP, .int .i64 Er, .slice (some ⟨w54.heap.size, 0, none⟩) l.length l.length], 89) (by simp)
          go_wp2_with fail
          refine t4_nil (NoPanic.normal ?_)
          go_wp2_with fail
          go_meet
          case rel =>
            have ho := (((OnlyAt.refl [wd7.heap.size] wM).setCell (p := ⟨wd7.heap.size, 0, none⟩) (by simp) (.slice (some ⟨gP, 0, none⟩) U cP)).setCell (p := ⟨wd7.heap.size, 1, none⟩) (by simp) (.int .i64 Er)).setCell (p := ⟨wd7.heap.size, 2, none⟩) (by simp) (.slice (some ⟨w54.heap.size, 0, none⟩) l.length l.length)
            have o1 := ownSl_ints (l := El) (by exact row_frame HROW_61.out (fun k hk => ho.block k (by simp [Value.ownBlock] at hk ⊢; omega))) HEL.out.symm HIE.out
            have o2 := ownSl_only HOM.out ho (fun k h1 h2 => by simp at h1 h2; omega)
            have hbb := HBL_60.out
            refine ⟨wd7.heap.size, gP, w54.heap.size, cP, rfl, ⟨hqs.2.2, rfl, rfl, rfl, o1, o2, by simp; omega, by simp; omega, by simp; omega⟩, ⟨by omega, by omega, by omega⟩, hbb.trans (ho.below (by simp; omega))⟩
        · refine t4_hard rfl (by rfl) (fun K hK => ?_)
          refine wp_make_rep _ _ _ 28 rfl E_ints (0 : Int) own0_int l.length (by omega) rfl rfl ?_
          intro wM hownM hbM hzM
          have HOM : Hid (OwnSl [wA.heap.size] wM (.slice (some ⟨wA.heap.size, 0, none⟩) l.length l.length) (List.replicate l.length (0 : Int))) := Lib.hid (by simpa using hownM)
          have hgM : wA.heap.size < wM.heap.size := by rw [hzM]; simp
          clear hownM hzM
          have hz_wM : wA.heap.size ≤ wM.heap.size := by have h9 := hbM.size; (try simp at h9); omega
          have hs62 := hs51.step hbM
          have HRD_63 := Lib.hid (Rd.mono HRD_52.out hbM)
          clear HRD_52
          have HBL_64 := Lib.hid (HBL_53.out.trans ((hbM).mono HBL_53.out.size))
          clear HBL_53
          refine hK _ _ ⟨⟨cellL hs62.bel c0, cellL hs62.bel c1, cellL hs62.bel c2, cellL hs62.bel d0, cellL hs62.bel d1⟩, ?_⟩
          (repeat (first | (apply t4_skip rfl (by rfl); try simp only [Act.put, List.setIfInBounds_toArray, List.set_cons_zero, List.set_cons_succ]) | (apply t4_float rfl (by rfl); (· (intro w' hS; go_simp <;> with_reducible rfl)); (try simp only [Act.put, List.setIfInBounds_toArray, List.set_cons_zero, List.set_cons_succ]))))
          refine t4_hard rfl (by rfl) (fun K hK => ?_)
          go_wp2_with (go_at_call 51; refine (l00Own_c El _ _ (Rd.mono HE.out hs62.bel) (by rw [HEL.out]; omega)).mono ?_; rintro e w65 ⟨v4, rfl, hA, hbw65⟩)
          have hz_w65 : wM.heap.size ≤ w65.heap.size := by have h9 := hbw65.size; (try simp at h9); omega
          have hs66 := hs62.step hbw65
          have HRD_67 := Lib.hid (Rd.mono HRD_63.out hbw65)
          clear HRD_63
          have HBL_68 := Lib.hid (HBL_64.out.trans ((hbw65).mono HBL_64.out.size))
          clear HBL_64
          have HOM_69 := Lib.hid (ownSl_mono HOM.out hbw65)
          clear HOM
          obtain ⟨gP, cP, rfl, hgP1, hgP2⟩ := hA.form' (by rw [HEL.out]; omega)
          have HROW := Lib.hid (row_base (acc_ints_get hA).1)
          have HIE := Lib.hid (acc_ints_get hA).2.2
          rw [HEL.out] at HROW
          rw [HEL.out]
          (try simp at hgP1)
          clear hA
          refine ⟨⟨cellL hs66.bel c0, cellL hs66.bel c1, cellL hs66.bel c2, cellL hs66.bel d0, cellL hs66.bel d1⟩, ?_⟩
          (repeat (first | (apply t4_skip rfl (by rfl); try simp only [Act.put, List.setIfInBounds_toArray, List.set_cons_zero, List.set_cons_succ]) | (apply t4_float rfl (by rfl); (· (intro w' hS; go_simp <;> with_reducible rfl)); (try simp only [Act.put, List.setIfInBounds_toArray, List.set_cons_zero, List.set_cons_succ]))))
          refine t4_last rfl (by rfl) (fun K hK => ?_)
          have k0_0 := hs66.cellAt 0 rfl 0 rfl
          have k0_1 := hs66.cellAt 0 rfl 1 rfl
          have k0_2 := hs66.cellAt 0 rfl 2 rfl
          have c0_ := cellL hs66.bel c0
          have c1_ := cellL hs66.bel c1
          have c2_ := cellL hs66.bel c2
          have d0_ := cellL hs66.bel d0
          have d1_ := cellL hs66.bel d1
          have f0 := (hs66.freeAt 0 rfl 0)
          have f1 := (hs66.freeAt 0 rfl 1)
          have f2 := (hs66.freeAt 0 rfl 2)
          have hqb := hs66.box (wd7.heap.size, #[.slice none 0 0, .int .i64 0, .slice none 0 0], 89) (by simp)
          have hgG := hqb.2.1
          simp only at hgG
          have hqs := (((hs66.set (p := []) (by simp <;> omega) 0 (.slice (some ⟨gP, 0, none⟩) U cP)).set (p := []) (by simp <;> omega) 1 (.int .i64 Er)).set (p := []) (by simp <;> omega) 2 (.slice (some ⟨wA.heap.size, 0, none⟩) l.length l.length)).box (wd7.heap.size, #[.slice (some ⟨gP, 0, none⟩) U cP, .int .i64 Er, .slice (some ⟨wA.heap.size, 0, none⟩) l.length l.length], 89) (by simp)
          go_wp2_with fail
          refine t4_nil (NoPanic.normal ?_)
          go_wp2_with fail
          go_meet
          case rel =>
            have ho := (((OnlyAt.refl [wd7.heap.size] w65).setCell (p := ⟨wd7.heap.size, 0, none⟩) (by simp) (.slice (some ⟨gP, 0, none⟩) U cP)).setCell (p := ⟨wd7.heap.size, 1, none⟩) (by simp) (.int .i64 Er)).setCell (p := ⟨wd7.heap.size, 2, none⟩) (by simp) (.slice (some ⟨wA.heap.size, 0, none⟩) l.length l.length)
            have o1 := ownSl_ints (l := El) (by exact row_frame HROW.out (fun k hk => ho.block k (by simp [Value.ownBlock] at hk ⊢; omega))) HEL.out.symm HIE.out
            have o2 := ownSl_only HOM_69.out ho (fun k h1 h2 => by simp at h1 h2; omega)
            have hbb := HBL_68.out
            refine ⟨wd7.heap.size, gP, wA.heap.size, cP, rfl, ⟨hqs.2.2, rfl, rfl, rfl, o1, o2, by simp; omega, by simp; omega, by simp; omega⟩, ⟨by omega, by omega, by omega⟩, hbb.trans (ho.below (by simp; omega))⟩
    case rest =>
      obtain ⟨g, gP, gM, cP, rfl, hrow, hge, hbl⟩ := hcut
      have hg1 := hge.out.1
      have hg2 := hge.out.2.1
      have hg3 := hge.out.2.2
      have HSB := Lib.hid hs2
      have hrow0 := hrow
      have hbl0 := hbl
      clear hrow hbl hge
      go_wp2_with fail
      go_loopw [9] (fun i wl => ∃ j : Nat, j ≤ (elimS (p, (U : Int), l)).2.length ∧ i = .int .i64 j ∧ Hid (RowIn wl g 0 #[.slice (some ⟨gP, 0, none⟩) U cP, .int .i64 (takenTo p (elimS (p, (U : Int), l)).1 (elimS (p, (U : Int), l)).2 (El, Er, List.replicate l.length 0) j).2.1, .slice (some ⟨gM, 0, none⟩) l.length l.length] 89 [gP] [gM] (.slice (some ⟨gP, 0, none⟩) U cP) (.slice (some ⟨gM, 0, none⟩) l.length l.length) (takenTo p (elimS (p, (U : Int), l)).1 (elimS (p, (U : Int), l)).2 (El, Er, List.replicate l.length 0) j)) ∧ Hid (Below wB.heap.size wB wl)) (fun i _ => (elimS (p, (U : Int), l)).2.length - (intOf i).toNat)
      case atStart => exact ⟨0, Nat.zero_le _, rfl, hrow0.out, hbl0.out⟩
      case round =>
        clear hrow0 hbl0
        obtain ⟨j, hj, rfl, hrow, hbl⟩ := hrel
        have hsr := HSB.out.step hbl.out
        have HTG := Lib.hid (taken_good KO.out (x := (El, Er, List.replicate l.length 0)) HGX.out j hj)
        simp only [Int.toNat_natCast] at HTG
        have HROW := hrow
        have HBL := hbl
        have c0_ := cellL hsr.bel c0
        have c1_ := cellL hsr.bel c1
        have c2_ := cellL hsr.bel c2
        have d0_ := cellL hsr.bel d0
        have d1_ := cellL hsr.bel d1
        by_cases hlt : j < (elimS (p, (U : Int), l)).2.length
        · obtain ⟨bq, hbq, hbU⟩ := KO.out.bs j hlt
          simp only [Int.toNat_natCast] at hbU
          have hjr : j < (elimS (p, (U : Int), l)).1.length := by rw [HLN.out]; omega
          have hfi := elim_first KO.out j hlt hjr
          rw [hbq] at hfi
          have HFI := Lib.hid hfi
          have HTS2 := Lib.hid (show takenTo p (elimS (p, (U : Int), l)).1 (elimS (p, (U : Int), l)).2 (El, Er, List.replicate l.length 0) (j + 1) = lessS p ((takenTo p (elimS (p, (U : Int), l)).1 (elimS (p, (U : Int), l)).2 (El, Er, List.replicate l.length 0) j).1.getD bq 0) (takenTo p (elimS (p, (U : Int), l)).1 (elimS (p, (U : Int), l)).2 (El, Er, List.replicate l.length 0) j) (elimS (p, (U : Int), l)).1[j] by
            rw [takenTo]
            simp only [List.getD, List.getElem?_eq_getElem hlt, List.getElem?_eq_getElem hjr, Option.getD_some, hbq, Int.toNat_natCast])
          obtain ⟨b2, e2, y0, y1, y2, e4, f0, f1, f2, hrw⟩ := rd_three_at rfl HRB.out j hjr
          simp only [Option.some.injEq, Addr.mk.injEq, and_true] at e4
          obtain ⟨rfl, rfl⟩ := e4
          rw [Nat.zero_add] at f0 f1 f2
          have hgr := KO.out.good _ (List.getElem_mem hjr)
          simp only [Int.toNat_natCast] at hgr
          have z0 := (rd_cons rfl hrw).1
          have z1 := (rd_cons rfl (rd_cons rfl hrw).2).1
          have z2 := (rd_cons rfl (rd_cons rfl hrw).2).2
          obtain ⟨a6, c6, e6, _⟩ := rd_list z0
          rw [hgr.len] at e6
          subst e6
          obtain ⟨e7, _⟩ := rd_i1 z1
          subst e7
          have HOT := Lib.hid (show wB.cell? ⟨g4, j * 3, none⟩ = some (.slice a6 U c6) ∧ wB.cell? ⟨g4, j * 3 + 1, none⟩ = some (.int .i64 (elimS (p, (U : Int), l)).1[j].2.1) ∧ wB.cell? ⟨g4, j * 3 + 2, none⟩ = some y2 ∧ Rd wB [.slice a6 U c6] (elimS (p, (U : Int), l)).1[j].1 ∧ Rd wB [y2] (elimS (p, (U : Int), l)).1[j].2.2 from ⟨f0, f1, f2, z0, z2⟩)
          have HY := Lib.hid (Rd.mono z0 hbl.out)
          have q0 := cellL hbl.out f0
          have HGR := Lib.hid hgr
          clear f0 f1 f2 hrw hgr z0 z1 z2 hfi hbq
          generalize (elimS (p, (U : Int), l)).1[j] = Y at *
          generalize hTT : takenTo p (elimS (p, (U : Int), l)).1 (elimS (p, (U : Int), l)).2 (El, Er, List.replicate l.length 0) j = T at *
          clear hTT
          have x0 := cell_at_block (o := 0) hrow.out.blk
          obtain ⟨b3, o3, eq3, t0, t1⟩ := rd_int_at (ownSl_rd hrow.out.own0) bq (by rw [HTG.out.len]; omega)
          simp only [Option.some.injEq, Addr.mk.injEq, and_true] at eq3
          obtain ⟨rfl, rfl⟩ := eq3
          rw [Nat.zero_add] at t0
          have hN := HTG.out.res.get bq (by rw [HTG.out.len]; omega)
          have HN := Lib.hid (show T.1.getD bq 0 = T.1[bq]'(by rw [HTG.out.len]; omega) by have h9 := HTG.out.len; simp only [List.getD, List.getElem?_eq_getElem (show bq < T.1.length by omega), Option.getD_some])
          generalize T.1[bq]'(by rw [HTG.out.len]; omega) = NN at *
          rw [HN.out] at HTS2
          have hN0 := hN.1
          have hN1 := hN.2
          have hjl : (j : Int) < l.length := by omega
          have hbUi : (bq : Int) < U := by omega
          go_upto_region 8 with fail
          refine wp_region_noPanic (wp_region_tree4 (fun w' => w'.cell? ⟨sb, 0, none⟩ = some (.int .i64 p) ∧ w'.cell? ⟨sb, 1, none⟩ = some (.int .i64 U) ∧ w'.cell? ⟨sb, 2, none⟩ = some (.slice a l.length c) ∧ w'.cell? ⟨eb, 0, none⟩ = some (.slice ae U ce) ∧ w'.cell? ⟨eb, 1, none⟩ = some (.int .i64 Er) ∧ w'.cell? ⟨g4, j * 3, none⟩ = some (.slice a6 U c6) ∧ w'.cell? ⟨g, 0, none⟩ = some (.slice (some ⟨gP, 0, none⟩) U cP) ∧ w'.cell? ⟨gP, bq, none⟩ = some (.int .i64 NN)) (.float 0 (.float 1 (.float 2 (.float 3 (.float 4 (.float 5 (.float 6 (.float 7 (.float 8 (.float 9 (.float 13 (.float 14 (.float 15 (.float 16 (.hard 10 (.float 11 (.float 12 (.last 17 .nil)))))))))))))))))) (by kernel_rfl) (by kernel_rfl) (by kernel_rfl) rfl ?_ (fun _ _ _ _ _ h => h) ?_)
          · exact ⟨cellL (hsr.drew).bel c0, cellL (hsr.drew).bel c1, cellL (hsr.drew).bel c2, cellL (hsr.drew).bel d0, cellL (hsr.drew).bel d1, cellL (belowD _) q0, cellL (belowD _) x0, cellL (belowD _) t0⟩
          have hs70 := hsr.drew
          have q0_71 := cellL (belowD _) q0
          clear q0
          have x0_72 := cellL (belowD _) x0
          clear x0
          have t0_73 := cellL (belowD _) t0
          clear t0
          have HY_74 := Lib.hid (Rd.mono HY.out (belowD _))
          clear HY
          have HROW_75 := Lib.hid (RowIn.mono HROW.out (belowD _))
          clear HROW
          have HBL_76 := Lib.hid (HBL.out.trans (((belowD _)).mono HBL.out.size))
          clear HBL
          clear c0_ c1_ c2_ d0_ d1_
          have hz_wd77 : wr.heap.size ≤ (wr.drew).heap.size := by simp
          generalize hgen_wd77 : wr.drew = wd77 at *
          have HG_wd77 := Lib.hid hgen_wd77
          clear hgen_wd77
          (repeat (first | (apply t4_skip rfl (by rfl); try simp only [Act.put, List.setIfInBounds_toArray, List.set_cons_zero, List.set_cons_succ]) | (apply t4_float rfl (by rfl); (· (intro w' hS; go_simp <;> with_reducible rfl)); (try simp only [Act.put, List.setIfInBounds_toArray, List.set_cons_zero, List.set_cons_succ]))))
          refine t4_hard rfl (by rfl) (fun K hK => ?_)
          go_wp2_with (go_at_call 53; refine (l07First_c Y.1 _ _ HY_74.out).mono ?_; rintro e w78 ⟨rfl, rfl⟩)
          rw [HFI.out]
          refine ⟨⟨cellL hs70.bel c0, cellL hs70.bel c1, cellL hs70.bel c2, cellL hs70.bel d0, cellL hs70.bel d1, q0_71, x0_72, t0_73⟩, ?_⟩
          (repeat (first | (apply t4_skip rfl (by rfl); try simp only [Act.put, List.setIfInBounds_toArray, List.set_cons_zero, List.set_cons_succ]) | (apply t4_float rfl (by rfl); (· (intro w' hS; go_simp <;> with_reducible rfl)); (try simp only [Act.put, List.setIfInBounds_toArray, List.set_cons_zero, List.set_cons_succ]))))
          refine t4_last rfl (by rfl) (fun K hK => ?_)
          have c0_ := cellL hs70.bel c0
          have c1_ := cellL hs70.bel c1
          have c2_ := cellL hs70.bel c2
          have d0_ := cellL hs70.bel d0
          have d1_ := cellL hs70.bel d1
          have hrw0 := HROW_75.out
          have hoth : ∀ (w' : World) (x : Int), OnlyAt (g :: ([gP] ++ [gM])) wd77 w' → w'.heap[g]? = some (.cells (Array.setIfInBounds #[.slice (some ⟨gP, 0, none⟩) U cP, .int .i64 T.2.1, .slice (some ⟨gM, 0, none⟩) l.length l.length] (0 + 1) (.int .i64 x)) 89 (0, 0)) → OthIn w' g4 (j * 3) (.slice a6 U c6) y2 Y := fun w' x h1 h2 => by
            have hb9 := HBL_76.out.trans (h1.below (B := wB.heap.size) (by simp; omega))
            exact ⟨cellL hb9 HOT.out.1, cellL hb9 HOT.out.2.1, cellL hb9 HOT.out.2.2.1, Rd.mono HOT.out.2.2.2.1 hb9, Rd.mono HOT.out.2.2.2.2 hb9⟩
          have HOTH := Lib.hid hoth
          clear hoth hrw0
          go_wp2_with (go_at_call 52; refine (less_c p NN T Y g 0 g4 (j * 3) _ _ [gP] [gM] _ _ _ y2 _ HROW_75.out HOTH.out hp0 hp3 (by omega) (by omega) HTG.out.res HTG.out.right HTG.out.resBy HGR.out.res HGR.out.right HGR.out.resBy (by rw [HTG.out.len, HGR.out.len]) (by rw [HTG.out.by_, HGR.out.by_])).mono ?_; rintro e wS ⟨rfl, hrS, hoS⟩)
          refine t4_nil (NoPanic.normal ?_)
          have HRS := Lib.hid hrS
          have HB9 := Lib.hid (HBL_76.out.trans (hoS.below (B := wB.heap.size) (by simp; omega)))
          clear hrS hoS
          go_wp2_with fail
          go_roundw
          case rel =>
            refine ⟨j + 1, hlt, by go_num, ?_, HB9.out⟩
            rw [HTS2.out]
            exact HRS.out
          case measure => simp [intOf]; omega
        · obtain rfl : j = (elimS (p, (U : Int), l)).2.length := by omega
          rw [← HTS.out] at HROW hrow HTG
          have HGT2 := HGT
          generalize takenS (p, (U : Int), l) (El, Er) = T at *
          have x0 := cell_at_block (o := 0) hrow.out.blk
          have x1 := cell_at_block (o := 1) hrow.out.blk
          have x2 := cell_at_block (o := 2) hrow.out.blk
          have HRL := Lib.hid (ownSl_rd hrow.out.own0)
          go_wp2_with fail
          refine (l07First_c T.1 _ _ HRL.out).mono ?_
          rintro e w79 ⟨rfl, rfl⟩
          cases h1 : T.1.all (fun a => a == 0) with
          | false =>
            have H6 := Lib.hid (H4.out (by rw [h1]; rfl))
            have hfi : 0 ≤ firstI (fun a => a != 0) T.1 := of_decide_eq_true (by rw [firstI_none, h1]; rfl)
            clear h1
            generalize firstI (fun a => a != 0) T.1 = FI at *
            go_wp2_with fail
            have hq9 := hsr.step (belowA _ (.cells #[] 2))
            refine bodyPost_ret (v := .tuple #[.slice (some ⟨wr.heap.size, 0, none⟩) 0 0, .int .i64 6]) (by simp [results, Try.results26, go_sem]) rfl ⟨.slice (some ⟨wr.heap.size, 0, none⟩) 0 0, ?_, ?_, hq9.bel⟩
            · rw [H6.out]
            · rw [H6.out]; exact fresh_nil _
          | true =>
            have HN1 := Lib.hid h1
            have hfi : ¬ 0 ≤ firstI (fun a => a != 0) T.1 := of_decide_eq_false (by rw [firstI_none, h1]; rfl)
            clear h1
            have hfi2 : firstI (fun a => a != 0) T.1 < 0 := by omega
            generalize firstI (fun a => a != 0) T.1 = FI at *
            clear hfi
            cases h2 : (T.2.1 == 0) with
            | false =>
              have h3 : (T.2.1 != 0) = true := by simp only [bne, h2]; rfl
              have H6 := Lib.hid (H4.out (by rw [HN1.out, h2]; rfl))
              clear h2
              go_wp2_with fail
              have hq9 := hsr.step (belowA _ (.cells #[] 2))
              refine bodyPost_ret (v := .tuple #[.slice (some ⟨wr.heap.size, 0, none⟩) 0 0, .int .i64 6]) (by simp [results, Try.results26, go_sem]) rfl ⟨.slice (some ⟨wr.heap.size, 0, none⟩) 0 0, ?_, ?_, hq9.bel⟩
              · rw [H6.out]
              · rw [H6.out]; exact fresh_nil _
            | true =>
              have h3 : (T.2.1 != 0) = false := by simp only [bne, h2]; rfl
              have H6 := Lib.hid (H5.out (by rw [HN1.out, h2]; rfl))
              clear h2
              have hszW : w.heap.size ≤ wB.heap.size := by omega
              go_upto_region 11 with fail
              refine wp_region_noPanic (wp_region_tree4 (fun w' => w'.cell? ⟨sb, 0, none⟩ = some (.int .i64 p) ∧ w'.cell? ⟨sb, 1, none⟩ = some (.int .i64 U) ∧ w'.cell? ⟨sb, 2, none⟩ = some (.slice a l.length c) ∧ w'.cell? ⟨eb, 0, none⟩ = some (.slice ae U ce) ∧ w'.cell? ⟨eb, 1, none⟩ = some (.int .i64 Er)) (.float 0 (.float 1 (.float 2 (.float 3 (.float 4 (.float 5 (.float 6 (.float 7 (.float 8 (.last 9 .nil)))))))))) (by kernel_rfl) (by kernel_rfl) (by kernel_rfl) rfl ?_ (fun _ _ _ _ _ h => h) ?_)
              · exact ⟨cellL (hsr.drew).bel c0, cellL (hsr.drew).bel c1, cellL (hsr.drew).bel c2, cellL (hsr.drew).bel d0, cellL (hsr.drew).bel d1⟩
              have hs80 := hsr.drew
              have HROW_81 := Lib.hid (RowIn.mono HROW.out (belowD _))
              clear HROW
              have HBL_82 := Lib.hid (HBL.out.trans (((belowD _)).mono HBL.out.size))
              clear HBL
              clear c0_ c1_ c2_ d0_ d1_
              have hz_wd83 : wr.heap.size ≤ (wr.drew).heap.size := by simp
              generalize hgen_wd83 : wr.drew = wd83 at *
              have HG_wd83 := Lib.hid hgen_wd83
              clear hgen_wd83
              (repeat (first | (apply t4_skip rfl (by rfl); try simp only [Act.put, List.setIfInBounds_toArray, List.set_cons_zero, List.set_cons_succ]) | (apply t4_float rfl (by rfl); (· (intro w' hS; go_simp <;> with_reducible rfl)); (try simp only [Act.put, List.setIfInBounds_toArray, List.set_cons_zero, List.set_cons_succ]))))
              refine t4_last rfl (by rfl) (fun K hK => ?_)
              have c0_ := cellL hs80.bel c0
              have c1_ := cellL hs80.bel c1
              have c2_ := cellL hs80.bel c2
              have d0_ := cellL hs80.bel d0
              have d1_ := cellL hs80.bel d1
              go_wp2_with (go_at_call 54; refine (scale_c p (p - 1) T g 0 _ _ [gP] [gM] _ _ _ HROW_81.out hp0 hp3 (by omega) (by omega) HTG.out.res HTG.out.right HTG.out.resBy).mono ?_; rintro e wS ⟨rfl, hrS, hoS⟩)
              refine t4_nil (NoPanic.normal ?_)
              have j2 : wS.cell? ⟨g, 2, none⟩ = some (.slice (some ⟨gM, 0, none⟩) l.length l.length) := by rw [cell_at_block hrS.blk]; exact hrS.c2
              have HRS := Lib.hid hrS.own2
              have HB9 := Lib.hid (HSB.out.bel.trans ((HBL_82.out.trans (hoS.below (B := wB.heap.size) (by simp; omega))).mono hszW))
              clear hrS hoS
              go_wp2_with fail
              refine bodyPost_ret (v := .tuple #[.slice (some ⟨gM, 0, none⟩) l.length l.length, .int .i64 0]) (by simp [results, Try.results26, go_sem]) rfl ⟨.slice (some ⟨gM, 0, none⟩) l.length l.length, ?_, ?_, HB9.out⟩
              · rw [H6.out]
              · rw [H6.out]; exact ⟨[gM], ⟨_, rfl, HRS.out⟩, by simp, by simp; omega⟩
theorem deriveF_small (s : Sys) (x : Eqn) : (deriveF s x).1.length ≤ 1000000 := by
  rcases faultF_cases s x with ⟨h1, h2⟩ | ⟨h1, h2, h3⟩ | ⟨h1, h2, h3⟩
  · unfold deriveF; rw [if_neg (by rw [h2]; decide)]; simp
  · unfold deriveF; rw [if_neg (by rw [h3]; decide)]; simp
  · unfold deriveF; rw [if_pos h3]
    have K := elim_ok h1
    have hl := K.hl
    have hg := (taken_len K h2).by_
    unfold derF
    split
    · simp
    · split
      · simp only [scaleS, scaleL, List.length_zipWith, Nat.min_self]; omega
      · simp
theorem derF_codes (s : Sys) (x : Eqn) : (derF s x).2 = 0 ∨ (derF s x).2 = 4 ∨ (derF s x).2 = 6 := by
  unfold derF
  split
  · simp
  · split <;> simp
set_option maxRecDepth 100000 in
set_option maxHeartbeats 8000000 in
theorem sDerivationOf_c (s : Sys) (v0 v1 v2 : Value) (x : Eqn) (e0 e1 : Value) (w : World) (hx : Rd w [v0, v1, v2] s) (he : Rd w [e0, e1] x) :
    Calls Try.prog 10 #[.agg #[v0, v1, v2], .agg #[e0, e1]] w fun e w' => ∃ v, e = .returned (.tuple #[v, .int .i64 (deriveF s x).2]) ∧ Fresh w.heap.size w' [v] (deriveF s x).1 ∧ Below w.heap.size w w' := by
  obtain ⟨p, u, l⟩ := s
  obtain ⟨El, Er⟩ := x
  have HX := Lib.hid hx
  have HE := Lib.hid he
  have z := rd_cons rfl hx
  obtain ⟨rfl, _⟩ := rd_i1 z.1
  have z2 := rd_cons rfl z.2
  obtain ⟨rfl, _⟩ := rd_i1 z2.1
  obtain ⟨a, c, rfl, _⟩ := rd_list z2.2
  have ze := rd_cons rfl he
  obtain ⟨ae, ce, rfl, _⟩ := rd_list ze.1
  obtain ⟨rfl, _⟩ := rd_i1 ze.2
  clear hx he z z2 ze
  have hs84 := (St.start w).alloc #[.int .i64 p, .int .i64 u, .slice a l.length c] 26 (n := w.heap.size) (by simp)
  have k0_0 := hs84.cellAt 0 rfl 0 rfl
  have k0_1 := hs84.cellAt 0 rfl 1 rfl
  have k0_2 := hs84.cellAt 0 rfl 2 rfl
  have hs85 := hs84.alloc #[.slice ae El.length ce, .int .i64 Er] 30 (n := w.heap.size + 1) (by simp)
  clear k0_0 k0_1 k0_2
  have k0_0 := hs85.cellAt 0 rfl 0 rfl
  have k0_1 := hs85.cellAt 0 rfl 1 rfl
  have k0_2 := hs85.cellAt 0 rfl 2 rfl
  have k1_0 := hs85.cellAt 1 rfl 0 rfl
  have k1_1 := hs85.cellAt 1 rfl 1 rfl
  go_enter Try.func10, Try.ntmps10
  go_wp2_with fail
  refine (l07Asked_c (p, u, l) (El, Er) _ _ _ _ _ _ _ _ (Rd.mono HX.out hs85.bel) (Rd.mono HE.out hs85.bel) (hs85.cellAt 0 rfl 0 rfl) (hs85.cellAt 0 rfl 1 rfl) (hs85.cellAt 0 rfl 2 rfl) (hs85.cellAt 1 rfl 0 rfl) (hs85.cellAt 1 rfl 1 rfl)).mono ?_
  rintro e w86 ⟨rfl, hbw86⟩
  have hz_w86 : w.heap.size + 1 + 1 ≤ w86.heap.size := by have h9 := hbw86.size; (try simp at h9); omega
  have hs87 := hs85.step hbw86
  clear k0_0 k0_1 k0_2 k1_0 k1_1
  have k0_0 := hs87.cellAt 0 rfl 0 rfl
  have k0_1 := hs87.cellAt 0 rfl 1 rfl
  have k0_2 := hs87.cellAt 0 rfl 2 rfl
  have k1_0 := hs87.cellAt 1 rfl 0 rfl
  have k1_1 := hs87.cellAt 1 rfl 1 rfl
  rcases faultF_cases (p, u, l) (El, Er) with ⟨h1, h2⟩ | ⟨h1, h2, h3⟩ | ⟨h1, h2, h3⟩
  · rw [h2]
    have H2 := Lib.hid (show deriveF (p, u, l) (El, Er) = ([], 1) by unfold deriveF; rw [if_neg (by rw [h2]; decide), h2])
    clear h1 h2
    go_wp2_with fail
    have hq9 := hs87.step (belowA _ (.cells #[] 2))
    refine bodyPost_ret (v := .tuple #[.slice (some ⟨w86.heap.size, 0, none⟩) 0 0, .int .i64 1]) (by simp [results, Try.results10, go_sem]) rfl ⟨.slice (some ⟨w86.heap.size, 0, none⟩) 0 0, ?_, ?_, hq9.bel⟩
    · rw [H2.out]
    · rw [H2.out]; exact fresh_nil _
  · rw [h3]
    have H2 := Lib.hid (show deriveF (p, u, l) (El, Er) = ([], 2) by unfold deriveF; rw [if_neg (by rw [h3]; decide), h3])
    clear h1 h2 h3
    go_wp2_with fail
    have hq9 := hs87.step (belowA _ (.cells #[] 2))
    refine bodyPost_ret (v := .tuple #[.slice (some ⟨w86.heap.size, 0, none⟩) 0 0, .int .i64 2]) (by simp [results, Try.results10, go_sem]) rfl ⟨.slice (some ⟨w86.heap.size, 0, none⟩) 0 0, ?_, ?_, hq9.bel⟩
    · rw [H2.out]
    · rw [H2.out]; exact fresh_nil _
  · rw [h3]
    have H2 := Lib.hid (show deriveF (p, u, l) (El, Er) = derF (p, u, l) (El, Er) by unfold deriveF; rw [if_pos h3])
    have HK := Lib.hid h1
    have HQ := Lib.hid h2
    clear h1 h2 h3
    go_wp2_with fail
    refine (l07Derive_c (p, u, l) (El, Er) _ _ _ _ _ _ _ _ (Rd.mono HX.out hs87.bel) (Rd.mono HE.out hs87.bel) (hs87.cellAt 0 rfl 0 rfl) (hs87.cellAt 0 rfl 1 rfl) (hs87.cellAt 0 rfl 2 rfl) (hs87.cellAt 1 rfl 0 rfl) (hs87.cellAt 1 rfl 1 rfl) HK.out HQ.out).mono ?_
    rintro e w88 ⟨v, rfl, fr, hbw88⟩
    have hz_w88 : w86.heap.size ≤ w88.heap.size := by have h9 := hbw88.size; (try simp at h9); omega
    have hs89 := hs87.step hbw88
    clear k0_0 k0_1 k0_2 k1_0 k1_1
    have k0_0 := hs89.cellAt 0 rfl 0 rfl
    have k0_1 := hs89.cellAt 0 rfl 1 rfl
    have k0_2 := hs89.cellAt 0 rfl 2 rfl
    have k1_0 := hs89.cellAt 1 rfl 0 rfl
    have k1_1 := hs89.cellAt 1 rfl 1 rfl
    have HFR := Lib.hid fr
    have hlo := hs89.lo
    clear fr
    go_wp2_with fail
    refine bodyPost_ret (v := .tuple #[v, .int .i64 (derF (p, u, l) (El, Er)).2]) (by simp [results, Try.results10, go_sem]) rfl ⟨v, ?_, ?_, hs89.bel⟩
    · rw [H2.out]
    · rw [H2.out]; exact HFR.out.lower (by (try simp) <;> omega)
set_option maxRecDepth 100000 in
set_option maxHeartbeats 8000000 in
theorem Follows_c (s : Sys) (v0 v1 v2 : Value) (x : Eqn) (e0 e1 : Value) (w : World) (hx : Rd w [v0, v1, v2] s) (he : Rd w [e0, e1] x) :
    Calls Try.prog 8 #[.agg #[v0, v1, v2], .agg #[e0, e1]] w fun e w' => e = .returned (.tuple #[.bool (followsF s x).1, .int .i64 (followsF s x).2]) ∧ Below w.heap.size w w' := by
  obtain ⟨p, u, l⟩ := s
  obtain ⟨El, Er⟩ := x
  have HX := Lib.hid hx
  have HE := Lib.hid he
  have z := rd_cons rfl hx
  obtain ⟨rfl, _⟩ := rd_i1 z.1
  have z2 := rd_cons rfl z.2
  obtain ⟨rfl, _⟩ := rd_i1 z2.1
  obtain ⟨a, c, rfl, _⟩ := rd_list z2.2
  have ze := rd_cons rfl he
  obtain ⟨ae, ce, rfl, _⟩ := rd_list ze.1
  obtain ⟨rfl, _⟩ := rd_i1 ze.2
  clear hx he z z2 ze
  have hs90 := (St.start w).alloc #[.int .i64 p, .int .i64 u, .slice a l.length c] 26 (n := w.heap.size) (by simp)
  have k0_0 := hs90.cellAt 0 rfl 0 rfl
  have k0_1 := hs90.cellAt 0 rfl 1 rfl
  have k0_2 := hs90.cellAt 0 rfl 2 rfl
  have hs91 := hs90.alloc #[.slice ae El.length ce, .int .i64 Er] 30 (n := w.heap.size + 1) (by simp)
  clear k0_0 k0_1 k0_2
  have k0_0 := hs91.cellAt 0 rfl 0 rfl
  have k0_1 := hs91.cellAt 0 rfl 1 rfl
  have k0_2 := hs91.cellAt 0 rfl 2 rfl
  have k1_0 := hs91.cellAt 1 rfl 0 rfl
  have k1_1 := hs91.cellAt 1 rfl 1 rfl
  go_enter Try.func8, Try.ntmps8
  go_wp2_with fail
  refine (DerivationOf_c (p, u, l) _ _ _ (El, Er) _ _ _ (Rd.mono HX.out hs91.bel) (Rd.mono HE.out hs91.bel)).mono ?_
  rintro e w92 ⟨v, rfl, fr, hbw92⟩
  have hz_w92 : w.heap.size + 1 + 1 ≤ w92.heap.size := by have h9 := hbw92.size; (try simp at h9); omega
  have hs93 := hs91.step hbw92
  clear k0_0 k0_1 k0_2 k1_0 k1_1
  have k0_0 := hs93.cellAt 0 rfl 0 rfl
  have k0_1 := hs93.cellAt 0 rfl 1 rfl
  have k0_2 := hs93.cellAt 0 rfl 2 rfl
  have k1_0 := hs93.cellAt 1 rfl 0 rfl
  have k1_1 := hs93.cellAt 1 rfl 1 rfl
  clear fr
  rcases faultF_cases (p, u, l) (El, Er) with ⟨h1, h2⟩ | ⟨h1, h2, h3⟩ | ⟨h1, h2, h3⟩
  · rw [show (deriveF (p, u, l) (El, Er)).2 = 1 by unfold deriveF; rw [if_neg (by rw [h2]; decide), h2]]
    have H2 := Lib.hid (show followsF (p, u, l) (El, Er) = (false, 1) by unfold followsF; rw [if_neg (by rw [h2]; decide), h2])
    clear h1 h2
    go_wp2_with fail
    refine bodyPost_ret (v := .tuple #[.bool false, .int .i64 1]) (by simp [results, Try.results8, go_sem]) rfl ⟨?_, hs93.bel⟩
    rw [H2.out]
  · rw [show (deriveF (p, u, l) (El, Er)).2 = 2 by unfold deriveF; rw [if_neg (by rw [h3]; decide), h3]]
    have H2 := Lib.hid (show followsF (p, u, l) (El, Er) = (false, 2) by unfold followsF; rw [if_neg (by rw [h3]; decide), h3])
    clear h1 h2 h3
    go_wp2_with fail
    refine bodyPost_ret (v := .tuple #[.bool false, .int .i64 2]) (by simp [results, Try.results8, go_sem]) rfl ⟨?_, hs93.bel⟩
    rw [H2.out]
  · rw [show (deriveF (p, u, l) (El, Er)).2 = (derF (p, u, l) (El, Er)).2 by unfold deriveF; rw [if_pos h3]]
    have H2 := Lib.hid (show followsF (p, u, l) (El, Er) = (!((derF (p, u, l) (El, Er)).2 == 6), 0) by unfold followsF; rw [if_pos h3])
    clear h1 h2 h3
    rcases derF_codes (p, u, l) (El, Er) with h | h | h
    · rw [h]
      have H3 := Lib.hid h
      clear h
      go_wp2_with fail
      refine bodyPost_ret (v := .tuple #[.bool true, .int .i64 0]) (by simp [results, Try.results8, go_sem]) rfl ⟨?_, hs93.bel⟩
      rw [H2.out, H3.out]; rfl
    · rw [h]
      have H3 := Lib.hid h
      clear h
      go_wp2_with fail
      refine bodyPost_ret (v := .tuple #[.bool true, .int .i64 0]) (by simp [results, Try.results8, go_sem]) rfl ⟨?_, hs93.bel⟩
      rw [H2.out, H3.out]; rfl
    · rw [h]
      have H3 := Lib.hid h
      clear h
      go_wp2_with fail
      refine bodyPost_ret (v := .tuple #[.bool false, .int .i64 0]) (by simp [results, Try.results8, go_sem]) rfl ⟨?_, hs93.bel⟩
      rw [H2.out, H3.out]; rfl

end Go.Proofs.Ytpejlnofaijmaaa
