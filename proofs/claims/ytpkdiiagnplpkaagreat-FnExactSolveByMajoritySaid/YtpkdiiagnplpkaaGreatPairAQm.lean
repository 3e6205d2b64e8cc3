import Derived.Test.YtpkdiiagnplpkaaGreatArcMBQm
set_option linter.unusedSimpArgs false
set_option linter.unusedVariables false
set_option maxHeartbeats 8000000
set_option maxRecDepth 100000
namespace Go.Proofs.YtpkdiiagnplpkaaGreat
open Go.RowKit Go.Shelf Go.IntWalk
open Rep (Rd Own sz)
def offB (sc y : List Int) (i j a b : Int) (p : Nat) : Bool := (sc.getD p 0 == i && y.getD p 0 != a) || (sc.getD p 0 == j && y.getD p 0 != b)
def tellsY (sc : List Int) (i j a b : Int) (y : List Int) : Bool := (List.range sc.length).all (fun p => !offB sc y i j a b p) && wholeB sc y
def tellsB (ts : List (List Int)) (sc : List Int) (i j a b : Int) : Bool := (!hasI sc i && !hasI sc j) || ts.any (tellsY sc i j a b)
theorem tellsY_not {sc y : List Int} {i j a b : Int} {p : Nat} (hp : p < sc.length) (h : offB sc y i j a b p = true) : tellsY sc i j a b y = false := by
 unfold tellsY
 rw [Bool.and_eq_false_iff]
 left
 rw [List.all_eq_false]
 exact ⟨p, List.mem_range.2 hp, by rw [h]; decide⟩
theorem tellsY_of {sc y : List Int} {i j a b : Int} (h : ∀ p, p < sc.length → offB sc y i j a b p = false) : tellsY sc i j a b y = wholeB sc y := by
 unfold tellsY
 have : (List.range sc.length).all (fun p => !offB sc y i j a b p) = true := by
  rw [List.all_eq_true]
  intro p hp
  rw [h p (List.mem_range.1 hp)]
  rfl
 rw [this, Bool.true_and]
theorem allows1_by (ci : Int) (sc : List Int) (i j a b : Int) (bc bi bj ba bb : Nat) (v1 : Value) (ts : List (List Int)) (w : World) (hIc : I64 ci) (hsc : Rd w [v1] sc)
 (hc0 : w.cell? ⟨bc, 0, none⟩ = some (.int .i64 ci)) (hc1 : w.cell? ⟨bc, 1, none⟩ = some v1) (hi : w.cell? ⟨bi, 0, none⟩ = some (.int .i64 i)) (hj : w.cell? ⟨bj, 0, none⟩ = some (.int .i64 j)) (ha : w.cell? ⟨ba, 0, none⟩ = some (.int .i64 a)) (hb : w.cell? ⟨bb, 0, none⟩ = some (.int .i64 b))
 (hts : ∀ y, y ∈ ts → y.length = sc.length) :
 PredL 178 #[.pointer (some ⟨bc, 0, none⟩), .pointer (some ⟨bi, 0, none⟩), .pointer (some ⟨ba, 0, none⟩), .pointer (some ⟨bj, 0, none⟩), .pointer (some ⟨bb, 0, none⟩)] w ts (tellsY sc i j a b) := by
 intro W y u0 hbel hy hmem
 have HYL := qH (hts y hmem)
 obtain ⟨gc0, gc1, gi, gj, ga, gb⟩ := cL6 hbel hc0 hc1 hi hj ha hb
 have HSC := qH (Rd.mono hsc hbel)
 have HY := qH hy
 have HIC := qH hIc
 clear hc0 hc1 hi hj ha hb hsc hbel hmem hts hIc
 show Calls Tryz.prog 178 #[u0, .pointer (some ⟨bc, 0, none⟩), .pointer (some ⟨bi, 0, none⟩), .pointer (some ⟨ba, 0, none⟩), .pointer (some ⟨bj, 0, none⟩), .pointer (some ⟨bb, 0, none⟩)] W _
 obtain ⟨asc, csc, rfl, hscr⟩ := rd_list HSC.out
 obtain ⟨ay, cy, rfl, _⟩ := rd_list hy
 have hlb := (rdSl_len hscr).2
 unfold maxLen at hlb
 clear hy hscr
 have HCR := qH (show Rd W [.int .i64 ci, .slice asc sc.length csc] (ci, sc) from ⟨[_], [_], rfl, ⟨rfl, HIC.out⟩, HSC.out⟩)
 have gc0_ := qC (St.start W).bel gc0
 clear gc0_
 obtain ⟨gc0_, gc1_⟩ := cL2 (St.start W).bel gc0 gc1
 clear gc0_ gc1_
 obtain ⟨gc0_, gc1_, gi_⟩ := cL3 (St.start W).bel gc0 gc1 gi
 clear gc0_ gc1_ gi_
 obtain ⟨gc0_, gc1_, gi_, gj_⟩ := cL4 (St.start W).bel gc0 gc1 gi gj
 clear gc0_ gc1_ gi_ gj_
 obtain ⟨gc0_, gc1_, gi_, gj_, ga_⟩ := cL5 (St.start W).bel gc0 gc1 gi gj ga
 clear gc0_ gc1_ gi_ gj_ ga_
 obtain ⟨gc0_, gc1_, gi_, gj_, ga_, gb_⟩ := cL6 (St.start W).bel gc0 gc1 gi gj ga gb
 go_enter Tryz.func178, Tryz.ntmps178
 go_wp2_with fail
 go_loopw [13] (fun i' wl => ∃ p : Nat, p ≤ sc.length ∧ i' = .int .i64 p ∧ Hid (Below W.heap.size W wl) ∧ Hid (∀ q, q < p → offB sc y i j a b q = false)) (fun i' _ => sc.length - (intOf i').toNat)
 case atStart => exact ⟨0, Nat.zero_le _, rfl, Below.refl _ _, fun q hq => absurd hq (Nat.not_lt_zero _)⟩
 case round =>
  obtain ⟨p, hp, rfl, hbl, hr⟩ := hrel
  have hs2 := (St.start W).step hbl.out
  obtain ⟨gc0_, gc1_, gi_, gj_, ga_, gb_⟩ := cL6 hs2.bel gc0 gc1 gi gj ga gb
  have HB := hbl
  by_cases hlt : p < sc.length
  · have hpI : (p : Int) < sc.length := by omega
    have hpy : p < y.length := by have := HYL.out; omega
    have hpyI : (p : Int) < y.length := by omega
    obtain ⟨b1, o1, rfl, qk, _⟩ := rd_int_at (Rd.mono HSC.out hs2.bel) p hlt
    obtain ⟨b2, o2, rfl, qy, _⟩ := rd_int_at (Rd.mono HY.out hs2.bel) p hpy
    have HOF := qH (show offB sc y i j a b p = ((sc[p] == i && y[p] != a) || (sc[p] == j && y[p] != b)) by
     unfold offB
     rw [show sc.getD p 0 = sc[p] by rw [List.getD, List.getElem?_eq_getElem hlt]; rfl, show y.getD p 0 = y[p] by rw [List.getD, List.getElem?_eq_getElem hpy]; rfl])
    have HNX := qH (fun (h : offB sc y i j a b p = false) => show ∀ q, q < p + 1 → offB sc y i j a b q = false from fun q hq => by
     rcases Nat.lt_or_ge q p with h1 | h1
     · exact hr.out q h1
     · obtain rfl : q = p := by omega
       exact h)
    have HNO := qH (fun (h : offB sc y i j a b p = true) => tellsY_not hlt h)
    generalize sc[p] = SP at *
    generalize y[p] = YP at *
    cases h1 : (SP == i) with
    | true =>
     cases h2 : (YP != a) with
     | true =>
      have H9 := qH (HNO.out (by rw [HOF.out, h1, h2]; rfl))
      go_upto_region 4 with fail
      refine t4R (fun w' => w'.cell? ⟨bc, 0, none⟩ = some (.int .i64 ci) ∧ w'.cell? ⟨bc, 1, none⟩ = some (.slice (some ⟨b1, o1, none⟩) sc.length csc) ∧ w'.cell? ⟨bi, 0, none⟩ = some (.int .i64 i) ∧ w'.cell? ⟨bj, 0, none⟩ = some (.int .i64 j) ∧ w'.cell? ⟨ba, 0, none⟩ = some (.int .i64 a) ∧ w'.cell? ⟨bb, 0, none⟩ = some (.int .i64 b) ∧ w'.cell? ⟨b1, o1 + p, none⟩ = some (.int .i64 SP) ∧ w'.cell? ⟨b2, o2 + p, none⟩ = some (.int .i64 YP)) (.float 0 (.float 1 (.float 2 (.float 3 (.float 4 (.float 5 (.float 6 (.float 7 (.float 8 (.float 9 (.float 10 (.float 11 (.float 12 (.float 13 (.float 14 (.float 15 (.float 16 (.float 17 (.float 18 (.float 19 (.float 20 (.float 21 (.float 22 (.float 23 .nil)))))))))))))))))))))))) ?_ ?_
      · exact ⟨qC (hs2.drew).bel gc0, qC (hs2.drew).bel gc1, qC (hs2.drew).bel gi, qC (hs2.drew).bel gj, qC (hs2.drew).bel ga, qC (hs2.drew).bel gb, qC (belowD _) qk, qC (belowD _) qy⟩
      have hs1 := hs2.drew
      have qk_2 := qC (belowD _) qk
      clear qk
      have qy_3 := qC (belowD _) qy
      clear qy
      clear HB
      clear gc0_ gc1_ gi_ gj_ ga_ gb_
      have hz_wd5 : wr.heap.size ≤ (wr.drew).heap.size := by simp
      generalize hgen_wd5 : wr.drew = wd5 at *
      clear hgen_wd5
      refine t4F ?_
      obtain ⟨gc0_, gc1_, gi_, gj_, ga_, gb_⟩ := cL6 hs1.bel gc0 gc1 gi gj ga gb
      refine t4_nil (NoPanic.normal ?_)
      go_wp2_with fail
      go_ret
      exact ⟨ret_bool H9.out.symm, hs1.bel⟩
     | false =>
      cases h3 : (SP == j) with
      | true =>
       cases h4 : (YP != b) with
       | true =>
        have H9 := qH (HNO.out (by rw [HOF.out, h1, h2, h3, h4]; rfl))
        go_upto_region 4 with fail
        refine t4R (fun w' => w'.cell? ⟨bc, 0, none⟩ = some (.int .i64 ci) ∧ w'.cell? ⟨bc, 1, none⟩ = some (.slice (some ⟨b1, o1, none⟩) sc.length csc) ∧ w'.cell? ⟨bi, 0, none⟩ = some (.int .i64 i) ∧ w'.cell? ⟨bj, 0, none⟩ = some (.int .i64 j) ∧ w'.cell? ⟨ba, 0, none⟩ = some (.int .i64 a) ∧ w'.cell? ⟨bb, 0, none⟩ = some (.int .i64 b) ∧ w'.cell? ⟨b1, o1 + p, none⟩ = some (.int .i64 SP) ∧ w'.cell? ⟨b2, o2 + p, none⟩ = some (.int .i64 YP)) (.float 0 (.float 1 (.float 2 (.float 3 (.float 4 (.float 5 (.float 6 (.float 7 (.float 8 (.float 9 (.float 10 (.float 11 (.float 12 (.float 13 (.float 14 (.float 15 (.float 16 (.float 17 (.float 18 (.float 19 (.float 20 (.float 21 (.float 22 (.float 23 .nil)))))))))))))))))))))))) ?_ ?_
        · exact ⟨qC (hs2.drew).bel gc0, qC (hs2.drew).bel gc1, qC (hs2.drew).bel gi, qC (hs2.drew).bel gj, qC (hs2.drew).bel ga, qC (hs2.drew).bel gb, qC (belowD _) qk, qC (belowD _) qy⟩
        have hs6 := hs2.drew
        have qk_7 := qC (belowD _) qk
        clear qk
        have qy_8 := qC (belowD _) qy
        clear qy
        clear HB
        clear gc0_ gc1_ gi_ gj_ ga_ gb_
        have hz_wd10 : wr.heap.size ≤ (wr.drew).heap.size := by simp
        generalize hgen_wd10 : wr.drew = wd10 at *
        clear hgen_wd10
        refine t4F ?_
        obtain ⟨gc0_, gc1_, gi_, gj_, ga_, gb_⟩ := cL6 hs6.bel gc0 gc1 gi gj ga gb
        refine t4_nil (NoPanic.normal ?_)
        go_wp2_with fail
        go_ret
        exact ⟨ret_bool H9.out.symm, hs6.bel⟩
       | false =>
        have H9 := qH (HNX.out (by rw [HOF.out, h1, h2, h3, h4]; rfl))
        go_upto_region 4 with fail
        refine t4R (fun w' => w'.cell? ⟨bc, 0, none⟩ = some (.int .i64 ci) ∧ w'.cell? ⟨bc, 1, none⟩ = some (.slice (some ⟨b1, o1, none⟩) sc.length csc) ∧ w'.cell? ⟨bi, 0, none⟩ = some (.int .i64 i) ∧ w'.cell? ⟨bj, 0, none⟩ = some (.int .i64 j) ∧ w'.cell? ⟨ba, 0, none⟩ = some (.int .i64 a) ∧ w'.cell? ⟨bb, 0, none⟩ = some (.int .i64 b) ∧ w'.cell? ⟨b1, o1 + p, none⟩ = some (.int .i64 SP) ∧ w'.cell? ⟨b2, o2 + p, none⟩ = some (.int .i64 YP)) (.float 0 (.float 1 (.float 2 (.float 3 (.float 4 (.float 5 (.float 6 (.float 7 (.float 8 (.float 9 (.float 10 (.float 11 (.float 12 (.float 13 (.float 14 (.float 15 (.float 16 (.float 17 (.float 18 (.float 19 (.float 20 (.float 21 (.float 22 (.float 23 .nil)))))))))))))))))))))))) ?_ ?_
        · exact ⟨qC (hs2.drew).bel gc0, qC (hs2.drew).bel gc1, qC (hs2.drew).bel gi, qC (hs2.drew).bel gj, qC (hs2.drew).bel ga, qC (hs2.drew).bel gb, qC (belowD _) qk, qC (belowD _) qy⟩
        have hs11 := hs2.drew
        have qk_12 := qC (belowD _) qk
        clear qk
        have qy_13 := qC (belowD _) qy
        clear qy
        have HB_14 := qH (HB.out.trans (((belowD _)).mono HB.out.size))
        clear HB
        clear gc0_ gc1_ gi_ gj_ ga_ gb_
        have hz_wd15 : wr.heap.size ≤ (wr.drew).heap.size := by simp
        generalize hgen_wd15 : wr.drew = wd15 at *
        clear hgen_wd15
        refine t4F ?_
        obtain ⟨gc0_, gc1_, gi_, gj_, ga_, gb_⟩ := cL6 hs11.bel gc0 gc1 gi gj ga gb
        refine t4_nil (NoPanic.normal ?_)
        go_wp2_with fail
        go_roundw
        case rel => exact ⟨p + 1, by omega, by go_num, HB_14.out, H9.out⟩
        case measure => simp [intOf]; omega
      | false =>
       have H9 := qH (HNX.out (by rw [HOF.out, h1, h2, h3]; rfl))
       go_upto_region 4 with fail
       refine t4R (fun w' => w'.cell? ⟨bc, 0, none⟩ = some (.int .i64 ci) ∧ w'.cell? ⟨bc, 1, none⟩ = some (.slice (some ⟨b1, o1, none⟩) sc.length csc) ∧ w'.cell? ⟨bi, 0, none⟩ = some (.int .i64 i) ∧ w'.cell? ⟨bj, 0, none⟩ = some (.int .i64 j) ∧ w'.cell? ⟨ba, 0, none⟩ = some (.int .i64 a) ∧ w'.cell? ⟨bb, 0, none⟩ = some (.int .i64 b) ∧ w'.cell? ⟨b1, o1 + p, none⟩ = some (.int .i64 SP) ∧ w'.cell? ⟨b2, o2 + p, none⟩ = some (.int .i64 YP)) (.float 0 (.float 1 (.float 2 (.float 3 (.float 4 (.float 5 (.float 6 (.float 7 (.float 8 (.float 9 (.float 10 (.float 11 (.float 12 (.float 13 (.float 14 (.float 15 (.float 16 (.float 17 (.float 18 (.float 19 (.float 20 (.float 21 (.float 22 (.float 23 .nil)))))))))))))))))))))))) ?_ ?_
       · exact ⟨qC (hs2.drew).bel gc0, qC (hs2.drew).bel gc1, qC (hs2.drew).bel gi, qC (hs2.drew).bel gj, qC (hs2.drew).bel ga, qC (hs2.drew).bel gb, qC (belowD _) qk, qC (belowD _) qy⟩
       have hs16 := hs2.drew
       have qk_17 := qC (belowD _) qk
       clear qk
       have qy_18 := qC (belowD _) qy
       clear qy
       have HB_19 := qH (HB.out.trans (((belowD _)).mono HB.out.size))
       clear HB
       clear gc0_ gc1_ gi_ gj_ ga_ gb_
       have hz_wd20 : wr.heap.size ≤ (wr.drew).heap.size := by simp
       generalize hgen_wd20 : wr.drew = wd20 at *
       clear hgen_wd20
       refine t4F ?_
       obtain ⟨gc0_, gc1_, gi_, gj_, ga_, gb_⟩ := cL6 hs16.bel gc0 gc1 gi gj ga gb
       refine t4_nil (NoPanic.normal ?_)
       go_wp2_with fail
       go_roundw
       case rel => exact ⟨p + 1, by omega, by go_num, HB_19.out, H9.out⟩
       case measure => simp [intOf]; omega
    | false =>
     cases h3 : (SP == j) with
     | true =>
      cases h4 : (YP != b) with
      | true =>
       have H9 := qH (HNO.out (by rw [HOF.out, h1, h3, h4]; rfl))
       go_upto_region 4 with fail
       refine t4R (fun w' => w'.cell? ⟨bc, 0, none⟩ = some (.int .i64 ci) ∧ w'.cell? ⟨bc, 1, none⟩ = some (.slice (some ⟨b1, o1, none⟩) sc.length csc) ∧ w'.cell? ⟨bi, 0, none⟩ = some (.int .i64 i) ∧ w'.cell? ⟨bj, 0, none⟩ = some (.int .i64 j) ∧ w'.cell? ⟨ba, 0, none⟩ = some (.int .i64 a) ∧ w'.cell? ⟨bb, 0, none⟩ = some (.int .i64 b) ∧ w'.cell? ⟨b1, o1 + p, none⟩ = some (.int .i64 SP) ∧ w'.cell? ⟨b2, o2 + p, none⟩ = some (.int .i64 YP)) (.float 0 (.float 1 (.float 2 (.float 3 (.float 4 (.float 5 (.float 6 (.float 7 (.float 8 (.float 9 (.float 10 (.float 11 (.float 12 (.float 13 (.float 14 (.float 15 (.float 16 (.float 17 (.float 18 (.float 19 (.float 20 (.float 21 (.float 22 (.float 23 .nil)))))))))))))))))))))))) ?_ ?_
       · exact ⟨qC (hs2.drew).bel gc0, qC (hs2.drew).bel gc1, qC (hs2.drew).bel gi, qC (hs2.drew).bel gj, qC (hs2.drew).bel ga, qC (hs2.drew).bel gb, qC (belowD _) qk, qC (belowD _) qy⟩
       have hs21 := hs2.drew
       have qk_22 := qC (belowD _) qk
       clear qk
       have qy_23 := qC (belowD _) qy
       clear qy
       clear HB
       clear gc0_ gc1_ gi_ gj_ ga_ gb_
       have hz_wd25 : wr.heap.size ≤ (wr.drew).heap.size := by simp
       generalize hgen_wd25 : wr.drew = wd25 at *
       clear hgen_wd25
       refine t4F ?_
       obtain ⟨gc0_, gc1_, gi_, gj_, ga_, gb_⟩ := cL6 hs21.bel gc0 gc1 gi gj ga gb
       refine t4_nil (NoPanic.normal ?_)
       go_wp2_with fail
       go_ret
       exact ⟨ret_bool H9.out.symm, hs21.bel⟩
      | false =>
       have H9 := qH (HNX.out (by rw [HOF.out, h1, h3, h4]; rfl))
       go_upto_region 4 with fail
       refine t4R (fun w' => w'.cell? ⟨bc, 0, none⟩ = some (.int .i64 ci) ∧ w'.cell? ⟨bc, 1, none⟩ = some (.slice (some ⟨b1, o1, none⟩) sc.length csc) ∧ w'.cell? ⟨bi, 0, none⟩ = some (.int .i64 i) ∧ w'.cell? ⟨bj, 0, none⟩ = some (.int .i64 j) ∧ w'.cell? ⟨ba, 0, none⟩ = some (.int .i64 a) ∧ w'.cell? ⟨bb, 0, none⟩ = some (.int .i64 b) ∧ w'.cell? ⟨b1, o1 + p, none⟩ = some (.int .i64 SP) ∧ w'.cell? ⟨b2, o2 + p, none⟩ = some (.int .i64 YP)) (.float 0 (.float 1 (.float 2 (.float 3 (.float 4 (.float 5 (.float 6 (.float 7 (.float 8 (.float 9 (.float 10 (.float 11 (.float 12 (.float 13 (.float 14 (.float 15 (.float 16 (.float 17 (.float 18 (.float 19 (.float 20 (.float 21 (.float 22 (.float 23 .nil)))))))))))))))))))))))) ?_ ?_
       · exact ⟨qC (hs2.drew).bel gc0, qC (hs2.drew).bel gc1, qC (hs2.drew).bel gi, qC (hs2.drew).bel gj, qC (hs2.drew).bel ga, qC (hs2.drew).bel gb, qC (belowD _) qk, qC (belowD _) qy⟩
       have hs26 := hs2.drew
       have qk_27 := qC (belowD _) qk
       clear qk
       have qy_28 := qC (belowD _) qy
       clear qy
       have HB_29 := qH (HB.out.trans (((belowD _)).mono HB.out.size))
       clear HB
       clear gc0_ gc1_ gi_ gj_ ga_ gb_
       have hz_wd30 : wr.heap.size ≤ (wr.drew).heap.size := by simp
       generalize hgen_wd30 : wr.drew = wd30 at *
       clear hgen_wd30
       refine t4F ?_
       obtain ⟨gc0_, gc1_, gi_, gj_, ga_, gb_⟩ := cL6 hs26.bel gc0 gc1 gi gj ga gb
       refine t4_nil (NoPanic.normal ?_)
       go_wp2_with fail
       go_roundw
       case rel => exact ⟨p + 1, by omega, by go_num, HB_29.out, H9.out⟩
       case measure => simp [intOf]; omega
     | false =>
      have H9 := qH (HNX.out (by rw [HOF.out, h1, h3]; rfl))
      go_upto_region 4 with fail
      refine t4R (fun w' => w'.cell? ⟨bc, 0, none⟩ = some (.int .i64 ci) ∧ w'.cell? ⟨bc, 1, none⟩ = some (.slice (some ⟨b1, o1, none⟩) sc.length csc) ∧ w'.cell? ⟨bi, 0, none⟩ = some (.int .i64 i) ∧ w'.cell? ⟨bj, 0, none⟩ = some (.int .i64 j) ∧ w'.cell? ⟨ba, 0, none⟩ = some (.int .i64 a) ∧ w'.cell? ⟨bb, 0, none⟩ = some (.int .i64 b) ∧ w'.cell? ⟨b1, o1 + p, none⟩ = some (.int .i64 SP) ∧ w'.cell? ⟨b2, o2 + p, none⟩ = some (.int .i64 YP)) (.float 0 (.float 1 (.float 2 (.float 3 (.float 4 (.float 5 (.float 6 (.float 7 (.float 8 (.float 9 (.float 10 (.float 11 (.float 12 (.float 13 (.float 14 (.float 15 (.float 16 (.float 17 (.float 18 (.float 19 (.float 20 (.float 21 (.float 22 (.float 23 .nil)))))))))))))))))))))))) ?_ ?_
      · exact ⟨qC (hs2.drew).bel gc0, qC (hs2.drew).bel gc1, qC (hs2.drew).bel gi, qC (hs2.drew).bel gj, qC (hs2.drew).bel ga, qC (hs2.drew).bel gb, qC (belowD _) qk, qC (belowD _) qy⟩
      have hs31 := hs2.drew
      have qk_32 := qC (belowD _) qk
      clear qk
      have qy_33 := qC (belowD _) qy
      clear qy
      have HB_34 := qH (HB.out.trans (((belowD _)).mono HB.out.size))
      clear HB
      clear gc0_ gc1_ gi_ gj_ ga_ gb_
      have hz_wd35 : wr.heap.size ≤ (wr.drew).heap.size := by simp
      generalize hgen_wd35 : wr.drew = wd35 at *
      clear hgen_wd35
      refine t4F ?_
      obtain ⟨gc0_, gc1_, gi_, gj_, ga_, gb_⟩ := cL6 hs31.bel gc0 gc1 gi gj ga gb
      refine t4_nil (NoPanic.normal ?_)
      go_wp2_with fail
      go_roundw
      case rel => exact ⟨p + 1, by omega, by go_num, HB_34.out, H9.out⟩
      case measure => simp [intOf]; omega
  · obtain rfl : p = sc.length := by omega
    have hnl : ¬ ((sc.length : Int) < sc.length) := by omega
    have H9 := qH (tellsY_of hr.out)
    go_wp2_with fail
    go_wp2_with fail
    refine (agrees_c (ci, sc) y _ _ _ _ (Rd.mono HCR.out hs2.bel) (Rd.mono HY.out hs2.bel) HYL.out).mono ?_
    rintro e w36 ⟨rfl, hbw36⟩
    have hz_w36 : wr.heap.size ≤ w36.heap.size := by have h9 := hbw36.size; (try simp at h9); omega
    have hs37 := hs2.step hbw36
    clear HB
    clear gc0_ gc1_ gi_ gj_ ga_ gb_
    obtain ⟨gc0_, gc1_, gi_, gj_, ga_, gb_⟩ := cL6 hs37.bel gc0 gc1 gi gj ga gb
    go_wp2_with fail
    go_ret
    exact ⟨ret_bool H9.out.symm, hs37.bel⟩
theorem allows_c (c : OpT) (t : Tmpl) (i j a b : Int) (n : Nat) (c0 c1 t0 t1 : Value) (w : World) (hc : Rd w [c0, c1] c) (ht : Rd w [t0, t1] t) (hn : c.1 = (n : Int)) (hnl : n < t.2.length) (hts : ∀ y, y ∈ (t.2.getD n (0, [])).2 → y.length = c.2.length) :
 Calls Tryz.prog 145 #[.agg #[c0, c1], .agg #[t0, t1], .int .i64 i, .int .i64 j, .int .i64 a, .int .i64 b] w fun e w' => e = .returned (.bool (tellsB (t.2.getD n (0, [])).2 c.2 i j a b)) ∧ Below w.heap.size w w' := by
 obtain ⟨size, rs⟩ := t
 obtain ⟨ci, sc⟩ := c
 simp only at hn hnl hts ⊢
 subst hn
 have zt := rd_cons rfl ht
 obtain ⟨rfl, _⟩ := rd_i1 zt.1
 obtain ⟨at0, ct0, rfl, hrs⟩ := rd_list zt.2
 have zc := rd_cons rfl hc
 obtain ⟨rfl, hIc⟩ := rd_i1 zc.1
 obtain ⟨asc, csc, rfl, _⟩ := rd_list zc.2
 have HSC := qH zc.2
 have eg : ∀ args w, (callFunc 178 args).run Tryz.prog w = .ok (.enter 178 args) w := enters_of Tryz.func178 (by kernel_rfl) rfl
 have hnI : (n : Int) < rs.length := by omega
 obtain ⟨b1, o1, u0, u1, rfl, q0, q1, hy⟩ := rdSl_two rfl hrs n hnl
 have hyz := rd_cons rfl hy
 obtain ⟨a1, c1, rfl, _⟩ := rd_list hyz.2
 have HTS := qH hyz.2
 have hgd : rs.getD n (0, []) = rs[n] := by rw [List.getD, List.getElem?_eq_getElem hnl]; rfl
 rw [hgd] at hts ⊢
 have HTL := qH hts
 have HIC := qH hIc
 clear ht hc zt zc hrs hy hyz hgd hts hIc q0
 generalize rs[n].2 = ts at *
 have H0 := qH (fun (h : (!hasI sc i && !hasI sc j) = true) => show tellsB ts sc i j a b = true by unfold tellsB; rw [h]; rfl)
 have H1 := qH (fun (h : (!hasI sc i && !hasI sc j) = false) => show tellsB ts sc i j a b = ts.any (tellsY sc i j a b) by unfold tellsB; rw [h]; rfl)
 have q1_ := qC (St.start w).bel q1
 have hs39 := (St.start w).alloc #[.int .i64 n, .slice asc sc.length csc] 111 (n := w.heap.size) (by simp)
 clear q1_
 obtain ⟨k0_0, k0_1⟩ := hs39.c2 0 0 0 1
 have q1_ := qC hs39.bel q1
 have hs40 := hs39.alloc #[.int .i64 size, .slice (some ⟨b1, o1, none⟩) rs.length ct0] 42 (n := w.heap.size + 1) (by simp)
 clear k0_0 k0_1 q1_
 obtain ⟨k0_0, k0_1, k1_0, k1_1⟩ := hs40.c4 0 0 0 1 1 0 1 1
 have q1_ := qC hs40.bel q1
 have hs41 := hs40.alloc #[.int .i64 i] 2 (n := w.heap.size + 1 + 1) (by simp)
 clear k0_0 k0_1 k1_0 k1_1 q1_
 obtain ⟨k0_0, k0_1, k1_0, k1_1, k2_0⟩ := hs41.c5 0 0 0 1 1 0 1 1 2 0
 have q1_ := qC hs41.bel q1
 have hs42 := hs41.alloc #[.int .i64 j] 2 (n := w.heap.size + 1 + 1 + 1) (by simp)
 clear k0_0 k0_1 k1_0 k1_1 k2_0 q1_
 obtain ⟨k0_0, k0_1, k1_0, k1_1, k2_0, k3_0⟩ := hs42.c6 0 0 0 1 1 0 1 1 2 0 3 0
 have q1_ := qC hs42.bel q1
 have hs43 := hs42.alloc #[.int .i64 a] 2 (n := w.heap.size + 1 + 1 + 1 + 1) (by simp)
 clear k0_0 k0_1 k1_0 k1_1 k2_0 k3_0 q1_
 obtain ⟨k0_0, k0_1, k1_0, k1_1, k2_0, k3_0, k4_0⟩ := hs43.c7 0 0 0 1 1 0 1 1 2 0 3 0 4 0
 have q1_ := qC hs43.bel q1
 have hs44 := hs43.alloc #[.int .i64 b] 2 (n := w.heap.size + 1 + 1 + 1 + 1 + 1) (by simp)
 clear k0_0 k0_1 k1_0 k1_1 k2_0 k3_0 k4_0 q1_
 obtain ⟨k0_0, k0_1, k1_0, k1_1, k2_0, k3_0, k4_0, k5_0⟩ := hs44.c8 0 0 0 1 1 0 1 1 2 0 3 0 4 0 5 0
 have q1_ := qC hs44.bel q1
 go_enter Tryz.func145, Tryz.ntmps145
 go_wp2_with fail
 refine (containsInt_c sc _ i _ (Rd.mono HSC.out hs44.bel)).mono ?_
 rintro e w45 ⟨rfl, hbw45⟩
 have hz_w45 : w.heap.size + 1 + 1 + 1 + 1 + 1 + 1 ≤ w45.heap.size := by have h9 := hbw45.size; (try simp at h9); omega
 have hs46 := hs44.step hbw45
 clear k0_0 k0_1 k1_0 k1_1 k2_0 k3_0 k4_0 k5_0 q1_
 obtain ⟨k0_0, k0_1, k1_0, k1_1, k2_0, k3_0, k4_0, k5_0⟩ := hs46.c8 0 0 0 1 1 0 1 1 2 0 3 0 4 0 5 0
 have q1_ := qC hs46.bel q1
 cases h1 : hasI sc i with
 | true =>
  have H9 := qH (H1.out (by rw [h1]; rfl))
  clear h1
  go_wp2_with fail
  refine (containsLists_c ts _ 178 _ (tellsY sc i j a b) _ (Rd.mono HTS.out hs46.bel) eg (allows1_by n sc i j a b (w.heap.size) (w.heap.size + 1 + 1) (w.heap.size + 1 + 1 + 1) (w.heap.size + 1 + 1 + 1 + 1) (w.heap.size + 1 + 1 + 1 + 1 + 1) _ ts _ HIC.out (Rd.mono HSC.out hs46.bel) (hs46.c 0 0) (hs46.c 0 1) (hs46.c 2 0) (hs46.c 3 0) (hs46.c 4 0) (hs46.c 5 0) HTL.out)).mono ?_
  rintro e w9 ⟨rfl, hb9⟩
  have HB := qH (hs46.bel.trans (hb9.mono hs46.bel.size))
  clear hb9
  go_wp2_with fail
  go_ret
  exact ⟨ret_bool H9.out.symm, HB.out⟩
 | false =>
  go_wp2_with fail
  refine (containsInt_c sc _ j _ (Rd.mono HSC.out hs46.bel)).mono ?_
  rintro e w47 ⟨rfl, hbw47⟩
  have hz_w47 : w45.heap.size ≤ w47.heap.size := by have h9 := hbw47.size; (try simp at h9); omega
  have hs48 := hs46.step hbw47
  clear k0_0 k0_1 k1_0 k1_1 k2_0 k3_0 k4_0 k5_0 q1_
  obtain ⟨k0_0, k0_1, k1_0, k1_1, k2_0, k3_0, k4_0, k5_0⟩ := hs48.c8 0 0 0 1 1 0 1 1 2 0 3 0 4 0 5 0
  have q1_ := qC hs48.bel q1
  cases h2 : hasI sc j with
  | true =>
   have H9 := qH (H1.out (by rw [h1, h2]; rfl))
   clear h1 h2
   go_wp2_with fail
   refine (containsLists_c ts _ 178 _ (tellsY sc i j a b) _ (Rd.mono HTS.out hs48.bel) eg (allows1_by n sc i j a b (w.heap.size) (w.heap.size + 1 + 1) (w.heap.size + 1 + 1 + 1) (w.heap.size + 1 + 1 + 1 + 1) (w.heap.size + 1 + 1 + 1 + 1 + 1) _ ts _ HIC.out (Rd.mono HSC.out hs48.bel) (hs48.c 0 0) (hs48.c 0 1) (hs48.c 2 0) (hs48.c 3 0) (hs48.c 4 0) (hs48.c 5 0) HTL.out)).mono ?_
   rintro e w9 ⟨rfl, hb9⟩
   have HB := qH (hs48.bel.trans (hb9.mono hs48.bel.size))
   clear hb9
   go_wp2_with fail
   go_ret
   exact ⟨ret_bool H9.out.symm, HB.out⟩
  | false =>
   have H9 := qH (H0.out (by rw [h1, h2]; rfl))
   clear h1 h2
   go_wp2_with fail
   go_ret
   exact ⟨ret_bool H9.out.symm, hs48.bel⟩
theorem l05Tells_c (rs : List RelT) (ci : Int) (sc : List Int) (i j a b : Int) (n tb cb co : Nat) (vr vs : Value) (w : World) (hrs : Rd w [vr] rs) (hsc : Rd w [vs] sc)
 (ht1 : w.cell? ⟨tb, 1, none⟩ = some vr) (hc0 : w.cell? ⟨cb, co, none⟩ = some (.int .i64 n)) (hc1 : w.cell? ⟨cb, co + 1, none⟩ = some vs) (hnl : n < rs.length) (hts : ∀ y, y ∈ (rs.getD n (0, [])).2 → y.length = sc.length) :
 Calls Tryz.prog 65 #[.pointer (some ⟨tb, 0, none⟩), .pointer (some ⟨cb, co, none⟩), .int .i64 i, .int .i64 j, .int .i64 a, .int .i64 b] w fun e w' => e = .returned (.bool (tellsB (rs.getD n (0, [])).2 sc i j a b)) ∧ Below w.heap.size w w' := by
 obtain ⟨ar, cr, rfl, hrr⟩ := rd_list hrs
 obtain ⟨asc, csc, rfl, hscr⟩ := rd_list hsc
 have hbs := (rdSl_len hscr).2
 unfold maxLen at hbs
 have HSC := qH hsc
 have hnI : (n : Int) < rs.length := by omega
 obtain ⟨b1, o1, u0, u1, rfl, q0, q1, hy⟩ := rdSl_two rfl hrr n hnl
 have hyz := rd_cons rfl hy
 obtain ⟨a1, c1, rfl, htr⟩ := rd_list hyz.2
 have hbt := (rdSl_len htr).2
 unfold maxLen at hbt
 have HTR := qH htr
 have hgd : rs.getD n (0, []) = rs[n] := by rw [List.getD, List.getElem?_eq_getElem hnl]; rfl
 rw [hgd] at hts ⊢
 have HTL := qH hts
 clear hrs hsc hrr hscr hy hyz hgd hts q0 htr
 generalize rs[n].2 = ts at *
 have H0 := qH (fun (h : (!hasI sc i && !hasI sc j) = true) => show tellsB ts sc i j a b = true by unfold tellsB; rw [h]; rfl)
 have H1 := qH (fun (h : (!hasI sc i && !hasI sc j) = false) => show tellsB ts sc i j a b = ts.any (tellsY sc i j a b) by unfold tellsB; rw [h]; rfl)
 have ht1_ := qC (St.start w).bel ht1
 clear ht1_
 obtain ⟨ht1_, hc0_⟩ := cL2 (St.start w).bel ht1 hc0
 clear ht1_ hc0_
 obtain ⟨ht1_, hc0_, hc1_⟩ := cL3 (St.start w).bel ht1 hc0 hc1
 clear ht1_ hc0_ hc1_
 obtain ⟨ht1_, hc0_, hc1_, q1_⟩ := cL4 (St.start w).bel ht1 hc0 hc1 q1
 go_enter Tryz.func65, Tryz.ntmps65
 go_wp2_with fail
 refine (l00Has_c sc _ i _ (Rd.mono HSC.out (St.start w).bel)).mono ?_
 rintro e w49 ⟨rfl, hbw49⟩
 have hz_w49 : w.heap.size ≤ w49.heap.size := by have h9 := hbw49.size; (try simp at h9); omega
 have hs50 := (St.start w).step hbw49
 clear ht1_ hc0_ hc1_ q1_
 obtain ⟨ht1_, hc0_, hc1_, q1_⟩ := cL4 hs50.bel ht1 hc0 hc1 q1
 have key : ∀ (K : Prop), K → K := fun _ h => h
 cases h1 : hasI sc i with
 | false =>
  go_wp2_with fail
  refine (l00Has_c sc _ j _ (Rd.mono HSC.out hs50.bel)).mono ?_
  rintro e w51 ⟨rfl, hbw51⟩
  have hz_w51 : w49.heap.size ≤ w51.heap.size := by have h9 := hbw51.size; (try simp at h9); omega
  have hs52 := hs50.step hbw51
  clear ht1_ hc0_ hc1_ q1_
  obtain ⟨ht1_, hc0_, hc1_, q1_⟩ := cL4 hs52.bel ht1 hc0 hc1 q1
  cases h2 : hasI sc j with
  | false =>
   have H9 := qH (H0.out (by rw [h1, h2]; rfl))
   clear h1 h2
   go_wp2_with fail
   go_ret
   exact ⟨ret_bool H9.out.symm, hs52.bel⟩
  | true =>
   have H9 := qH (H1.out (by rw [h1, h2]; rfl))
   clear h1 h2
   go_wp2_with fail
   go_upto_region 3 with fail
   refine t4R (fun w' => w'.cell? ⟨tb, 1, none⟩ = some (.slice (some ⟨b1, o1, none⟩) rs.length cr) ∧ w'.cell? ⟨cb, co, none⟩ = some (.int .i64 n) ∧ w'.cell? ⟨cb, co + 1, none⟩ = some (.slice asc sc.length csc) ∧ w'.cell? ⟨b1, o1 + n * 2 + 1, none⟩ = some (.slice a1 ts.length c1)) (.float 0 (.float 1 (.float 2 (.float 3 (.float 4 (.float 5 (.float 6 (.float 7 (.float 8 (.float 9 .nil)))))))))) ?_ ?_
   · exact ⟨qC (hs52.drew).bel ht1, qC (hs52.drew).bel hc0, qC (hs52.drew).bel hc1, qC (hs52.drew).bel q1⟩
   have hs53 := hs52.drew
   clear ht1_ hc0_ hc1_ q1_
   have hz_wd54 : w51.heap.size ≤ (w51.drew).heap.size := by simp
   generalize hgen_wd54 : w51.drew = wd54 at *
   clear hgen_wd54
   refine t4F ?_
   obtain ⟨ht1_, hc0_, hc1_, q1_⟩ := cL4 hs53.bel ht1 hc0 hc1 q1
   refine t4_nil (NoPanic.normal ?_)
   obtain ⟨wA, rfl⟩ : ∃ x, x = wd54 := ⟨_, rfl⟩
   have HBA := qH hs53.bel
   go_wp2_with fail
   go_loopw [14] (fun iv wl => ∃ k : Nat, k ≤ ts.length ∧ iv = .int .i64 k ∧ Hid (Below wA.heap.size wA wl) ∧ Hid (∀ q (hq : q < ts.length), q < k → tellsY sc i j a b ts[q] = false)) (fun iv _ => ts.length - (intOf iv).toNat)
   case atStart => exact ⟨0, Nat.zero_le _, rfl, Below.refl _ _, fun q hq h => absurd h (Nat.not_lt_zero _)⟩
   case round =>
    obtain ⟨k, hk, rfl, hbl, hr⟩ := hrel
    have hs2 := (St.start w).step (HBA.out.trans (hbl.out.mono HBA.out.size))
    obtain ⟨ht1_, hc0_, hc1_, q1_⟩ := cL4 hs2.bel ht1 hc0 hc1 q1
    have HB := hbl
    by_cases hlt : k < ts.length
    · have hkl : (k : Int) < ts.length := by omega
      obtain ⟨b2, o2, u2, rfl, qd, hyy⟩ := rdSl_one rfl HTR.out k hlt
      obtain ⟨a2, c2, rfl, _⟩ := rd_list hyy
      have HY := qH hyy
      have HYL := qH (HTL.out _ (List.getElem_mem hlt))
      have HNT := qH (fun (h : tellsY sc i j a b ts[k] = false) => show ∀ q (hq : q < ts.length), q < k + 1 → tellsY sc i j a b ts[q] = false from fun q hq hqk => by
       rcases Nat.lt_or_ge q k with h1 | h1
       · exact hr.out q hq h1
       · obtain rfl : q = k := by omega
         exact h)
      have HYT := qH (fun (h : tellsY sc i j a b ts[k] = true) => show ts.any (tellsY sc i j a b) = true from List.any_eq_true.2 ⟨_, List.getElem_mem hlt, h⟩)
      clear hyy
      generalize ts[k] = y at *
      clear ht1_ hc0_ hc1_ q1_
      obtain ⟨ht1_, hc0_, hc1_, q1_, qd_⟩ := cL5 hs2.bel ht1 hc0 hc1 q1 qd
      clear ht1_ hc0_ hc1_ q1_ qd_
      obtain ⟨ht1_, hc0_, hc1_, q1_, qd_⟩ := cL5 hs2.bel ht1 hc0 hc1 q1 qd
      go_wp2_with fail
      refine (l05Whole_c n sc y cb co _ _ _ (Rd.mono HSC.out hs2.bel) (qC hs2.bel hc1) (Rd.mono HY.out hs2.bel) HYL.out).mono ?_
      rintro e w5 ⟨rfl, hb5⟩
      have HB5 := qH (HB.out.trans (hb5.mono HB.out.size))
      clear hb5
      go_wp2_with fail
      go_loopw [15, 16] (fun okv kv wl => ∃ (p : Nat) (O : Bool), p ≤ sc.length ∧ kv = .int .i64 p ∧ okv = .bool O ∧ Hid (Below wA.heap.size wA wl) ∧ Hid (O = (wholeB sc y && (List.range p).all (fun q => !offB sc y i j a b q)))) (fun _ kv _ => sc.length - (intOf kv).toNat)
      case atStart => exact ⟨0, wholeB sc y, Nat.zero_le _, rfl, rfl, HB5.out, by simp [Hid]⟩
      case round =>
       clear HB5
       obtain ⟨p, O, hp, rfl, rfl, hbl2, hO⟩ := hrel
       have hs3 := (St.start w).step (HBA.out.trans (hbl2.out.mono HBA.out.size))
       obtain ⟨ht1_, hc0_, hc1_, q1_, qd_⟩ := cL5 hs3.bel ht1 hc0 hc1 q1 qd
       have HB := hbl2
       by_cases hpl : p < sc.length
       · have hpI : (p : Int) < sc.length := by omega
         have hpy : p < y.length := by have := HYL.out; omega
         have hpyI : (p : Int) < y.length := by omega
         obtain ⟨b3, o3, rfl, qk, _⟩ := rd_int_at (Rd.mono HSC.out hs3.bel) p hpl
         obtain ⟨b4, o4, rfl, qy, _⟩ := rd_int_at (Rd.mono HY.out hs3.bel) p hpy
         have HOF := qH (show offB sc y i j a b p = ((sc[p] == i && y[p] != a) || (sc[p] == j && y[p] != b)) by
          unfold offB
          rw [show sc.getD p 0 = sc[p] by rw [List.getD, List.getElem?_eq_getElem hpl]; rfl, show y.getD p 0 = y[p] by rw [List.getD, List.getElem?_eq_getElem hpy]; rfl])
         have HAL := qH (show (List.range (p + 1)).all (fun q => !offB sc y i j a b q) = ((List.range p).all (fun q => !offB sc y i j a b q) && !offB sc y i j a b p) by rw [List.range_succ, List.all_append]; simp)
         have HNX := qH (fun (h : offB sc y i j a b p = false) => show O = (wholeB sc y && (List.range (p + 1)).all (fun q => !offB sc y i j a b q)) by rw [HAL.out, h, hO.out]; simp)
         have HNF := qH (fun (h : offB sc y i j a b p = true) => show false = (wholeB sc y && (List.range (p + 1)).all (fun q => !offB sc y i j a b q)) by rw [HAL.out, h]; simp)
         generalize sc[p] = SP at *
         generalize y[p] = YP at *
         cases h1 : (SP == i) with
         | true =>
          cases h2 : (YP != a) with
          | true =>
           have H9 := qH (HNF.out (by rw [HOF.out, h1, h2]; rfl))
           go_wp2_with fail
           go_roundw
           case rel => exact ⟨p + 1, false, by omega, by go_num, rfl, HB.out, H9.out⟩
           case measure => simp [intOf]; omega
          | false =>
           cases h3 : (SP == j) with
           | true =>
            cases h4 : (YP != b) with
            | true =>
             have H9 := qH (HNF.out (by rw [HOF.out, h1, h2, h3, h4]; rfl))
             go_wp2_with fail
             go_roundw
             case rel => exact ⟨p + 1, false, by omega, by go_num, rfl, HB.out, H9.out⟩
             case measure => simp [intOf]; omega
            | false =>
             have H9 := qH (HNX.out (by rw [HOF.out, h1, h2, h3, h4]; rfl))
             go_wp2_with fail
             go_roundw
             case rel => exact ⟨p + 1, O, by omega, by go_num, rfl, HB.out, H9.out⟩
             case measure => simp [intOf]; omega
           | false =>
            have H9 := qH (HNX.out (by rw [HOF.out, h1, h2, h3]; rfl))
            go_wp2_with fail
            go_roundw
            case rel => exact ⟨p + 1, O, by omega, by go_num, rfl, HB.out, H9.out⟩
            case measure => simp [intOf]; omega
         | false =>
          cases h3 : (SP == j) with
          | true =>
           cases h4 : (YP != b) with
           | true =>
            have H9 := qH (HNF.out (by rw [HOF.out, h1, h3, h4]; rfl))
            go_wp2_with fail
            go_roundw
            case rel => exact ⟨p + 1, false, by omega, by go_num, rfl, HB.out, H9.out⟩
            case measure => simp [intOf]; omega
           | false =>
            have H9 := qH (HNX.out (by rw [HOF.out, h1, h3, h4]; rfl))
            go_wp2_with fail
            go_roundw
            case rel => exact ⟨p + 1, O, by omega, by go_num, rfl, HB.out, H9.out⟩
            case measure => simp [intOf]; omega
          | false =>
           have H9 := qH (HNX.out (by rw [HOF.out, h1, h3]; rfl))
           go_wp2_with fail
           go_roundw
           case rel => exact ⟨p + 1, O, by omega, by go_num, rfl, HB.out, H9.out⟩
           case measure => simp [intOf]; omega
       · obtain rfl : p = sc.length := by omega
         have hnp : ¬ ((sc.length : Int) < sc.length) := by omega
         have HOE := qH (show O = tellsY sc i j a b y by rw [hO.out]; unfold tellsY; rw [Bool.and_comm])
         cases hOv : O with
         | true =>
          have H8 := qH (HYT.out (by rw [← HOE.out, hOv]))
          have H7 := qH (show tellsB ts sc i j a b = true by rw [H9.out, H8.out])
          clear hOv
          go_wp2_with fail
          go_ret
          exact ⟨ret_bool H7.out.symm, hs3.bel⟩
         | false =>
          have H8 := qH (HNT.out (by rw [← HOE.out, hOv]))
          clear hOv
          go_wp2_with fail
          go_roundw
          case rel => exact ⟨k + 1, by omega, by go_num, HB.out, H8.out⟩
          case measure => simp [intOf]; omega
    · obtain rfl : k = ts.length := by omega
      have hnl : ¬ ((ts.length : Int) < ts.length) := by omega
      have H7 := qH (show tellsB ts sc i j a b = false by
       rw [H9.out, List.any_eq_false]
       intro y hy
       obtain ⟨q, hq, rfl⟩ := List.getElem_of_mem hy
       rw [hr.out q hq hq]
       decide)
      have HBF := qH hs2.bel
      go_wp2_with fail
      go_ret
      exact ⟨ret_bool H7.out.symm, HBF.out⟩
 | true =>
  have H9 := qH (H1.out (by rw [h1]; rfl))
  clear h1
  go_wp2_with fail
  go_upto_region 3 with fail
  refine t4R (fun w' => w'.cell? ⟨tb, 1, none⟩ = some (.slice (some ⟨b1, o1, none⟩) rs.length cr) ∧ w'.cell? ⟨cb, co, none⟩ = some (.int .i64 n) ∧ w'.cell? ⟨cb, co + 1, none⟩ = some (.slice asc sc.length csc) ∧ w'.cell? ⟨b1, o1 + n * 2 + 1, none⟩ = some (.slice a1 ts.length c1)) (.float 0 (.float 1 (.float 2 (.float 3 (.float 4 (.float 5 (.float 6 (.float 7 (.float 8 (.float 9 .nil)))))))))) ?_ ?_
  · exact ⟨qC (hs50.drew).bel ht1, qC (hs50.drew).bel hc0, qC (hs50.drew).bel hc1, qC (hs50.drew).bel q1⟩
  have hs55 := hs50.drew
  clear ht1_ hc0_ hc1_ q1_
  have hz_wd56 : w49.heap.size ≤ (w49.drew).heap.size := by simp
  generalize hgen_wd56 : w49.drew = wd56 at *
  clear hgen_wd56
  refine t4F ?_
  obtain ⟨ht1_, hc0_, hc1_, q1_⟩ := cL4 hs55.bel ht1 hc0 hc1 q1
  refine t4_nil (NoPanic.normal ?_)
  obtain ⟨wA, rfl⟩ : ∃ x, x = wd56 := ⟨_, rfl⟩
  have HBA := qH hs55.bel
  go_wp2_with fail
  go_loopw [14] (fun iv wl => ∃ k : Nat, k ≤ ts.length ∧ iv = .int .i64 k ∧ Hid (Below wA.heap.size wA wl) ∧ Hid (∀ q (hq : q < ts.length), q < k → tellsY sc i j a b ts[q] = false)) (fun iv _ => ts.length - (intOf iv).toNat)
  case atStart => exact ⟨0, Nat.zero_le _, rfl, Below.refl _ _, fun q hq h => absurd h (Nat.not_lt_zero _)⟩
  case round =>
   obtain ⟨k, hk, rfl, hbl, hr⟩ := hrel
   have hs2 := (St.start w).step (HBA.out.trans (hbl.out.mono HBA.out.size))
   obtain ⟨ht1_, hc0_, hc1_, q1_⟩ := cL4 hs2.bel ht1 hc0 hc1 q1
   have HB := hbl
   by_cases hlt : k < ts.length
   · have hkl : (k : Int) < ts.length := by omega
     obtain ⟨b2, o2, u2, rfl, qd, hyy⟩ := rdSl_one rfl HTR.out k hlt
     obtain ⟨a2, c2, rfl, _⟩ := rd_list hyy
     have HY := qH hyy
     have HYL := qH (HTL.out _ (List.getElem_mem hlt))
     have HNT := qH (fun (h : tellsY sc i j a b ts[k] = false) => show ∀ q (hq : q < ts.length), q < k + 1 → tellsY sc i j a b ts[q] = false from fun q hq hqk => by
      rcases Nat.lt_or_ge q k with h1 | h1
      · exact hr.out q hq h1
      · obtain rfl : q = k := by omega
        exact h)
     have HYT := qH (fun (h : tellsY sc i j a b ts[k] = true) => show ts.any (tellsY sc i j a b) = true from List.any_eq_true.2 ⟨_, List.getElem_mem hlt, h⟩)
     clear hyy
     generalize ts[k] = y at *
     clear ht1_ hc0_ hc1_ q1_
     obtain ⟨ht1_, hc0_, hc1_, q1_, qd_⟩ := cL5 hs2.bel ht1 hc0 hc1 q1 qd
     clear ht1_ hc0_ hc1_ q1_ qd_
     obtain ⟨ht1_, hc0_, hc1_, q1_, qd_⟩ := cL5 hs2.bel ht1 hc0 hc1 q1 qd
     go_wp2_with fail
     refine (l05Whole_c n sc y cb co _ _ _ (Rd.mono HSC.out hs2.bel) (qC hs2.bel hc1) (Rd.mono HY.out hs2.bel) HYL.out).mono ?_
     rintro e w5 ⟨rfl, hb5⟩
     have HB5 := qH (HB.out.trans (hb5.mono HB.out.size))
     clear hb5
     go_wp2_with fail
     go_loopw [15, 16] (fun okv kv wl => ∃ (p : Nat) (O : Bool), p ≤ sc.length ∧ kv = .int .i64 p ∧ okv = .bool O ∧ Hid (Below wA.heap.size wA wl) ∧ Hid (O = (wholeB sc y && (List.range p).all (fun q => !offB sc y i j a b q)))) (fun _ kv _ => sc.length - (intOf kv).toNat)
     case atStart => exact ⟨0, wholeB sc y, Nat.zero_le _, rfl, rfl, HB5.out, by simp [Hid]⟩
     case round =>
      clear HB5
      obtain ⟨p, O, hp, rfl, rfl, hbl2, hO⟩ := hrel
      have hs3 := (St.start w).step (HBA.out.trans (hbl2.out.mono HBA.out.size))
      obtain ⟨ht1_, hc0_, hc1_, q1_, qd_⟩ := cL5 hs3.bel ht1 hc0 hc1 q1 qd
      have HB := hbl2
      by_cases hpl : p < sc.length
      · have hpI : (p : Int) < sc.length := by omega
        have hpy : p < y.length := by have := HYL.out; omega
        have hpyI : (p : Int) < y.length := by omega
        obtain ⟨b3, o3, rfl, qk, _⟩ := rd_int_at (Rd.mono HSC.out hs3.bel) p hpl
        obtain ⟨b4, o4, rfl, qy, _⟩ := rd_int_at (Rd.mono HY.out hs3.bel) p hpy
        have HOF := qH (show offB sc y i j a b p = ((sc[p] == i && y[p] != a) || (sc[p] == j && y[p] != b)) by
         unfold offB
         rw [show sc.getD p 0 = sc[p] by rw [List.getD, List.getElem?_eq_getElem hpl]; rfl, show y.getD p 0 = y[p] by rw [List.getD, List.getElem?_eq_getElem hpy]; rfl])
        have HAL := qH (show (List.range (p + 1)).all (fun q => !offB sc y i j a b q) = ((List.range p).all (fun q => !offB sc y i j a b q) && !offB sc y i j a b p) by rw [List.range_succ, List.all_append]; simp)
        have HNX := qH (fun (h : offB sc y i j a b p = false) => show O = (wholeB sc y && (List.range (p + 1)).all (fun q => !offB sc y i j a b q)) by rw [HAL.out, h, hO.out]; simp)
        have HNF := qH (fun (h : offB sc y i j a b p = true) => show false = (wholeB sc y && (List.range (p + 1)).all (fun q => !offB sc y i j a b q)) by rw [HAL.out, h]; simp)
        generalize sc[p] = SP at *
        generalize y[p] = YP at *
        cases h1 : (SP == i) with
        | true =>
         cases h2 : (YP != a) with
         | true =>
          have H9 := qH (HNF.out (by rw [HOF.out, h1, h2]; rfl))
          go_wp2_with fail
          go_roundw
          case rel => exact ⟨p + 1, false, by omega, by go_num, rfl, HB.out, H9.out⟩
          case measure => simp [intOf]; omega
         | false =>
          cases h3 : (SP == j) with
          | true =>
           cases h4 : (YP != b) with
           | true =>
            have H9 := qH (HNF.out (by rw [HOF.out, h1, h2, h3, h4]; rfl))
            go_wp2_with fail
            go_roundw
            case rel => exact ⟨p + 1, false, by omega, by go_num, rfl, HB.out, H9.out⟩
            case measure => simp [intOf]; omega
           | false =>
            have H9 := qH (HNX.out (by rw [HOF.out, h1, h2, h3, h4]; rfl))
            go_wp2_with fail
            go_roundw
            case rel => exact ⟨p + 1, O, by omega, by go_num, rfl, HB.out, H9.out⟩
            case measure => simp [intOf]; omega
          | false =>
           have H9 := qH (HNX.out (by rw [HOF.out, h1, h2, h3]; rfl))
           go_wp2_with fail
           go_roundw
           case rel => exact ⟨p + 1, O, by omega, by go_num, rfl, HB.out, H9.out⟩
           case measure => simp [intOf]; omega
        | false =>
         cases h3 : (SP == j) with
         | true =>
          cases h4 : (YP != b) with
          | true =>
           have H9 := qH (HNF.out (by rw [HOF.out, h1, h3, h4]; rfl))
           go_wp2_with fail
           go_roundw
           case rel => exact ⟨p + 1, false, by omega, by go_num, rfl, HB.out, H9.out⟩
           case measure => simp [intOf]; omega
          | false =>
           have H9 := qH (HNX.out (by rw [HOF.out, h1, h3, h4]; rfl))
           go_wp2_with fail
           go_roundw
           case rel => exact ⟨p + 1, O, by omega, by go_num, rfl, HB.out, H9.out⟩
           case measure => simp [intOf]; omega
         | false =>
          have H9 := qH (HNX.out (by rw [HOF.out, h1, h3]; rfl))
          go_wp2_with fail
          go_roundw
          case rel => exact ⟨p + 1, O, by omega, by go_num, rfl, HB.out, H9.out⟩
          case measure => simp [intOf]; omega
      · obtain rfl : p = sc.length := by omega
        have hnp : ¬ ((sc.length : Int) < sc.length) := by omega
        have HOE := qH (show O = tellsY sc i j a b y by rw [hO.out]; unfold tellsY; rw [Bool.and_comm])
        cases hOv : O with
        | true =>
         have H8 := qH (HYT.out (by rw [← HOE.out, hOv]))
         have H7 := qH (show tellsB ts sc i j a b = true by rw [H9.out, H8.out])
         clear hOv
         go_wp2_with fail
         go_ret
         exact ⟨ret_bool H7.out.symm, hs3.bel⟩
        | false =>
         have H8 := qH (HNT.out (by rw [← HOE.out, hOv]))
         clear hOv
         go_wp2_with fail
         go_roundw
         case rel => exact ⟨k + 1, by omega, by go_num, HB.out, H8.out⟩
         case measure => simp [intOf]; omega
   · obtain rfl : k = ts.length := by omega
     have hnl : ¬ ((ts.length : Int) < ts.length) := by omega
     have H7 := qH (show tellsB ts sc i j a b = false by
      rw [H9.out, List.any_eq_false]
      intro y hy
      obtain ⟨q, hq, rfl⟩ := List.getElem_of_mem hy
      rw [hr.out q hq hq]
      decide)
     have HBF := qH hs2.bel
     go_wp2_with fail
     go_ret
     exact ⟨ret_bool H7.out.symm, HBF.out⟩
end Go.Proofs.YtpkdiiagnplpkaaGreat
