/-
  CONTRACTS: whether a constraint leaves a pair of values to two variables, both sides.
-/
import Derived.Test.YtllenfkbfeanmaaGreatArcMBFa
namespace Go.Proofs.YtllenfkbfeanmaaGreat
open Go.RowKit Go.Shelf Go.IntWalk
open Rep (Rd Own sz)
set_option linter.unusedSimpArgs false
set_option linter.unusedVariables false

/-- At place p the tuple has another value than told for i or j. -/
def offB (sc y : List Int) (i j a b : Int) (p : Nat) : Bool := (sc.getD p 0 == i && y.getD p 0 != a) || (sc.getD p 0 == j && y.getD p 0 != b)
def tellsY (sc : List Int) (i j a b : Int) (y : List Int) : Bool := (List.range sc.length).all (fun p => !offB sc y i j a b p) && wholeB sc y
def tellsB (ts : List (List Int)) (sc : List Int) (i j a b : Int) : Bool := (!hasI sc i && !hasI sc j) || ts.any (tellsY sc i j a b)
set_option maxRecDepth 100000 in
set_option maxHeartbeats 8000000 in
theorem l05Tells_c (rs : List RelT) (ci : Int) (sc : List Int) (i j a b : Int) (n tb cb co : Nat) (vr vs : Value) (w : World) (hrs : Rd w [vr] rs) (hsc : Rd w [vs] sc)
    (ht1 : w.cell? ⟨tb, 1, none⟩ = some vr) (hc0 : w.cell? ⟨cb, co, none⟩ = some (.int .i64 n)) (hc1 : w.cell? ⟨cb, co + 1, none⟩ = some vs) (hnl : n < rs.length) (hts : ∀ y, y ∈ (rs.getD n (0, [])).2 → y.length = sc.length) :
    Calls Tryz.prog 99 #[.pointer (some ⟨tb, 0, none⟩), .pointer (some ⟨cb, co, none⟩), .int .i64 i, .int .i64 j, .int .i64 a, .int .i64 b] w fun e w' => e = .returned (.bool (tellsB (rs.getD n (0, [])).2 sc i j a b)) ∧ Below w.heap.size w w' := by
  obtain ⟨ar, cr, rfl, hrr⟩ := rd_list hrs
  obtain ⟨asc, csc, rfl, hscr⟩ := rd_list hsc
  have hbs := (rdSl_len hscr).2
  unfold maxLen at hbs
  have HSC := Lib.hid hsc
  have hnI : (n : Int) < rs.length := by omega
  obtain ⟨b1, o1, u0, u1, rfl, q0, q1, hy⟩ := rdSl_two rfl hrr n hnl
  have hyz := rd_cons rfl hy
  obtain ⟨a1, c1, rfl, htr⟩ := rd_list hyz.2
  have hbt := (rdSl_len htr).2
  unfold maxLen at hbt
  have HTR := Lib.hid htr
  have hgd : rs.getD n (0, []) = rs[n] := by rw [List.getD, List.getElem?_eq_getElem hnl]; rfl
  rw [hgd] at hts ⊢
  have HTL := Lib.hid hts
  clear hrs hsc hrr hscr hy hyz hgd hts q0 htr
  generalize rs[n].2 = ts at *
  have H0 := Lib.hid (fun (h : (!hasI sc i && !hasI sc j) = true) => show tellsB ts sc i j a b = true by unfold tellsB; rw [h]; rfl)
  have H1 := Lib.hid (fun (h : (!hasI sc i && !hasI sc j) = false) => show tellsB ts sc i j a b = ts.any (tellsY sc i j a b) by unfold tellsB; rw [h]; rfl)
  have ht1_ := cellL (St.start w).bel ht1
  clear ht1_
  have ht1_ := cellL (St.start w).bel ht1
  have hc0_ := cellL (St.start w).bel hc0
  clear ht1_ hc0_
  have ht1_ := cellL (St.start w).bel ht1
  have hc0_ := cellL (St.start w).bel hc0
  have hc1_ := cellL (St.start w).bel hc1
  clear ht1_ hc0_ hc1_
  have ht1_ := cellL (St.start w).bel ht1
  have hc0_ := cellL (St.start w).bel hc0
  have hc1_ := cellL (St.start w).bel hc1
  have q1_ := cellL (St.start w).bel q1
  go_enter Tryz.func99, Tryz.ntmps99
  go_wp2_with fail
  refine (l00Has_c sc _ i _ (Rd.mono HSC.out (St.start w).bel)).mono ?_
  rintro e w1 ⟨rfl, hbw1⟩
  have hz_w1 : w.heap.size ≤ w1.heap.size := by have h9 := hbw1.size; (try simp at h9); omega
  have hs2 := (St.start w).step hbw1
  clear ht1_ hc0_ hc1_ q1_
  have ht1_ := cellL hs2.bel ht1
  have hc0_ := cellL hs2.bel hc0
  have hc1_ := cellL hs2.bel hc1
  have q1_ := cellL hs2.bel q1
  have key : ∀ (K : Prop), K → K := fun _ h => h
  cases h1 : hasI sc i with
  | false =>
    go_wp2_with fail
    refine (l00Has_c sc _ j _ (Rd.mono HSC.out hs2.bel)).mono ?_
    rintro e w3 ⟨rfl, hbw3⟩
    have hz_w3 : w1.heap.size ≤ w3.heap.size := by have h9 := hbw3.size; (try simp at h9); omega
    have hs4 := hs2.step hbw3
    clear ht1_ hc0_ hc1_ q1_
    have ht1_ := cellL hs4.bel ht1
    have hc0_ := cellL hs4.bel hc0
    have hc1_ := cellL hs4.bel hc1
    have q1_ := cellL hs4.bel q1
    cases h2 : hasI sc j with
    | false =>
      have H9 := Lib.hid (H0.out (by rw [h1, h2]; rfl))
      clear h1 h2
      go_wp2_with fail
      go_ret
      exact ⟨ret_bool H9.out.symm, hs4.bel⟩
    | true =>
      have H9 := Lib.hid (H1.out (by rw [h1, h2]; rfl))
      clear h1 h2
      go_wp2_with fail
      go_upto_region 3 with fail
      refine wp_region_noPanic (wp_region_tree4 (fun w' => w'.cell? ⟨tb, 1, none⟩ = some (.slice (some ⟨b1, o1, none⟩) rs.length cr) ∧ w'.cell? ⟨cb, co, none⟩ = some (.int .i64 n) ∧ w'.cell? ⟨cb, co + 1, none⟩ = some (.slice asc sc.length csc) ∧ w'.cell? ⟨b1, o1 + n * 2 + 1, none⟩ = some (.slice a1 ts.length c1)) (.float 0 (.float 1 (.float 2 (.float 3 (.float 4 (.float 5 (.float 6 (.float 7 (.float 8 (.float 9 .nil)))))))))) (by kernel_rfl) (by kernel_rfl) (by kernel_rfl) rfl ?_ (fun _ _ _ _ _ h => h) ?_)
      · exact ⟨cellL (hs4.drew).bel ht1, cellL (hs4.drew).bel hc0, cellL (hs4.drew).bel hc1, cellL (hs4.drew).bel q1⟩
      have hs5 := hs4.drew
      clear ht1_ hc0_ hc1_ q1_
      have hz_wd6 : w3.heap.size ≤ (w3.drew).heap.size := by simp
      generalize hgen_wd6 : w3.drew = wd6 at *
      have HG_wd6 := Lib.hid hgen_wd6
      clear hgen_wd6
      (repeat (first | (apply t4_skip rfl (by rfl); try simp only [Act.put, List.setIfInBounds_toArray, List.set_cons_zero, List.set_cons_succ]) | (apply t4_float rfl (by rfl); (· (intro w' hS; go_simp <;> with_reducible rfl)); (try simp only [Act.put, List.setIfInBounds_toArray, List.set_cons_zero, List.set_cons_succ]))))
      have ht1_ := cellL hs5.bel ht1
      have hc0_ := cellL hs5.bel hc0
      have hc1_ := cellL hs5.bel hc1
      have q1_ := cellL hs5.bel q1
      refine t4_nil (NoPanic.normal ?_)
      obtain ⟨wA, rfl⟩ : ∃ x, x = wd6 := ⟨_, rfl⟩
      have HBA := Lib.hid hs5.bel
      go_wp2_with fail
      go_loopw [14] (fun iv wl => ∃ k : Nat, k ≤ ts.length ∧ iv = .int .i64 k ∧ Hid (Below wA.heap.size wA wl) ∧ Hid (∀ q (hq : q < ts.length), q < k → tellsY sc i j a b ts[q] = false)) (fun iv _ => ts.length - (intOf iv).toNat)
      case atStart => exact ⟨0, Nat.zero_le _, rfl, Below.refl _ _, fun q hq h => absurd h (Nat.not_lt_zero _)⟩
      case round =>
        obtain ⟨k, hk, rfl, hbl, hr⟩ := hrel
        have hs2 := (St.start w).step (HBA.out.trans (hbl.out.mono HBA.out.size))
        have ht1_ := cellL hs2.bel ht1
        have hc0_ := cellL hs2.bel hc0
        have hc1_ := cellL hs2.bel hc1
        have q1_ := cellL hs2.bel q1
        have HB := hbl
        by_cases hlt : k < ts.length
        · have hkl : (k : Int) < ts.length := by omega
          obtain ⟨b2, o2, u2, rfl, qd, hyy⟩ := rdSl_one rfl HTR.out k hlt
          obtain ⟨a2, c2, rfl, _⟩ := rd_list hyy
          have HY := Lib.hid hyy
          have HYL := Lib.hid (HTL.out _ (List.getElem_mem hlt))
          have HNT := Lib.hid (fun (h : tellsY sc i j a b ts[k] = false) => show ∀ q (hq : q < ts.length), q < k + 1 → tellsY sc i j a b ts[q] = false from fun q hq hqk => by
            rcases Nat.lt_or_ge q k with h1 | h1
            · exact hr.out q hq h1
            · obtain rfl : q = k := by omega
              exact h)
          have HYT := Lib.hid (fun (h : tellsY sc i j a b ts[k] = true) => show ts.any (tellsY sc i j a b) = true from List.any_eq_true.2 ⟨_, List.getElem_mem hlt, h⟩)
          clear hyy
          generalize ts[k] = y at *
          clear ht1_ hc0_ hc1_ q1_
          have ht1_ := cellL hs2.bel ht1
          have hc0_ := cellL hs2.bel hc0
          have hc1_ := cellL hs2.bel hc1
          have q1_ := cellL hs2.bel q1
          have qd_ := cellL hs2.bel qd
          clear ht1_ hc0_ hc1_ q1_ qd_
          have ht1_ := cellL hs2.bel ht1
          have hc0_ := cellL hs2.bel hc0
          have hc1_ := cellL hs2.bel hc1
          have q1_ := cellL hs2.bel q1
          have qd_ := cellL hs2.bel qd
          go_wp2_with fail
          refine (l05Whole_c n sc y cb co _ _ _ (Rd.mono HSC.out hs2.bel) (cellL hs2.bel hc1) (Rd.mono HY.out hs2.bel) HYL.out).mono ?_
          rintro e w5 ⟨rfl, hb5⟩
          have HB5 := Lib.hid (HB.out.trans (hb5.mono HB.out.size))
          clear hb5
          go_wp2_with fail
          go_loopw [15, 16] (fun okv kv wl => ∃ (p : Nat) (O : Bool), p ≤ sc.length ∧ kv = .int .i64 p ∧ okv = .bool O ∧ Hid (Below wA.heap.size wA wl) ∧ Hid (O = (wholeB sc y && (List.range p).all (fun q => !offB sc y i j a b q)))) (fun _ kv _ => sc.length - (intOf kv).toNat)
          case atStart => exact ⟨0, wholeB sc y, Nat.zero_le _, rfl, rfl, HB5.out, by simp [Hid]⟩
          case round =>
            clear HB5
            obtain ⟨p, O, hp, rfl, rfl, hbl2, hO⟩ := hrel
            have hs3 := (St.start w).step (HBA.out.trans (hbl2.out.mono HBA.out.size))
            have ht1_ := cellL hs3.bel ht1
            have hc0_ := cellL hs3.bel hc0
            have hc1_ := cellL hs3.bel hc1
            have q1_ := cellL hs3.bel q1
            have qd_ := cellL hs3.bel qd
            have HB := hbl2
            by_cases hpl : p < sc.length
            · have hpI : (p : Int) < sc.length := by omega
              have hpy : p < y.length := by have := HYL.out; omega
              have hpyI : (p : Int) < y.length := by omega
              obtain ⟨b3, o3, rfl, qk, _⟩ := rd_int_at (Rd.mono HSC.out hs3.bel) p hpl
              obtain ⟨b4, o4, rfl, qy, _⟩ := rd_int_at (Rd.mono HY.out hs3.bel) p hpy
              have HOF := Lib.hid (show offB sc y i j a b p = ((sc[p] == i && y[p] != a) || (sc[p] == j && y[p] != b)) by
                unfold offB
                rw [show sc.getD p 0 = sc[p] by rw [List.getD, List.getElem?_eq_getElem hpl]; rfl, show y.getD p 0 = y[p] by rw [List.getD, List.getElem?_eq_getElem hpy]; rfl])
              have HAL := Lib.hid (show (List.range (p + 1)).all (fun q => !offB sc y i j a b q) = ((List.range p).all (fun q => !offB sc y i j a b q) && !offB sc y i j a b p) by rw [List.range_succ, List.all_append]; simp)
              have HNX := Lib.hid (fun (h : offB sc y i j a b p = false) => show O = (wholeB sc y && (List.range (p + 1)).all (fun q => !offB sc y i j a b q)) by rw [HAL.out, h, hO.out]; simp)
              have HNF := Lib.hid (fun (h : offB sc y i j a b p = true) => show false = (wholeB sc y && (List.range (p + 1)).all (fun q => !offB sc y i j a b q)) by rw [HAL.out, h]; simp)
              generalize sc[p] = SP at *
              generalize y[p] = YP at *
              cases h1 : (SP == i) with
              | true =>
                cases h2 : (YP != a) with
                | true =>
                  have H9 := Lib.hid (HNF.out (by rw [HOF.out, h1, h2]; rfl))
                  go_wp2_with fail
                  go_roundw
                  case rel => exact ⟨p + 1, false, by omega, by go_num, rfl, HB.out, H9.out⟩
                  case measure => simp [intOf]; omega
                | false =>
                  cases h3 : (SP == j) with
                  | true =>
                    cases h4 : (YP != b) with
                    | true =>
                      have H9 := Lib.hid (HNF.out (by rw [HOF.out, h1, h2, h3, h4]; rfl))
                      go_wp2_with fail
                      go_roundw
                      case rel => exact ⟨p + 1, false, by omega, by go_num, rfl, HB.out, H9.out⟩
                      case measure => simp [intOf]; omega
                    | false =>
                      have H9 := Lib.hid (HNX.out (by rw [HOF.out, h1, h2, h3, h4]; rfl))
                      go_wp2_with fail
                      go_roundw
                      case rel => exact ⟨p + 1, O, by omega, by go_num, rfl, HB.out, H9.out⟩
                      case measure => simp [intOf]; omega
                  | false =>
                    have H9 := Lib.hid (HNX.out (by rw [HOF.out, h1, h2, h3]; rfl))
                    go_wp2_with fail
                    go_roundw
                    case rel => exact ⟨p + 1, O, by omega, by go_num, rfl, HB.out, H9.out⟩
                    case measure => simp [intOf]; omega
              | false =>
                cases h3 : (SP == j) with
                | true =>
                  cases h4 : (YP != b) with
                  | true =>
                    have H9 := Lib.hid (HNF.out (by rw [HOF.out, h1, h3, h4]; rfl))
                    go_wp2_with fail
                    go_roundw
                    case rel => exact ⟨p + 1, false, by omega, by go_num, rfl, HB.out, H9.out⟩
                    case measure => simp [intOf]; omega
                  | false =>
                    have H9 := Lib.hid (HNX.out (by rw [HOF.out, h1, h3, h4]; rfl))
                    go_wp2_with fail
                    go_roundw
                    case rel => exact ⟨p + 1, O, by omega, by go_num, rfl, HB.out, H9.out⟩
                    case measure => simp [intOf]; omega
                | false =>
                  have H9 := Lib.hid (HNX.out (by rw [HOF.out, h1, h3]; rfl))
                  go_wp2_with fail
                  go_roundw
                  case rel => exact ⟨p + 1, O, by omega, by go_num, rfl, HB.out, H9.out⟩
                  case measure => simp [intOf]; omega
            · obtain rfl : p = sc.length := by omega
              have hnp : ¬ ((sc.length : Int) < sc.length) := by omega
              have HOE := Lib.hid (show O = tellsY sc i j a b y by rw [hO.out]; unfold tellsY; rw [Bool.and_comm])
              cases hOv : O with
              | true =>
                have H8 := Lib.hid (HYT.out (by rw [← HOE.out, hOv]))
                have H7 := Lib.hid (show tellsB ts sc i j a b = true by rw [H9.out, H8.out])
                clear hOv
                go_wp2_with fail
                go_ret
                exact ⟨ret_bool H7.out.symm, hs3.bel⟩
              | false =>
                have H8 := Lib.hid (HNT.out (by rw [← HOE.out, hOv]))
                clear hOv
                go_wp2_with fail
                go_roundw
                case rel => exact ⟨k + 1, by omega, by go_num, HB.out, H8.out⟩
                case measure => simp [intOf]; omega
        · obtain rfl : k = ts.length := by omega
          have hnl : ¬ ((ts.length : Int) < ts.length) := by omega
          have H7 := Lib.hid (show tellsB ts sc i j a b = false by
            rw [H9.out, List.any_eq_false]
            intro y hy
            obtain ⟨q, hq, rfl⟩ := List.getElem_of_mem hy
            rw [hr.out q hq hq]
            decide)
          have HBF := Lib.hid hs2.bel
          go_wp2_with fail
          go_ret
          exact ⟨ret_bool H7.out.symm, HBF.out⟩
  | true =>
      have H9 := Lib.hid (H1.out (by rw [h1]; rfl))
      clear h1
      go_wp2_with fail
      go_upto_region 3 with fail
      refine wp_region_noPanic (wp_region_tree4 (fun w' => w'.cell? ⟨tb, 1, none⟩ = some (.slice (some ⟨b1, o1, none⟩) rs.length cr) ∧ w'.cell? ⟨cb, co, none⟩ = some (.int .i64 n) ∧ w'.cell? ⟨cb, co + 1, none⟩ = some (.slice asc sc.length csc) ∧ w'.cell? ⟨b1, o1 + n * 2 + 1, none⟩ = some (.slice a1 ts.length c1)) (.float 0 (.float 1 (.float 2 (.float 3 (.float 4 (.float 5 (.float 6 (.float 7 (.float 8 (.float 9 .nil)))))))))) (by kernel_rfl) (by kernel_rfl) (by kernel_rfl) rfl ?_ (fun _ _ _ _ _ h => h) ?_)
      · exact ⟨cellL (hs2.drew).bel ht1, cellL (hs2.drew).bel hc0, cellL (hs2.drew).bel hc1, cellL (hs2.drew).bel q1⟩
      have hs7 := hs2.drew
      clear ht1_ hc0_ hc1_ q1_
      have hz_wd8 : w1.heap.size ≤ (w1.drew).heap.size := by simp
      generalize hgen_wd8 : w1.drew = wd8 at *
      have HG_wd8 := Lib.hid hgen_wd8
      clear hgen_wd8
      (repeat (first | (apply t4_skip rfl (by rfl); try simp only [Act.put, List.setIfInBounds_toArray, List.set_cons_zero, List.set_cons_succ]) | (apply t4_float rfl (by rfl); (· (intro w' hS; go_simp <;> with_reducible rfl)); (try simp only [Act.put, List.setIfInBounds_toArray, List.set_cons_zero, List.set_cons_succ]))))
      have ht1_ := cellL hs7.bel ht1
      have hc0_ := cellL hs7.bel hc0
      have hc1_ := cellL hs7.bel hc1
      have q1_ := cellL hs7.bel q1
      refine t4_nil (NoPanic.normal ?_)
      obtain ⟨wA, rfl⟩ : ∃ x, x = wd8 := ⟨_, rfl⟩
      have HBA := Lib.hid hs7.bel
      go_wp2_with fail
      go_loopw [14] (fun iv wl => ∃ k : Nat, k ≤ ts.length ∧ iv = .int .i64 k ∧ Hid (Below wA.heap.size wA wl) ∧ Hid (∀ q (hq : q < ts.length), q < k → tellsY sc i j a b ts[q] = false)) (fun iv _ => ts.length - (intOf iv).toNat)
      case atStart => exact ⟨0, Nat.zero_le _, rfl, Below.refl _ _, fun q hq h => absurd h (Nat.not_lt_zero _)⟩
      case round =>
        obtain ⟨k, hk, rfl, hbl, hr⟩ := hrel
        have hs2 := (St.start w).step (HBA.out.trans (hbl.out.mono HBA.out.size))
        have ht1_ := cellL hs2.bel ht1
        have hc0_ := cellL hs2.bel hc0
        have hc1_ := cellL hs2.bel hc1
        have q1_ := cellL hs2.bel q1
        have HB := hbl
        by_cases hlt : k < ts.length
        · have hkl : (k : Int) < ts.length := by omega
          obtain ⟨b2, o2, u2, rfl, qd, hyy⟩ := rdSl_one rfl HTR.out k hlt
          obtain ⟨a2, c2, rfl, _⟩ := rd_list hyy
          have HY := Lib.hid hyy
          have HYL := Lib.hid (HTL.out _ (List.getElem_mem hlt))
          have HNT := Lib.hid (fun (h : tellsY sc i j a b ts[k] = false) => show ∀ q (hq : q < ts.length), q < k + 1 → tellsY sc i j a b ts[q] = false from fun q hq hqk => by
            rcases Nat.lt_or_ge q k with h1 | h1
            · exact hr.out q hq h1
            · obtain rfl : q = k := by omega
              exact h)
          have HYT := Lib.hid (fun (h : tellsY sc i j a b ts[k] = true) => show ts.any (tellsY sc i j a b) = true from List.any_eq_true.2 ⟨_, List.getElem_mem hlt, h⟩)
          clear hyy
          generalize ts[k] = y at *
          clear ht1_ hc0_ hc1_ q1_
          have ht1_ := cellL hs2.bel ht1
          have hc0_ := cellL hs2.bel hc0
          have hc1_ := cellL hs2.bel hc1
          have q1_ := cellL hs2.bel q1
          have qd_ := cellL hs2.bel qd
          clear ht1_ hc0_ hc1_ q1_ qd_
          have ht1_ := cellL hs2.bel ht1
          have hc0_ := cellL hs2.bel hc0
          have hc1_ := cellL hs2.bel hc1
          have q1_ := cellL hs2.bel q1
          have qd_ := cellL hs2.bel qd
          go_wp2_with fail
          refine (l05Whole_c n sc y cb co _ _ _ (Rd.mono HSC.out hs2.bel) (cellL hs2.bel hc1) (Rd.mono HY.out hs2.bel) HYL.out).mono ?_
          rintro e w5 ⟨rfl, hb5⟩
          have HB5 := Lib.hid (HB.out.trans (hb5.mono HB.out.size))
          clear hb5
          go_wp2_with fail
          go_loopw [15, 16] (fun okv kv wl => ∃ (p : Nat) (O : Bool), p ≤ sc.length ∧ kv = .int .i64 p ∧ okv = .bool O ∧ Hid (Below wA.heap.size wA wl) ∧ Hid (O = (wholeB sc y && (List.range p).all (fun q => !offB sc y i j a b q)))) (fun _ kv _ => sc.length - (intOf kv).toNat)
          case atStart => exact ⟨0, wholeB sc y, Nat.zero_le _, rfl, rfl, HB5.out, by simp [Hid]⟩
          case round =>
            clear HB5
            obtain ⟨p, O, hp, rfl, rfl, hbl2, hO⟩ := hrel
            have hs3 := (St.start w).step (HBA.out.trans (hbl2.out.mono HBA.out.size))
            have ht1_ := cellL hs3.bel ht1
            have hc0_ := cellL hs3.bel hc0
            have hc1_ := cellL hs3.bel hc1
            have q1_ := cellL hs3.bel q1
            have qd_ := cellL hs3.bel qd
            have HB := hbl2
            by_cases hpl : p < sc.length
            · have hpI : (p : Int) < sc.length := by omega
              have hpy : p < y.length := by have := HYL.out; omega
              have hpyI : (p : Int) < y.length := by omega
              obtain ⟨b3, o3, rfl, qk, _⟩ := rd_int_at (Rd.mono HSC.out hs3.bel) p hpl
              obtain ⟨b4, o4, rfl, qy, _⟩ := rd_int_at (Rd.mono HY.out hs3.bel) p hpy
              have HOF := Lib.hid (show offB sc y i j a b p = ((sc[p] == i && y[p] != a) || (sc[p] == j && y[p] != b)) by
                unfold offB
                rw [show sc.getD p 0 = sc[p] by rw [List.getD, List.getElem?_eq_getElem hpl]; rfl, show y.getD p 0 = y[p] by rw [List.getD, List.getElem?_eq_getElem hpy]; rfl])
              have HAL := Lib.hid (show (List.range (p + 1)).all (fun q => !offB sc y i j a b q) = ((List.range p).all (fun q => !offB sc y i j a b q) && !offB sc y i j a b p) by rw [List.range_succ, List.all_append]; simp)
              have HNX := Lib.hid (fun (h : offB sc y i j a b p = false) => show O = (wholeB sc y && (List.range (p + 1)).all (fun q => !offB sc y i j a b q)) by rw [HAL.out, h, hO.out]; simp)
              have HNF := Lib.hid (fun (h : offB sc y i j a b p = true) => show false = (wholeB sc y && (List.range (p + 1)).all (fun q => !offB sc y i j a b q)) by rw [HAL.out, h]; simp)
              generalize sc[p] = SP at *
              generalize y[p] = YP at *
              cases h1 : (SP == i) with
              | true =>
                cases h2 : (YP != a) with
                | true =>
                  have H9 := Lib.hid (HNF.out (by rw [HOF.out, h1, h2]; rfl))
                  go_wp2_with fail
                  go_roundw
                  case rel => exact ⟨p + 1, false, by omega, by go_num, rfl, HB.out, H9.out⟩
                  case measure => simp [intOf]; omega
                | false =>
                  cases h3 : (SP == j) with
                  | true =>
                    cases h4 : (YP != b) with
                    | true =>
                      have H9 := Lib.hid (HNF.out (by rw [HOF.out, h1, h2, h3, h4]; rfl))
                      go_wp2_with fail
                      go_roundw
                      case rel => exact ⟨p + 1, false, by omega, by go_num, rfl, HB.out, H9.out⟩
                      case measure => simp [intOf]; omega
                    | false =>
                      have H9 := Lib.hid (HNX.out (by rw [HOF.out, h1, h2, h3, h4]; rfl))
                      go_wp2_with fail
                      go_roundw
                      case rel => exact ⟨p + 1, O, by omega, by go_num, rfl, HB.out, H9.out⟩
                      case measure => simp [intOf]; omega
                  | false =>
                    have H9 := Lib.hid (HNX.out (by rw [HOF.out, h1, h2, h3]; rfl))
                    go_wp2_with fail
                    go_roundw
                    case rel => exact ⟨p + 1, O, by omega, by go_num, rfl, HB.out, H9.out⟩
                    case measure => simp [intOf]; omega
              | false =>
                cases h3 : (SP == j) with
                | true =>
                  cases h4 : (YP != b) with
                  | true =>
                    have H9 := Lib.hid (HNF.out (by rw [HOF.out, h1, h3, h4]; rfl))
                    go_wp2_with fail
                    go_roundw
                    case rel => exact ⟨p + 1, false, by omega, by go_num, rfl, HB.out, H9.out⟩
                    case measure => simp [intOf]; omega
                  | false =>
                    have H9 := Lib.hid (HNX.out (by rw [HOF.out, h1, h3, h4]; rfl))
                    go_wp2_with fail
                    go_roundw
                    case rel => exact ⟨p + 1, O, by omega, by go_num, rfl, HB.out, H9.out⟩
                    case measure => simp [intOf]; omega
                | false =>
                  have H9 := Lib.hid (HNX.out (by rw [HOF.out, h1, h3]; rfl))
                  go_wp2_with fail
                  go_roundw
                  case rel => exact ⟨p + 1, O, by omega, by go_num, rfl, HB.out, H9.out⟩
                  case measure => simp [intOf]; omega
            · obtain rfl : p = sc.length := by omega
              have hnp : ¬ ((sc.length : Int) < sc.length) := by omega
              have HOE := Lib.hid (show O = tellsY sc i j a b y by rw [hO.out]; unfold tellsY; rw [Bool.and_comm])
              cases hOv : O with
              | true =>
                have H8 := Lib.hid (HYT.out (by rw [← HOE.out, hOv]))
                have H7 := Lib.hid (show tellsB ts sc i j a b = true by rw [H9.out, H8.out])
                clear hOv
                go_wp2_with fail
                go_ret
                exact ⟨ret_bool H7.out.symm, hs3.bel⟩
              | false =>
                have H8 := Lib.hid (HNT.out (by rw [← HOE.out, hOv]))
                clear hOv
                go_wp2_with fail
                go_roundw
                case rel => exact ⟨k + 1, by omega, by go_num, HB.out, H8.out⟩
                case measure => simp [intOf]; omega
        · obtain rfl : k = ts.length := by omega
          have hnl : ¬ ((ts.length : Int) < ts.length) := by omega
          have H7 := Lib.hid (show tellsB ts sc i j a b = false by
            rw [H9.out, List.any_eq_false]
            intro y hy
            obtain ⟨q, hq, rfl⟩ := List.getElem_of_mem hy
            rw [hr.out q hq hq]
            decide)
          have HBF := Lib.hid hs2.bel
          go_wp2_with fail
          go_ret
          exact ⟨ret_bool H7.out.symm, HBF.out⟩

end Go.Proofs.YtllenfkbfeanmaaGreat

