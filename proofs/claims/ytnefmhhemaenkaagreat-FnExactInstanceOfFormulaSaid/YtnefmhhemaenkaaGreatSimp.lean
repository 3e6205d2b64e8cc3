/-
  CONTRACTS: the simpler form of a formula; the program's side.
-/
import Derived.Test.YtnefmhhemaenkaaGreatRen
import Derived.Test.YtnefmhhemaenkaaGreatRowsB
namespace Go.Proofs.YtnefmhhemaenkaaGreat
open Go.RowKit Go.Shelf Go.IntWalk
open Rep (Rd Own sz)
set_option linter.unusedSimpArgs false
set_option linter.unusedVariables false

theorem same_by (w : World) (D : Int → Prop) : ByV 55 #[] w D (fun v => v) := by
  intro W v hb _
  show Calls Tryz.prog 55 #[.int .i64 v] W _
  go_enter Tryz.func55, Tryz.ntmps55
  go_wp2_with fail
  go_ret
  exact ⟨rfl, Below.refl _ _⟩
theorem simplified2_by (hb lb : Nat) (a : OpT) (w : World) (D : Int → Prop) (c0 : w.cell? ⟨hb, 0, none⟩ = some (.int .i64 (highA a))) (c1 : w.cell? ⟨lb, 0, none⟩ = some (.int .i64 (lowA a))) :
    ByV 60 #[.pointer (some ⟨hb, 0, none⟩), .pointer (some ⟨lb, 0, none⟩)] w D (mergeV a) := by
  intro W v hW _
  have g0 := cellL hW c0
  have g1 := cellL hW c1
  show Calls Tryz.prog 60 #[.int .i64 v, .pointer (some ⟨hb, 0, none⟩), .pointer (some ⟨lb, 0, none⟩)] W _
  unfold mergeV
  generalize highA a = H at *
  generalize lowA a = L at *
  clear c0 c1
  by_cases h : v = H
  · subst h
    go_enter Tryz.func60, Tryz.ntmps60
    go_wp2_with fail
    go_ret
    exact ⟨ret_int (by first | rfl | rw [if_pos rfl]), Below.refl _ _⟩
  · have h1 : (v == H) = false := by simp [h]
    have HN := Lib.hid h
    clear h
    go_enter Tryz.func60, Tryz.ntmps60
    go_wp2_with fail
    go_ret
    exact ⟨ret_int (by first | rfl | rw [if_neg HN.out]), Below.refl _ _⟩
set_option maxRecDepth 100000 in
theorem simplified5_by (vb : Nat) (vs : List Int) (vv : Value) (w : World) (D : Int → Prop) (c0 : w.cell? ⟨vb, 0, none⟩ = some vv) (r : Rd w [vv] vs) :
    ByV 66 #[.pointer (some ⟨vb, 0, none⟩)] w D (idxV vs) := by
  intro W v hW _
  have g0 := cellL hW c0
  have HR := Lib.hid (Rd.mono r hW)
  clear c0 r hW
  obtain ⟨a, c, rfl, _⟩ := rd_list HR.out
  show Calls Tryz.prog 66 #[.int .i64 v, .pointer (some ⟨vb, 0, none⟩)] W _
  go_enter Tryz.func66, Tryz.ntmps66
  go_wp2_with fail
  refine (indexInt_c vs _ v _ HR.out).mono ?_
  rintro e w1 ⟨rfl, hb1⟩
  go_wp2_with fail
  go_ret
  exact ⟨rfl, hb1⟩
set_option maxRecDepth 100000 in
set_option maxHeartbeats 1000000 in
theorem simplified4_by (vb : Nat) (v : Int) (w : World) (l : List OpT) (c0 : w.cell? ⟨vb, 0, none⟩ = some (.int .i64 v)) :
    PredC 64 #[.pointer (some ⟨vb, 0, none⟩)] w l (fun a => a.2.contains v) := by
  intro W x v0 v1 hW hx _
  have g0 := cellL hW c0
  clear c0 hW
  show Calls Tryz.prog 64 #[_, .pointer (some ⟨vb, 0, none⟩)] W _
  obtain ⟨ci, sc⟩ := x
  have z := rd_cons rfl hx
  obtain ⟨rfl, _⟩ := rd_i1 z.1
  have HSC := Lib.hid z.2
  obtain ⟨a2, c2, rfl, _⟩ := rd_list z.2
  clear hx z
  have g0_ := cellL (St.start W).bel g0
  clear g0_
  have g0_ := cellL (St.start W).bel g0
  have hs1 := (St.start W).alloc #[.int .i64 ci, .slice a2 sc.length c2] 58 (n := W.heap.size) (by simp)
  clear g0_
  have k0_0 := hs1.cellAt 0 rfl 0 rfl
  have k0_1 := hs1.cellAt 0 rfl 1 rfl
  have g0_ := cellL hs1.bel g0
  go_enter Tryz.func64, Tryz.ntmps64
  go_wp2_with fail
  refine (containsInt_c sc _ v _ (Rd.mono HSC.out hs1.bel)).mono ?_
  rintro e w2 ⟨rfl, hbw2⟩
  have hz_w2 : W.heap.size + 1 ≤ w2.heap.size := by have h9 := hbw2.size; (try simp at h9); omega
  have hs3 := hs1.step hbw2
  clear k0_0 k0_1 g0_
  have k0_0 := hs3.cellAt 0 rfl 0 rfl
  have k0_1 := hs3.cellAt 0 rfl 1 rfl
  have g0_ := cellL hs3.bel g0
  go_wp2_with fail
  go_ret
  exact ⟨ret_bool (by unfold hasI; rw [← List.contains_eq_any_beq]), hs3.bel⟩
set_option maxRecDepth 100000 in
set_option maxHeartbeats 1000000 in
theorem sameAtom_c (x y : OpT) (v0 v1 u0 u1 : Value) (w : World) (hx : Rd w [v0, v1] x) (hy : Rd w [u0, u1] y) :
    Calls Tryz.prog 62 #[.agg #[v0, v1], .agg #[u0, u1]] w fun e w' => e = .returned (.bool (decide (x = y))) ∧ Below w.heap.size w w' := by
  obtain ⟨x0, x1⟩ := x
  obtain ⟨y0, y1⟩ := y
  have z := rd_cons rfl hx
  obtain ⟨rfl, _⟩ := rd_i1 z.1
  have HX := Lib.hid z.2
  obtain ⟨a1, c1, rfl, _⟩ := rd_list z.2
  clear hx z
  have z := rd_cons rfl hy
  obtain ⟨rfl, _⟩ := rd_i1 z.1
  have HY := Lib.hid z.2
  obtain ⟨a2, c2, rfl, _⟩ := rd_list z.2
  clear hy z
  have hs4 := (St.start w).alloc #[.int .i64 x0, .slice a1 x1.length c1] 58 (n := w.heap.size) (by simp)
  have k0_0 := hs4.cellAt 0 rfl 0 rfl
  have k0_1 := hs4.cellAt 0 rfl 1 rfl
  have hs5 := hs4.alloc #[.int .i64 y0, .slice a2 y1.length c2] 58 (n := w.heap.size + 1) (by simp)
  clear k0_0 k0_1
  have k0_0 := hs5.cellAt 0 rfl 0 rfl
  have k0_1 := hs5.cellAt 0 rfl 1 rfl
  have k1_0 := hs5.cellAt 1 rfl 0 rfl
  have k1_1 := hs5.cellAt 1 rfl 1 rfl
  go_enter Tryz.func62, Tryz.ntmps62
  by_cases h : x0 = y0
  · subst h
    have h1 : (x0 == x0) = true := by simp
    go_wp2_with fail
    refine (equalInts_c x1 y1 _ _ _ (Rd.mono HX.out hs5.bel) (Rd.mono HY.out hs5.bel)).mono ?_
    rintro e w6 ⟨rfl, hbw6⟩
    have hz_w6 : w.heap.size + 1 + 1 ≤ w6.heap.size := by have h9 := hbw6.size; (try simp at h9); omega
    have hs7 := hs5.step hbw6
    clear k0_0 k0_1 k1_0 k1_1
    have k0_0 := hs7.cellAt 0 rfl 0 rfl
    have k0_1 := hs7.cellAt 0 rfl 1 rfl
    have k1_0 := hs7.cellAt 1 rfl 0 rfl
    have k1_1 := hs7.cellAt 1 rfl 1 rfl
    go_wp2_with fail
    go_ret
    exact ⟨ret_bool (by simp), hs7.bel⟩
  · have h1 : (x0 == y0) = false := by simp [h]
    have HN := Lib.hid h
    clear h
    go_wp2_with fail
    go_ret
    exact ⟨ret_bool (by simp [HN.out]), hs5.bel⟩
set_option maxRecDepth 100000 in
theorem simplified3_by (ab : Nat) (a : OpT) (v0 v1 : Value) (w : World) (l : List OpT) (c0 : w.cell? ⟨ab, 0, none⟩ = some v0) (c1 : w.cell? ⟨ab, 1, none⟩ = some v1) (r : Rd w [v0, v1] a) :
    PredC 61 #[.pointer (some ⟨ab, 0, none⟩)] w l (fun b => decide (b = a)) := by
  intro W x u0 u1 hW hx _
  have g0 := cellL hW c0
  have g1 := cellL hW c1
  have HR := Lib.hid (Rd.mono r hW)
  have HX := Lib.hid hx
  clear c0 c1 r hW hx
  show Calls Tryz.prog 61 #[_, .pointer (some ⟨ab, 0, none⟩)] W _
  have g0_ := cellL (St.start W).bel g0
  clear g0_
  have g0_ := cellL (St.start W).bel g0
  have g1_ := cellL (St.start W).bel g1
  clear g0_ g1_
  have g0_ := cellL (St.start W).bel g0
  have g1_ := cellL (St.start W).bel g1
  have hs8 := (St.start W).alloc #[u0, u1] 58 (n := W.heap.size) (by simp)
  clear g0_ g1_
  have k0_0 := hs8.cellAt 0 rfl 0 rfl
  have k0_1 := hs8.cellAt 0 rfl 1 rfl
  have g0_ := cellL hs8.bel g0
  have g1_ := cellL hs8.bel g1
  go_enter Tryz.func61, Tryz.ntmps61
  go_wp2_with fail
  refine (sameAtom_c a x _ _ _ _ _ (Rd.mono HR.out hs8.bel) (Rd.mono HX.out hs8.bel)).mono ?_
  rintro e w9 ⟨rfl, hbw9⟩
  have hz_w9 : W.heap.size + 1 ≤ w9.heap.size := by have h9 := hbw9.size; (try simp at h9); omega
  have hs10 := hs8.step hbw9
  clear k0_0 k0_1 g0_ g1_
  have k0_0 := hs10.cellAt 0 rfl 0 rfl
  have k0_1 := hs10.cellAt 0 rfl 1 rfl
  have g0_ := cellL hs10.bel g0
  have g1_ := cellL hs10.bel g1
  go_wp2_with fail
  go_ret
  exact ⟨ret_bool (decide_eq_decide.2 eq_comm), hs10.bel⟩
set_option maxRecDepth 100000 in
set_option maxHeartbeats 4000000 in
theorem simplified1_by (fb : Nat) (fr : Int) (w : World) (l : List OpT) (c0 : w.cell? ⟨fb, 0, none⟩ = some (.int .i64 fr)) (hv : ∀ a, a ∈ l → a.1 = -1 → a.2.length = 2) :
    PredC 56 #[.pointer (some ⟨fb, 0, none⟩)] w l (isMrg fr) := by
  intro W x v0 v1 hW hx hm
  have g0 := cellL hW c0
  clear c0 hW
  have hv1 := hv x hm
  clear hv hm
  show Calls Tryz.prog 56 #[_, .pointer (some ⟨fb, 0, none⟩)] W _
  obtain ⟨ci, sc⟩ := x
  have z := rd_cons rfl hx
  obtain ⟨rfl, _⟩ := rd_i1 z.1
  have HSC := Lib.hid z.2
  obtain ⟨a2, c2, rfl, _⟩ := rd_list z.2
  clear hx z
  simp only at hv1
  by_cases h : ci = -1
  · subst h
    obtain ⟨x, y, rfl⟩ := len_2 (hv1 rfl)
    obtain ⟨b, o, rfl, q0, q1, _, _, _⟩ := rd_ints2 HSC.out
    have HQ := Lib.hid (show isMrg fr (-1, [x, y]) = (decide (x ≠ y) && decide (fr ≤ max x y)) from rfl)
    clear hv1
    have g0_ := cellL (St.start W).bel g0
    clear g0_
    have g0_ := cellL (St.start W).bel g0
    have q0_ := cellL (St.start W).bel q0
    clear g0_ q0_
    have g0_ := cellL (St.start W).bel g0
    have q0_ := cellL (St.start W).bel q0
    have q1_ := cellL (St.start W).bel q1
    clear g0_ q0_ q1_
    have g0_ := cellL (St.start W).bel g0
    have q0_ := cellL (St.start W).bel q0
    have q1_ := cellL (St.start W).bel q1
    have hs11 := (St.start W).alloc #[.int .i64 (-1), .slice (some ⟨b, o, none⟩) 2 c2] 58 (n := W.heap.size) (by simp)
    clear g0_ q0_ q1_
    have k0_0 := hs11.cellAt 0 rfl 0 rfl
    have k0_1 := hs11.cellAt 0 rfl 1 rfl
    have g0_ := cellL hs11.bel g0
    have q0_ := cellL hs11.bel q0
    have q1_ := cellL hs11.bel q1
    go_enter Tryz.func56, Tryz.ntmps56
    by_cases hxy : x = y
    · have h1 : (x != y) = false := by simp [hxy]
      have H1 := Lib.hid (show isMrg fr (-1, [x, y]) = false by rw [HQ.out, hxy]; simp)
      clear hxy
      go_upto_region 1 with fail
      refine wp_region_noPanic (wp_region_tree4 (fun w' => w'.cell? ⟨W.heap.size, 0, none⟩ = some (.int .i64 (-1)) ∧ w'.cell? ⟨W.heap.size, 1, none⟩ = some (.slice (some ⟨b, o, none⟩) 2 c2) ∧ w'.cell? ⟨fb, 0, none⟩ = some (.int .i64 fr) ∧ w'.cell? ⟨b, o, none⟩ = some (.int .i64 x) ∧ w'.cell? ⟨b, o + 1, none⟩ = some (.int .i64 y)) (.float 0 (.float 1 (.float 2 (.float 3 (.float 4 (.float 5 (.float 6 (.float 7 (.float 8 (.float 9 (.float 10 (.float 11 (.float 12 (.float 13 (.float 14 (.float 15 (.float 16 (.float 17 (.float 18 (.float 19 (.float 20 (.float 21 (.float 22 (.float 23 (.float 24 (.float 25 (.float 26 (.float 27 (.float 28 .nil))))))))))))))))))))))))))))) (by kernel_rfl) (by kernel_rfl) (by kernel_rfl) rfl ?_ (fun _ _ _ _ _ h => h) ?_)
      · exact ⟨(hs11.drew).cellAt 0 rfl 0 rfl, (hs11.drew).cellAt 0 rfl 1 rfl, cellL (hs11.drew).bel g0, cellL (hs11.drew).bel q0, cellL (hs11.drew).bel q1⟩
      have hs12 := hs11.drew
      clear k0_0 k0_1 g0_ q0_ q1_
      have hz_wd13 : W.heap.size + 1 ≤ ((W.alloc (.cells #[.int .i64 (-1), .slice (some ⟨b, o, none⟩) 2 c2] 58)).drew).heap.size := by simp
      generalize hgen_wd13 : (W.alloc (.cells #[.int .i64 (-1), .slice (some ⟨b, o, none⟩) 2 c2] 58)).drew = wd13 at *
      have HG_wd13 := Lib.hid hgen_wd13
      clear hgen_wd13
      (repeat (first | (apply t4_skip rfl (by rfl); try simp only [Act.put, List.setIfInBounds_toArray, List.set_cons_zero, List.set_cons_succ]) | (apply t4_float rfl (by rfl); (· (intro w' hS; go_simp <;> with_reducible rfl)); (try simp only [Act.put, List.setIfInBounds_toArray, List.set_cons_zero, List.set_cons_succ]))))
      have k0_0 := hs12.cellAt 0 rfl 0 rfl
      have k0_1 := hs12.cellAt 0 rfl 1 rfl
      have g0_ := cellL hs12.bel g0
      have q0_ := cellL hs12.bel q0
      have q1_ := cellL hs12.bel q1
      refine t4_nil (NoPanic.normal ?_)
      go_wp2_with fail
      go_ret
      exact ⟨ret_bool H1.out.symm, hs12.bel⟩
    · have h1 : (x != y) = true := by simp [hxy]
      have H1 := Lib.hid (show isMrg fr (-1, [x, y]) = decide (fr ≤ max x y) by rw [HQ.out, decide_eq_true hxy]; rfl)
      clear hxy
      go_upto_region 1 with fail
      refine wp_region_noPanic (wp_region_tree4 (fun w' => w'.cell? ⟨W.heap.size, 0, none⟩ = some (.int .i64 (-1)) ∧ w'.cell? ⟨W.heap.size, 1, none⟩ = some (.slice (some ⟨b, o, none⟩) 2 c2) ∧ w'.cell? ⟨fb, 0, none⟩ = some (.int .i64 fr) ∧ w'.cell? ⟨b, o, none⟩ = some (.int .i64 x) ∧ w'.cell? ⟨b, o + 1, none⟩ = some (.int .i64 y)) (.float 0 (.float 1 (.float 2 (.float 3 (.float 4 (.float 5 (.float 6 (.float 7 (.float 8 (.float 9 (.float 10 (.float 11 (.float 12 (.float 13 (.float 14 (.float 15 (.float 16 (.float 17 (.float 18 (.float 19 (.float 20 (.float 21 (.float 22 (.float 23 (.float 24 (.float 25 (.float 26 (.float 27 (.float 28 .nil))))))))))))))))))))))))))))) (by kernel_rfl) (by kernel_rfl) (by kernel_rfl) rfl ?_ (fun _ _ _ _ _ h => h) ?_)
      · exact ⟨(hs11.drew).cellAt 0 rfl 0 rfl, (hs11.drew).cellAt 0 rfl 1 rfl, cellL (hs11.drew).bel g0, cellL (hs11.drew).bel q0, cellL (hs11.drew).bel q1⟩
      have hs14 := hs11.drew
      clear k0_0 k0_1 g0_ q0_ q1_
      have hz_wd15 : W.heap.size + 1 ≤ ((W.alloc (.cells #[.int .i64 (-1), .slice (some ⟨b, o, none⟩) 2 c2] 58)).drew).heap.size := by simp
      generalize hgen_wd15 : (W.alloc (.cells #[.int .i64 (-1), .slice (some ⟨b, o, none⟩) 2 c2] 58)).drew = wd15 at *
      have HG_wd15 := Lib.hid hgen_wd15
      clear hgen_wd15
      (repeat (first | (apply t4_skip rfl (by rfl); try simp only [Act.put, List.setIfInBounds_toArray, List.set_cons_zero, List.set_cons_succ]) | (apply t4_float rfl (by rfl); (· (intro w' hS; go_simp <;> with_reducible rfl)); (try simp only [Act.put, List.setIfInBounds_toArray, List.set_cons_zero, List.set_cons_succ]))))
      have k0_0 := hs14.cellAt 0 rfl 0 rfl
      have k0_1 := hs14.cellAt 0 rfl 1 rfl
      have g0_ := cellL hs14.bel g0
      have q0_ := cellL hs14.bel q0
      have q1_ := cellL hs14.bel q1
      refine t4_nil (NoPanic.normal ?_)
      all_goals go_wp2_with fail
      all_goals go_ret
      all_goals exact ⟨ret_bool (by first | exact H1.out.symm | (rw [H1.out, decide_eq_decide]; omega)), hs14.bel⟩
  · have h1 : (ci == -1) = false := by simp [h]
    have H1 := Lib.hid (show isMrg fr (ci, sc) = false by unfold isMrg; rw [decide_eq_false h]; rfl)
    clear h hv1
    have g0_ := cellL (St.start W).bel g0
    clear g0_
    have g0_ := cellL (St.start W).bel g0
    have hs16 := (St.start W).alloc #[.int .i64 ci, .slice a2 sc.length c2] 58 (n := W.heap.size) (by simp)
    clear g0_
    have k0_0 := hs16.cellAt 0 rfl 0 rfl
    have k0_1 := hs16.cellAt 0 rfl 1 rfl
    have g0_ := cellL hs16.bel g0
    go_enter Tryz.func56, Tryz.ntmps56
    go_upto_region 1 with fail
    refine wp_region_noPanic (wp_region_tree4 (fun w' => w'.cell? ⟨W.heap.size, 0, none⟩ = some (.int .i64 ci) ∧ w'.cell? ⟨W.heap.size, 1, none⟩ = some (.slice a2 sc.length c2) ∧ w'.cell? ⟨fb, 0, none⟩ = some (.int .i64 fr)) (.float 0 (.float 1 (.float 2 (.float 3 (.float 4 (.float 5 (.float 6 (.float 7 (.float 8 (.float 9 (.float 10 (.float 11 (.float 12 (.float 13 (.float 14 (.float 15 (.float 16 (.float 17 (.float 18 (.float 19 (.float 20 (.float 21 (.float 22 (.float 23 (.float 24 (.float 25 (.float 26 (.float 27 (.float 28 .nil))))))))))))))))))))))))))))) (by kernel_rfl) (by kernel_rfl) (by kernel_rfl) rfl ?_ (fun _ _ _ _ _ h => h) ?_)
    · exact ⟨(hs16.drew).cellAt 0 rfl 0 rfl, (hs16.drew).cellAt 0 rfl 1 rfl, cellL (hs16.drew).bel g0⟩
    have hs17 := hs16.drew
    clear k0_0 k0_1 g0_
    have hz_wd18 : W.heap.size + 1 ≤ ((W.alloc (.cells #[.int .i64 ci, .slice a2 sc.length c2] 58)).drew).heap.size := by simp
    generalize hgen_wd18 : (W.alloc (.cells #[.int .i64 ci, .slice a2 sc.length c2] 58)).drew = wd18 at *
    have HG_wd18 := Lib.hid hgen_wd18
    clear hgen_wd18
    (repeat (first | (apply t4_skip rfl (by rfl); try simp only [Act.put, List.setIfInBounds_toArray, List.set_cons_zero, List.set_cons_succ]) | (apply t4_float rfl (by rfl); (· (intro w' hS; go_simp <;> with_reducible rfl)); (try simp only [Act.put, List.setIfInBounds_toArray, List.set_cons_zero, List.set_cons_succ]))))
    have k0_0 := hs17.cellAt 0 rfl 0 rfl
    have k0_1 := hs17.cellAt 0 rfl 1 rfl
    have g0_ := cellL hs17.bel g0
    refine t4_nil (NoPanic.normal ?_)
    go_wp2_with fail
    go_ret
    exact ⟨ret_bool H1.out.symm, hs17.bel⟩

end Go.Proofs.YtnefmhhemaenkaaGreat
