/-
  CONTRACTS: steps told again: the program's side.
-/
import Derived.Test.YtamkfnkikiekaaaGreatArcFBRa
namespace Go.Proofs.YtamkfnkikiekaaaGreat
open Go.RowKit Go.Shelf Go.IntWalk
open Rep (Rd Own sz)
set_option linter.unusedSimpArgs false
set_option linter.unusedVariables false

theorem stepOk_no {t : Tmpl} {x : Inst} {ds : List (List Int)} {s : Int × Int × Int} (h : firstOk t x ds s = false) : stepOk t x ds s = false := by unfold stepOk; rw [h]; rfl
theorem stepOk_con {t : Tmpl} {x : Inst} {ds : List (List Int)} {v a : Int} {k nr : Nat} {sc : List Int} (h : firstOk t x ds (v, a, (k : Int)) = true) (hk : k < x.2.length) (hc : x.2[k] = ((nr : Int), sc)) :
    stepOk t x ds (v, a, (k : Int)) = (List.range sc.length).any (placeOk (t.2.getD nr (0, [])).2 sc ds v a) := by
  unfold stepOk
  rw [h, Bool.true_and]
  simp only [Int.toNat_natCast]
  rw [show x.2.getD k (0, []) = x.2[k] by rw [List.getD, List.getElem?_eq_getElem hk]; rfl, hc]
  unfold conAny
  simp only [Int.toNat_natCast]
set_option maxRecDepth 100000 in
set_option maxHeartbeats 8000000 in
theorem isArcStep_c (t : Tmpl) (x : Inst) (ds : List (List Int)) (va aa ka : Int) (t0 t1 x0 x1 vd : Value) (w : World) (ht : Rd w [t0, t1] t) (hx : Rd w [x0, x1] x) (hd : Rd w [vd] ds) (hok : instOk t x = true) (hl : (ds.length : Int) = x.1) :
    Calls Tryz.prog 34 #[.agg #[t0, t1], .agg #[x0, x1], vd, .agg #[.int .i64 va, .int .i64 aa, .int .i64 ka]] w fun e w' => e = .returned (.bool (stepOk t x ds (va, aa, ka))) ∧ Below w.heap.size w w' := by
  obtain ⟨size, rs⟩ := t
  obtain ⟨vars, cs⟩ := x
  simp only at hl
  have zt := rd_cons rfl ht
  obtain ⟨rfl, _⟩ := rd_i1 zt.1
  obtain ⟨at0, ct0, rfl, _⟩ := rd_list zt.2
  have zx := rd_cons rfl hx
  obtain ⟨rfl, _⟩ := rd_i1 zx.1
  obtain ⟨ax, cx, rfl, hcs⟩ := rd_list zx.2
  obtain ⟨ad, cd, rfl, hdr⟩ := rd_list hd
  have hv1 := (instOk_get hok).2.1
  have hcl := (instOk_get hok).2.2.1
  simp only at hv1 hcl
  have HT := Lib.hid ht
  have HD := Lib.hid hd
  have HCS := Lib.hid hcs
  have HDR := Lib.hid hdr
  have HFC := Lib.hid (fun (k : Nat) (hk : k < cs.length) => con_facts hok hk)
  have HDL := Lib.hid hl
  clear ht hx hd zt zx hcs hdr hok hl
  have ew : IntKind.i64.wrap (vars - 1) = vars - 1 := i64_in _ (by omega)
  have ew2 : IntKind.i64.wrap ((cs.length : Int) - 1) = (cs.length : Int) - 1 := i64_in _ (by omega)
  have hs1 := (St.start w).alloc #[.int .i64 size, .slice at0 rs.length ct0] 26 (n := w.heap.size) (by simp)
  have k0_0 := hs1.cellAt 0 rfl 0 rfl
  have k0_1 := hs1.cellAt 0 rfl 1 rfl
  have hs2 := hs1.alloc #[.int .i64 vars, .slice ax cs.length cx] 29 (n := w.heap.size + 1) (by simp)
  clear k0_0 k0_1
  have k0_0 := hs2.cellAt 0 rfl 0 rfl
  have k0_1 := hs2.cellAt 0 rfl 1 rfl
  have k1_0 := hs2.cellAt 1 rfl 0 rfl
  have k1_1 := hs2.cellAt 1 rfl 1 rfl
  have hs3 := hs2.alloc #[.int .i64 va, .int .i64 aa, .int .i64 ka] 41 (n := w.heap.size + 1 + 1) (by simp)
  clear k0_0 k0_1 k1_0 k1_1
  have k0_0 := hs3.cellAt 0 rfl 0 rfl
  have k0_1 := hs3.cellAt 0 rfl 1 rfl
  have k1_0 := hs3.cellAt 1 rfl 0 rfl
  have k1_1 := hs3.cellAt 1 rfl 1 rfl
  have k2_0 := hs3.cellAt 2 rfl 0 rfl
  have k2_1 := hs3.cellAt 2 rfl 1 rfl
  have k2_2 := hs3.cellAt 2 rfl 2 rfl
  go_enter Tryz.func34, Tryz.ntmps34
  cases h1 : inB va 0 (vars - 1) with
  | false =>
    have H1 := Lib.hid (stepOk_no (t := (size, rs)) (x := (vars, cs)) (ds := ds) (s := (va, aa, ka)) (by unfold firstOk; simp only [h1, Bool.false_and]))
    go_upto_region 1 with fail
    refine wp_region_noPanic (wp_region_tree4 (fun w' => w'.cell? ⟨w.heap.size, 0, none⟩ = some (.int .i64 size) ∧ w'.cell? ⟨w.heap.size, 1, none⟩ = some (.slice at0 rs.length ct0) ∧ w'.cell? ⟨w.heap.size + 1, 0, none⟩ = some (.int .i64 vars) ∧ w'.cell? ⟨w.heap.size + 1, 1, none⟩ = some (.slice ax cs.length cx) ∧ w'.cell? ⟨w.heap.size + 1 + 1, 0, none⟩ = some (.int .i64 va) ∧ w'.cell? ⟨w.heap.size + 1 + 1, 1, none⟩ = some (.int .i64 aa) ∧ w'.cell? ⟨w.heap.size + 1 + 1, 2, none⟩ = some (.int .i64 ka)) (.float 0 (.float 1 (.float 2 (.float 3 (.float 4 (.hard 5 (.float 6 (.float 7 (.float 8 (.float 9 (.float 10 (.float 11 (.float 12 (.float 13 (.hard 14 (.float 15 (.float 16 (.float 17 (.float 18 (.float 19 (.float 20 (.float 21 (.float 22 (.float 23 (.float 24 (.hard 25 (.float 26 (.float 27 .nil)))))))))))))))))))))))))))) (by kernel_rfl) (by kernel_rfl) (by kernel_rfl) rfl ?_ (fun _ _ _ _ _ h => h) ?_)
    · exact ⟨(hs3.drew).cellAt 0 rfl 0 rfl, (hs3.drew).cellAt 0 rfl 1 rfl, (hs3.drew).cellAt 1 rfl 0 rfl, (hs3.drew).cellAt 1 rfl 1 rfl, (hs3.drew).cellAt 2 rfl 0 rfl, (hs3.drew).cellAt 2 rfl 1 rfl, (hs3.drew).cellAt 2 rfl 2 rfl⟩
    have hs4 := hs3.drew
    clear k0_0 k0_1 k1_0 k1_1 k2_0 k2_1 k2_2
    have hz_wd5 : w.heap.size + 1 + 1 + 1 ≤ ((((w.alloc (.cells #[.int .i64 size, .slice at0 rs.length ct0] 26)).alloc (.cells #[.int .i64 vars, .slice ax cs.length cx] 29)).alloc (.cells #[.int .i64 va, .int .i64 aa, .int .i64 ka] 41)).drew).heap.size := by simp
    generalize hgen_wd5 : (((w.alloc (.cells #[.int .i64 size, .slice at0 rs.length ct0] 26)).alloc (.cells #[.int .i64 vars, .slice ax cs.length cx] 29)).alloc (.cells #[.int .i64 va, .int .i64 aa, .int .i64 ka] 41)).drew = wd5 at *
    have HG_wd5 := Lib.hid hgen_wd5
    clear hgen_wd5
    (repeat (first | (apply t4_skip rfl (by rfl); try simp only [Act.put, List.setIfInBounds_toArray, List.set_cons_zero, List.set_cons_succ]) | (apply t4_float rfl (by rfl); (· (intro w' hS; go_simp <;> with_reducible rfl)); (try simp only [Act.put, List.setIfInBounds_toArray, List.set_cons_zero, List.set_cons_succ]))))
    refine t4_hard rfl (by rfl) (fun K hK => ?_)
    go_wp2_with (go_at_call 49; refine (within_c va 0 (vars - 1) _).mono ?_; rintro e w6 ⟨rfl, rfl, rfl⟩)
    refine ⟨⟨hs4.cellAt 0 rfl 0 rfl, hs4.cellAt 0 rfl 1 rfl, hs4.cellAt 1 rfl 0 rfl, hs4.cellAt 1 rfl 1 rfl, hs4.cellAt 2 rfl 0 rfl, hs4.cellAt 2 rfl 1 rfl, hs4.cellAt 2 rfl 2 rfl⟩, ?_⟩
    (repeat (first | (apply t4_skip rfl (by rfl); try simp only [Act.put, List.setIfInBounds_toArray, List.set_cons_zero, List.set_cons_succ]) | (apply t4_float rfl (by rfl); (· (intro w' hS; go_simp <;> with_reducible rfl)); (try simp only [Act.put, List.setIfInBounds_toArray, List.set_cons_zero, List.set_cons_succ]))))
    refine t4_hskip rfl (by rfl) ?_ ?_
    · exact ⟨hs4.cellAt 0 rfl 0 rfl, hs4.cellAt 0 rfl 1 rfl, hs4.cellAt 1 rfl 0 rfl, hs4.cellAt 1 rfl 1 rfl, hs4.cellAt 2 rfl 0 rfl, hs4.cellAt 2 rfl 1 rfl, hs4.cellAt 2 rfl 2 rfl⟩
    (try simp only [Act.put, List.setIfInBounds_toArray, List.set_cons_zero, List.set_cons_succ])
    (repeat (first | (apply t4_skip rfl (by rfl); try simp only [Act.put, List.setIfInBounds_toArray, List.set_cons_zero, List.set_cons_succ]) | (apply t4_float rfl (by rfl); (· (intro w' hS; go_simp <;> with_reducible rfl)); (try simp only [Act.put, List.setIfInBounds_toArray, List.set_cons_zero, List.set_cons_succ]))))
    refine t4_hskip rfl (by rfl) ?_ ?_
    · exact ⟨hs4.cellAt 0 rfl 0 rfl, hs4.cellAt 0 rfl 1 rfl, hs4.cellAt 1 rfl 0 rfl, hs4.cellAt 1 rfl 1 rfl, hs4.cellAt 2 rfl 0 rfl, hs4.cellAt 2 rfl 1 rfl, hs4.cellAt 2 rfl 2 rfl⟩
    (try simp only [Act.put, List.setIfInBounds_toArray, List.set_cons_zero, List.set_cons_succ])
    (repeat (first | (apply t4_skip rfl (by rfl); try simp only [Act.put, List.setIfInBounds_toArray, List.set_cons_zero, List.set_cons_succ]) | (apply t4_float rfl (by rfl); (· (intro w' hS; go_simp <;> with_reducible rfl)); (try simp only [Act.put, List.setIfInBounds_toArray, List.set_cons_zero, List.set_cons_succ]))))
    have k0_0 := hs4.cellAt 0 rfl 0 rfl
    have k0_1 := hs4.cellAt 0 rfl 1 rfl
    have k1_0 := hs4.cellAt 1 rfl 0 rfl
    have k1_1 := hs4.cellAt 1 rfl 1 rfl
    have k2_0 := hs4.cellAt 2 rfl 0 rfl
    have k2_1 := hs4.cellAt 2 rfl 1 rfl
    have k2_2 := hs4.cellAt 2 rfl 2 rfl
    refine t4_nil (NoPanic.normal ?_)
    go_wp2_with fail
    go_ret
    exact ⟨ret_bool H1.out.symm, hs4.bel⟩
  | true =>
    have h2 := inB_true h1
    obtain ⟨vn, rfl⟩ : ∃ vn : Nat, va = (vn : Int) := ⟨va.toNat, by omega⟩
    have hvn : vn < ds.length := by have := HDL.out; omega
    have hvnI : (vn : Int) < ds.length := by omega
    cases h3 : inB ka 0 ((cs.length : Int) - 1) with
    | false =>
      have H1 := Lib.hid (stepOk_no (t := (size, rs)) (x := (vars, cs)) (ds := ds) (s := ((vn : Int), aa, ka)) (by unfold firstOk; simp only [h3, Bool.and_false, Bool.false_and]))
      go_upto_region 1 with fail
      refine wp_region_noPanic (wp_region_tree4 (fun w' => w'.cell? ⟨w.heap.size, 0, none⟩ = some (.int .i64 size) ∧ w'.cell? ⟨w.heap.size, 1, none⟩ = some (.slice at0 rs.length ct0) ∧ w'.cell? ⟨w.heap.size + 1, 0, none⟩ = some (.int .i64 vars) ∧ w'.cell? ⟨w.heap.size + 1, 1, none⟩ = some (.slice ax cs.length cx) ∧ w'.cell? ⟨w.heap.size + 1 + 1, 0, none⟩ = some (.int .i64 (vn : Int)) ∧ w'.cell? ⟨w.heap.size + 1 + 1, 1, none⟩ = some (.int .i64 aa) ∧ w'.cell? ⟨w.heap.size + 1 + 1, 2, none⟩ = some (.int .i64 ka)) (.float 0 (.float 1 (.float 2 (.float 3 (.float 4 (.hard 5 (.float 6 (.float 7 (.float 8 (.float 9 (.float 10 (.float 11 (.float 12 (.float 13 (.hard 14 (.float 15 (.float 16 (.float 17 (.float 18 (.float 19 (.float 20 (.float 21 (.float 22 (.float 23 (.float 24 (.hard 25 (.float 26 (.float 27 .nil)))))))))))))))))))))))))))) (by kernel_rfl) (by kernel_rfl) (by kernel_rfl) rfl ?_ (fun _ _ _ _ _ h => h) ?_)
      · exact ⟨(hs3.drew).cellAt 0 rfl 0 rfl, (hs3.drew).cellAt 0 rfl 1 rfl, (hs3.drew).cellAt 1 rfl 0 rfl, (hs3.drew).cellAt 1 rfl 1 rfl, (hs3.drew).cellAt 2 rfl 0 rfl, (hs3.drew).cellAt 2 rfl 1 rfl, (hs3.drew).cellAt 2 rfl 2 rfl⟩
      have hs7 := hs3.drew
      clear k0_0 k0_1 k1_0 k1_1 k2_0 k2_1 k2_2
      have hz_wd8 : w.heap.size + 1 + 1 + 1 ≤ ((((w.alloc (.cells #[.int .i64 size, .slice at0 rs.length ct0] 26)).alloc (.cells #[.int .i64 vars, .slice ax cs.length cx] 29)).alloc (.cells #[.int .i64 (vn : Int), .int .i64 aa, .int .i64 ka] 41)).drew).heap.size := by simp
      generalize hgen_wd8 : (((w.alloc (.cells #[.int .i64 size, .slice at0 rs.length ct0] 26)).alloc (.cells #[.int .i64 vars, .slice ax cs.length cx] 29)).alloc (.cells #[.int .i64 (vn : Int), .int .i64 aa, .int .i64 ka] 41)).drew = wd8 at *
      have HG_wd8 := Lib.hid hgen_wd8
      clear hgen_wd8
      (repeat (first | (apply t4_skip rfl (by rfl); try simp only [Act.put, List.setIfInBounds_toArray, List.set_cons_zero, List.set_cons_succ]) | (apply t4_float rfl (by rfl); (· (intro w' hS; go_simp <;> with_reducible rfl)); (try simp only [Act.put, List.setIfInBounds_toArray, List.set_cons_zero, List.set_cons_succ]))))
      refine t4_hard rfl (by rfl) (fun K hK => ?_)
      go_wp2_with (go_at_call 49; refine (within_c vn 0 (vars - 1) _).mono ?_; rintro e w9 ⟨rfl, rfl, rfl⟩)
      refine ⟨⟨hs7.cellAt 0 rfl 0 rfl, hs7.cellAt 0 rfl 1 rfl, hs7.cellAt 1 rfl 0 rfl, hs7.cellAt 1 rfl 1 rfl, hs7.cellAt 2 rfl 0 rfl, hs7.cellAt 2 rfl 1 rfl, hs7.cellAt 2 rfl 2 rfl⟩, ?_⟩
      (repeat (first | (apply t4_skip rfl (by rfl); try simp only [Act.put, List.setIfInBounds_toArray, List.set_cons_zero, List.set_cons_succ]) | (apply t4_float rfl (by rfl); (· (intro w' hS; go_simp <;> with_reducible rfl)); (try simp only [Act.put, List.setIfInBounds_toArray, List.set_cons_zero, List.set_cons_succ]))))
      refine t4_hard rfl (by rfl) (fun K hK => ?_)
      go_wp2_with (go_at_call 49; refine (within_c ka 0 ((cs.length : Int) - 1) _).mono ?_; rintro e w10 ⟨rfl, rfl, rfl⟩)
      refine ⟨⟨hs7.cellAt 0 rfl 0 rfl, hs7.cellAt 0 rfl 1 rfl, hs7.cellAt 1 rfl 0 rfl, hs7.cellAt 1 rfl 1 rfl, hs7.cellAt 2 rfl 0 rfl, hs7.cellAt 2 rfl 1 rfl, hs7.cellAt 2 rfl 2 rfl⟩, ?_⟩
      (repeat (first | (apply t4_skip rfl (by rfl); try simp only [Act.put, List.setIfInBounds_toArray, List.set_cons_zero, List.set_cons_succ]) | (apply t4_float rfl (by rfl); (· (intro w' hS; go_simp <;> with_reducible rfl)); (try simp only [Act.put, List.setIfInBounds_toArray, List.set_cons_zero, List.set_cons_succ]))))
      refine t4_hskip rfl (by rfl) ?_ ?_
      · exact ⟨hs7.cellAt 0 rfl 0 rfl, hs7.cellAt 0 rfl 1 rfl, hs7.cellAt 1 rfl 0 rfl, hs7.cellAt 1 rfl 1 rfl, hs7.cellAt 2 rfl 0 rfl, hs7.cellAt 2 rfl 1 rfl, hs7.cellAt 2 rfl 2 rfl⟩
      (try simp only [Act.put, List.setIfInBounds_toArray, List.set_cons_zero, List.set_cons_succ])
      (repeat (first | (apply t4_skip rfl (by rfl); try simp only [Act.put, List.setIfInBounds_toArray, List.set_cons_zero, List.set_cons_succ]) | (apply t4_float rfl (by rfl); (· (intro w' hS; go_simp <;> with_reducible rfl)); (try simp only [Act.put, List.setIfInBounds_toArray, List.set_cons_zero, List.set_cons_succ]))))
      have k0_0 := hs7.cellAt 0 rfl 0 rfl
      have k0_1 := hs7.cellAt 0 rfl 1 rfl
      have k1_0 := hs7.cellAt 1 rfl 0 rfl
      have k1_1 := hs7.cellAt 1 rfl 1 rfl
      have k2_0 := hs7.cellAt 2 rfl 0 rfl
      have k2_1 := hs7.cellAt 2 rfl 1 rfl
      have k2_2 := hs7.cellAt 2 rfl 2 rfl
      refine t4_nil (NoPanic.normal ?_)
      go_wp2_with fail
      go_ret
      exact ⟨ret_bool H1.out.symm, hs7.bel⟩
    | true =>
      have h4 := inB_true h3
      obtain ⟨k, rfl⟩ : ∃ k : Nat, ka = (k : Int) := ⟨ka.toNat, by omega⟩
      have hk : k < cs.length := by omega
      have hkI : (k : Int) < cs.length := by omega
      obtain ⟨b3, o3, u3, rfl, qd, hdn⟩ := rdSl_one rfl HDR.out vn hvn
      obtain ⟨a3, c3, rfl, _⟩ := rd_list hdn
      have HDN := Lib.hid hdn
      have HGD := Lib.hid (show ds.getD vn [] = ds[vn] by rw [List.getD, List.getElem?_eq_getElem hvn]; rfl)
      have HF := Lib.hid (show firstOk (size, rs) (vars, cs) ds ((vn : Int), aa, (k : Int)) = hasI ds[vn] aa by
        unfold firstOk
        simp only [h1, h3, Bool.true_and, Int.toNat_natCast]
        rw [HGD.out])
      clear hdn
      generalize ds[vn] = D at *
      clear k0_0 k0_1 k1_0 k1_1 k2_0 k2_1 k2_2
      have k0_0 := hs3.cellAt 0 rfl 0 rfl
      have k0_1 := hs3.cellAt 0 rfl 1 rfl
      have k1_0 := hs3.cellAt 1 rfl 0 rfl
      have k1_1 := hs3.cellAt 1 rfl 1 rfl
      have k2_0 := hs3.cellAt 2 rfl 0 rfl
      have k2_1 := hs3.cellAt 2 rfl 1 rfl
      have k2_2 := hs3.cellAt 2 rfl 2 rfl
      have qd_ := cellL hs3.bel qd
      clear k0_0 k0_1 k1_0 k1_1 k2_0 k2_1 k2_2 qd_
      have k0_0 := hs3.cellAt 0 rfl 0 rfl
      have k0_1 := hs3.cellAt 0 rfl 1 rfl
      have k1_0 := hs3.cellAt 1 rfl 0 rfl
      have k1_1 := hs3.cellAt 1 rfl 1 rfl
      have k2_0 := hs3.cellAt 2 rfl 0 rfl
      have k2_1 := hs3.cellAt 2 rfl 1 rfl
      have k2_2 := hs3.cellAt 2 rfl 2 rfl
      have qd_ := cellL hs3.bel qd
      cases h5 : hasI D aa with
      | false =>
        have H1 := Lib.hid (stepOk_no (t := (size, rs)) (x := (vars, cs)) (ds := ds) (s := ((vn : Int), aa, (k : Int))) (by rw [HF.out, h5]))
        have HE := Lib.hid h5
        clear h5
        go_upto_region 1 with fail
        refine wp_region_noPanic (wp_region_tree4 (fun w' => w'.cell? ⟨w.heap.size, 0, none⟩ = some (.int .i64 size) ∧ w'.cell? ⟨w.heap.size, 1, none⟩ = some (.slice at0 rs.length ct0) ∧ w'.cell? ⟨w.heap.size + 1, 0, none⟩ = some (.int .i64 vars) ∧ w'.cell? ⟨w.heap.size + 1, 1, none⟩ = some (.slice ax cs.length cx) ∧ w'.cell? ⟨w.heap.size + 1 + 1, 0, none⟩ = some (.int .i64 (vn : Int)) ∧ w'.cell? ⟨w.heap.size + 1 + 1, 1, none⟩ = some (.int .i64 aa) ∧ w'.cell? ⟨w.heap.size + 1 + 1, 2, none⟩ = some (.int .i64 (k : Int)) ∧ w'.cell? ⟨b3, o3 + vn, none⟩ = some (.slice a3 D.length c3)) (.float 0 (.float 1 (.float 2 (.float 3 (.float 4 (.hard 5 (.float 6 (.float 7 (.float 8 (.float 9 (.float 10 (.float 11 (.float 12 (.float 13 (.hard 14 (.float 15 (.float 16 (.float 17 (.float 18 (.float 19 (.float 20 (.float 21 (.float 22 (.float 23 (.float 24 (.hard 25 (.float 26 (.float 27 .nil)))))))))))))))))))))))))))) (by kernel_rfl) (by kernel_rfl) (by kernel_rfl) rfl ?_ (fun _ _ _ _ _ h => h) ?_)
        · exact ⟨(hs3.drew).cellAt 0 rfl 0 rfl, (hs3.drew).cellAt 0 rfl 1 rfl, (hs3.drew).cellAt 1 rfl 0 rfl, (hs3.drew).cellAt 1 rfl 1 rfl, (hs3.drew).cellAt 2 rfl 0 rfl, (hs3.drew).cellAt 2 rfl 1 rfl, (hs3.drew).cellAt 2 rfl 2 rfl, cellL (hs3.drew).bel qd⟩
        have hs11 := hs3.drew
        clear k0_0 k0_1 k1_0 k1_1 k2_0 k2_1 k2_2 qd_
        have hz_wd12 : w.heap.size + 1 + 1 + 1 ≤ ((((w.alloc (.cells #[.int .i64 size, .slice at0 rs.length ct0] 26)).alloc (.cells #[.int .i64 vars, .slice ax cs.length cx] 29)).alloc (.cells #[.int .i64 (vn : Int), .int .i64 aa, .int .i64 (k : Int)] 41)).drew).heap.size := by simp
        generalize hgen_wd12 : (((w.alloc (.cells #[.int .i64 size, .slice at0 rs.length ct0] 26)).alloc (.cells #[.int .i64 vars, .slice ax cs.length cx] 29)).alloc (.cells #[.int .i64 (vn : Int), .int .i64 aa, .int .i64 (k : Int)] 41)).drew = wd12 at *
        have HG_wd12 := Lib.hid hgen_wd12
        clear hgen_wd12
        (repeat (first | (apply t4_skip rfl (by rfl); try simp only [Act.put, List.setIfInBounds_toArray, List.set_cons_zero, List.set_cons_succ]) | (apply t4_float rfl (by rfl); (· (intro w' hS; go_simp <;> with_reducible rfl)); (try simp only [Act.put, List.setIfInBounds_toArray, List.set_cons_zero, List.set_cons_succ]))))
        refine t4_hard rfl (by rfl) (fun K hK => ?_)
        go_wp2_with (go_at_call 49; refine (within_c vn 0 (vars - 1) _).mono ?_; rintro e w13 ⟨rfl, rfl, rfl⟩)
        refine ⟨⟨hs11.cellAt 0 rfl 0 rfl, hs11.cellAt 0 rfl 1 rfl, hs11.cellAt 1 rfl 0 rfl, hs11.cellAt 1 rfl 1 rfl, hs11.cellAt 2 rfl 0 rfl, hs11.cellAt 2 rfl 1 rfl, hs11.cellAt 2 rfl 2 rfl, cellL hs11.bel qd⟩, ?_⟩
        (repeat (first | (apply t4_skip rfl (by rfl); try simp only [Act.put, List.setIfInBounds_toArray, List.set_cons_zero, List.set_cons_succ]) | (apply t4_float rfl (by rfl); (· (intro w' hS; go_simp <;> with_reducible rfl)); (try simp only [Act.put, List.setIfInBounds_toArray, List.set_cons_zero, List.set_cons_succ]))))
        refine t4_hard rfl (by rfl) (fun K hK => ?_)
        go_wp2_with (go_at_call 49; refine (within_c k 0 ((cs.length : Int) - 1) _).mono ?_; rintro e w14 ⟨rfl, rfl, rfl⟩)
        refine ⟨⟨hs11.cellAt 0 rfl 0 rfl, hs11.cellAt 0 rfl 1 rfl, hs11.cellAt 1 rfl 0 rfl, hs11.cellAt 1 rfl 1 rfl, hs11.cellAt 2 rfl 0 rfl, hs11.cellAt 2 rfl 1 rfl, hs11.cellAt 2 rfl 2 rfl, cellL hs11.bel qd⟩, ?_⟩
        (repeat (first | (apply t4_skip rfl (by rfl); try simp only [Act.put, List.setIfInBounds_toArray, List.set_cons_zero, List.set_cons_succ]) | (apply t4_float rfl (by rfl); (· (intro w' hS; go_simp <;> with_reducible rfl)); (try simp only [Act.put, List.setIfInBounds_toArray, List.set_cons_zero, List.set_cons_succ]))))
        refine t4_hard rfl (by rfl) (fun K hK => ?_)
        go_wp2_with (go_at_call 62; refine (containsInt_c D _ aa _ (Rd.mono HDN.out hs11.bel)).mono ?_; rintro e w15 ⟨rfl, hbw15⟩)
        have hz_w15 : wd12.heap.size ≤ w15.heap.size := by have h9 := hbw15.size; (try simp at h9); omega
        have hs16 := hs11.step hbw15
        rw [HE.out]
        refine ⟨⟨hs16.cellAt 0 rfl 0 rfl, hs16.cellAt 0 rfl 1 rfl, hs16.cellAt 1 rfl 0 rfl, hs16.cellAt 1 rfl 1 rfl, hs16.cellAt 2 rfl 0 rfl, hs16.cellAt 2 rfl 1 rfl, hs16.cellAt 2 rfl 2 rfl, cellL hs16.bel qd⟩, ?_⟩
        (repeat (first | (apply t4_skip rfl (by rfl); try simp only [Act.put, List.setIfInBounds_toArray, List.set_cons_zero, List.set_cons_succ]) | (apply t4_float rfl (by rfl); (· (intro w' hS; go_simp <;> with_reducible rfl)); (try simp only [Act.put, List.setIfInBounds_toArray, List.set_cons_zero, List.set_cons_succ]))))
        have k0_0 := hs16.cellAt 0 rfl 0 rfl
        have k0_1 := hs16.cellAt 0 rfl 1 rfl
        have k1_0 := hs16.cellAt 1 rfl 0 rfl
        have k1_1 := hs16.cellAt 1 rfl 1 rfl
        have k2_0 := hs16.cellAt 2 rfl 0 rfl
        have k2_1 := hs16.cellAt 2 rfl 1 rfl
        have k2_2 := hs16.cellAt 2 rfl 2 rfl
        have qd_ := cellL hs16.bel qd
        refine t4_nil (NoPanic.normal ?_)
        go_wp2_with fail
        go_ret
        exact ⟨ret_bool H1.out.symm, hs16.bel⟩
      | true =>
        obtain ⟨nr, hcn, hnr, hyl, hsv, hsc4⟩ := HFC.out k hk
        obtain ⟨b, o, u0, u1, rfl, p0, p1, hy⟩ := rdSl_two rfl HCS.out k hk
        have hyz := rd_cons rfl hy
        obtain ⟨rfl, _⟩ := rd_i1 hyz.1
        obtain ⟨a1, c1, rfl, _⟩ := rd_list hyz.2
        have HSC := Lib.hid hyz.2
        have HCON := Lib.hid hy
        have HYL := Lib.hid hyl
        have HSV := Lib.hid hsv
        have HNR := Lib.hid hnr
        have HST0 := Lib.hid (fun (sc : List Int) (e : cs[k] = ((nr : Int), sc)) => stepOk_con (t := (size, rs)) (x := (vars, cs)) (ds := ds) (v := (vn : Int)) (a := aa) (by rw [HF.out, h5]) hk e)
        clear hyl hsv hnr hy hyz
        generalize hCC : cs[k] = CC at *
        obtain ⟨ci, sc⟩ := CC
        simp only at hcn p0 p1 HSC HCON HYL HSV hsc4
        subst hcn
        have HST := Lib.hid (HST0.out sc rfl)
        have HCC := Lib.hid hCC
        clear hCC HST0
        clear k0_0 k0_1 k1_0 k1_1 k2_0 k2_1 k2_2 qd_
        have k0_0 := hs3.cellAt 0 rfl 0 rfl
        have k0_1 := hs3.cellAt 0 rfl 1 rfl
        have k1_0 := hs3.cellAt 1 rfl 0 rfl
        have k1_1 := hs3.cellAt 1 rfl 1 rfl
        have k2_0 := hs3.cellAt 2 rfl 0 rfl
        have k2_1 := hs3.cellAt 2 rfl 1 rfl
        have k2_2 := hs3.cellAt 2 rfl 2 rfl
        have qd_ := cellL hs3.bel qd
        have p0_ := cellL hs3.bel p0
        clear k0_0 k0_1 k1_0 k1_1 k2_0 k2_1 k2_2 qd_ p0_
        have k0_0 := hs3.cellAt 0 rfl 0 rfl
        have k0_1 := hs3.cellAt 0 rfl 1 rfl
        have k1_0 := hs3.cellAt 1 rfl 0 rfl
        have k1_1 := hs3.cellAt 1 rfl 1 rfl
        have k2_0 := hs3.cellAt 2 rfl 0 rfl
        have k2_1 := hs3.cellAt 2 rfl 1 rfl
        have k2_2 := hs3.cellAt 2 rfl 2 rfl
        have qd_ := cellL hs3.bel qd
        have p0_ := cellL hs3.bel p0
        have p1_ := cellL hs3.bel p1
        clear k0_0 k0_1 k1_0 k1_1 k2_0 k2_1 k2_2 qd_ p0_ p1_
        have k0_0 := hs3.cellAt 0 rfl 0 rfl
        have k0_1 := hs3.cellAt 0 rfl 1 rfl
        have k1_0 := hs3.cellAt 1 rfl 0 rfl
        have k1_1 := hs3.cellAt 1 rfl 1 rfl
        have k2_0 := hs3.cellAt 2 rfl 0 rfl
        have k2_1 := hs3.cellAt 2 rfl 1 rfl
        have k2_2 := hs3.cellAt 2 rfl 2 rfl
        have qd_ := cellL hs3.bel qd
        have p0_ := cellL hs3.bel p0
        have p1_ := cellL hs3.bel p1
        have HE := Lib.hid h5
        clear h5
        go_upto_region 1 with fail
        refine wp_region_noPanic (wp_region_tree4 (fun w' => w'.cell? ⟨w.heap.size, 0, none⟩ = some (.int .i64 size) ∧ w'.cell? ⟨w.heap.size, 1, none⟩ = some (.slice at0 rs.length ct0) ∧ w'.cell? ⟨w.heap.size + 1, 0, none⟩ = some (.int .i64 vars) ∧ w'.cell? ⟨w.heap.size + 1, 1, none⟩ = some (.slice (some ⟨b, o, none⟩) cs.length cx) ∧ w'.cell? ⟨w.heap.size + 1 + 1, 0, none⟩ = some (.int .i64 (vn : Int)) ∧ w'.cell? ⟨w.heap.size + 1 + 1, 1, none⟩ = some (.int .i64 aa) ∧ w'.cell? ⟨w.heap.size + 1 + 1, 2, none⟩ = some (.int .i64 (k : Int)) ∧ w'.cell? ⟨b3, o3 + vn, none⟩ = some (.slice a3 D.length c3) ∧ w'.cell? ⟨b, o + k * 2, none⟩ = some (.int .i64 nr) ∧ w'.cell? ⟨b, o + k * 2 + 1, none⟩ = some (.slice a1 sc.length c1)) (.float 0 (.float 1 (.float 2 (.float 3 (.float 4 (.hard 5 (.float 6 (.float 7 (.float 8 (.float 9 (.float 10 (.float 11 (.float 12 (.float 13 (.hard 14 (.float 15 (.float 16 (.float 17 (.float 18 (.float 19 (.float 20 (.float 21 (.float 22 (.float 23 (.float 24 (.hard 25 (.float 26 (.float 27 .nil)))))))))))))))))))))))))))) (by kernel_rfl) (by kernel_rfl) (by kernel_rfl) rfl ?_ (fun _ _ _ _ _ h => h) ?_)
        · exact ⟨(hs3.drew).cellAt 0 rfl 0 rfl, (hs3.drew).cellAt 0 rfl 1 rfl, (hs3.drew).cellAt 1 rfl 0 rfl, (hs3.drew).cellAt 1 rfl 1 rfl, (hs3.drew).cellAt 2 rfl 0 rfl, (hs3.drew).cellAt 2 rfl 1 rfl, (hs3.drew).cellAt 2 rfl 2 rfl, cellL (hs3.drew).bel qd, cellL (hs3.drew).bel p0, cellL (hs3.drew).bel p1⟩
        have hs17 := hs3.drew
        clear k0_0 k0_1 k1_0 k1_1 k2_0 k2_1 k2_2 qd_ p0_ p1_
        have hz_wd18 : w.heap.size + 1 + 1 + 1 ≤ ((((w.alloc (.cells #[.int .i64 size, .slice at0 rs.length ct0] 26)).alloc (.cells #[.int .i64 vars, .slice (some ⟨b, o, none⟩) cs.length cx] 29)).alloc (.cells #[.int .i64 (vn : Int), .int .i64 aa, .int .i64 (k : Int)] 41)).drew).heap.size := by simp
        generalize hgen_wd18 : (((w.alloc (.cells #[.int .i64 size, .slice at0 rs.length ct0] 26)).alloc (.cells #[.int .i64 vars, .slice (some ⟨b, o, none⟩) cs.length cx] 29)).alloc (.cells #[.int .i64 (vn : Int), .int .i64 aa, .int .i64 (k : Int)] 41)).drew = wd18 at *
        have HG_wd18 := Lib.hid hgen_wd18
        clear hgen_wd18
        (repeat (first | (apply t4_skip rfl (by rfl); try simp only [Act.put, List.setIfInBounds_toArray, List.set_cons_zero, List.set_cons_succ]) | (apply t4_float rfl (by rfl); (· (intro w' hS; go_simp <;> with_reducible rfl)); (try simp only [Act.put, List.setIfInBounds_toArray, List.set_cons_zero, List.set_cons_succ]))))
        refine t4_hard rfl (by rfl) (fun K hK => ?_)
        go_wp2_with (go_at_call 49; refine (within_c vn 0 (vars - 1) _).mono ?_; rintro e w19 ⟨rfl, rfl, rfl⟩)
        refine ⟨⟨hs17.cellAt 0 rfl 0 rfl, hs17.cellAt 0 rfl 1 rfl, hs17.cellAt 1 rfl 0 rfl, hs17.cellAt 1 rfl 1 rfl, hs17.cellAt 2 rfl 0 rfl, hs17.cellAt 2 rfl 1 rfl, hs17.cellAt 2 rfl 2 rfl, cellL hs17.bel qd, cellL hs17.bel p0, cellL hs17.bel p1⟩, ?_⟩
        (repeat (first | (apply t4_skip rfl (by rfl); try simp only [Act.put, List.setIfInBounds_toArray, List.set_cons_zero, List.set_cons_succ]) | (apply t4_float rfl (by rfl); (· (intro w' hS; go_simp <;> with_reducible rfl)); (try simp only [Act.put, List.setIfInBounds_toArray, List.set_cons_zero, List.set_cons_succ]))))
        refine t4_hard rfl (by rfl) (fun K hK => ?_)
        go_wp2_with (go_at_call 49; refine (within_c k 0 ((cs.length : Int) - 1) _).mono ?_; rintro e w20 ⟨rfl, rfl, rfl⟩)
        refine ⟨⟨hs17.cellAt 0 rfl 0 rfl, hs17.cellAt 0 rfl 1 rfl, hs17.cellAt 1 rfl 0 rfl, hs17.cellAt 1 rfl 1 rfl, hs17.cellAt 2 rfl 0 rfl, hs17.cellAt 2 rfl 1 rfl, hs17.cellAt 2 rfl 2 rfl, cellL hs17.bel qd, cellL hs17.bel p0, cellL hs17.bel p1⟩, ?_⟩
        (repeat (first | (apply t4_skip rfl (by rfl); try simp only [Act.put, List.setIfInBounds_toArray, List.set_cons_zero, List.set_cons_succ]) | (apply t4_float rfl (by rfl); (· (intro w' hS; go_simp <;> with_reducible rfl)); (try simp only [Act.put, List.setIfInBounds_toArray, List.set_cons_zero, List.set_cons_succ]))))
        refine t4_hard rfl (by rfl) (fun K hK => ?_)
        go_wp2_with (go_at_call 62; refine (containsInt_c D _ aa _ (Rd.mono HDN.out hs17.bel)).mono ?_; rintro e w21 ⟨rfl, hbw21⟩)
        have hz_w21 : wd18.heap.size ≤ w21.heap.size := by have h9 := hbw21.size; (try simp at h9); omega
        have hs22 := hs17.step hbw21
        rw [HE.out]
        refine ⟨⟨hs22.cellAt 0 rfl 0 rfl, hs22.cellAt 0 rfl 1 rfl, hs22.cellAt 1 rfl 0 rfl, hs22.cellAt 1 rfl 1 rfl, hs22.cellAt 2 rfl 0 rfl, hs22.cellAt 2 rfl 1 rfl, hs22.cellAt 2 rfl 2 rfl, cellL hs22.bel qd, cellL hs22.bel p0, cellL hs22.bel p1⟩, ?_⟩
        (repeat (first | (apply t4_skip rfl (by rfl); try simp only [Act.put, List.setIfInBounds_toArray, List.set_cons_zero, List.set_cons_succ]) | (apply t4_float rfl (by rfl); (· (intro w' hS; go_simp <;> with_reducible rfl)); (try simp only [Act.put, List.setIfInBounds_toArray, List.set_cons_zero, List.set_cons_succ]))))
        have k0_0 := hs22.cellAt 0 rfl 0 rfl
        have k0_1 := hs22.cellAt 0 rfl 1 rfl
        have k1_0 := hs22.cellAt 1 rfl 0 rfl
        have k1_1 := hs22.cellAt 1 rfl 1 rfl
        have k2_0 := hs22.cellAt 2 rfl 0 rfl
        have k2_1 := hs22.cellAt 2 rfl 1 rfl
        have k2_2 := hs22.cellAt 2 rfl 2 rfl
        have qd_ := cellL hs22.bel qd
        have p0_ := cellL hs22.bel p0
        have p1_ := cellL hs22.bel p1
        refine t4_nil (NoPanic.normal ?_)
        obtain ⟨wc, hwc⟩ : ∃ x, x = w21 := ⟨_, rfl⟩
        subst hwc
        have e0 := (cellL hs22.bel p0)
        have e1 := (cellL hs22.bel p1)
        have e2 := (hs22.cellAt 1 rfl 1 rfl)
        have e3 := (hs22.cellAt 2 rfl 2 rfl)
        have hs23 := hs22.alloc #[.int .i64 nr, .slice a1 sc.length c1] 60 (n := wc.heap.size) (by simp)
        clear k0_0 k0_1 k1_0 k1_1 k2_0 k2_1 k2_2 qd_ p0_ p1_
        have k0_0 := hs23.cellAt 0 rfl 0 rfl
        have k0_1 := hs23.cellAt 0 rfl 1 rfl
        have k1_0 := hs23.cellAt 1 rfl 0 rfl
        have k1_1 := hs23.cellAt 1 rfl 1 rfl
        have k2_0 := hs23.cellAt 2 rfl 0 rfl
        have k2_1 := hs23.cellAt 2 rfl 1 rfl
        have k2_2 := hs23.cellAt 2 rfl 2 rfl
        have k3_0 := hs23.cellAt 3 rfl 0 rfl
        have k3_1 := hs23.cellAt 3 rfl 1 rfl
        have qd_ := cellL hs23.bel qd
        have p0_ := cellL hs23.bel p0
        have p1_ := cellL hs23.bel p1
        obtain ⟨wA, hwA⟩ : ∃ x, x = (wc.alloc (.cells #[.int .i64 nr, .slice a1 sc.length c1] 60)) := ⟨_, rfl⟩
        have HSA := Lib.hid (show St w wA.heap.size wA _ from by rw [hwA]; exact hs23.up (by simp) (Nat.le_refl _))
        have HWA := Lib.hid hwA
        clear hwA
        go_wp2_with fail
        rw [← HWA.out]
        go_loopw [49] (fun i wl => ∃ p : Nat, p ≤ sc.length ∧ i = .int .i64 p ∧ Hid (Below wA.heap.size wA wl) ∧ Hid (∀ q, q < p → placeOk (rs.getD nr (0, [])).2 sc ds vn aa q = false)) (fun i _ => sc.length - (intOf i).toNat)
        case atStart => exact ⟨0, Nat.zero_le _, rfl, Below.refl _ _, fun i hi => absurd hi (Nat.not_lt_zero _)⟩
        case round =>
          obtain ⟨p, hp, rfl, hbl, hr⟩ := hrel
          have hs2 := HSA.out.step hbl.out
          have k0_0 := hs2.cellAt 0 rfl 0 rfl
          have k0_1 := hs2.cellAt 0 rfl 1 rfl
          have k1_0 := hs2.cellAt 1 rfl 0 rfl
          have k1_1 := hs2.cellAt 1 rfl 1 rfl
          have k2_0 := hs2.cellAt 2 rfl 0 rfl
          have k2_1 := hs2.cellAt 2 rfl 1 rfl
          have k2_2 := hs2.cellAt 2 rfl 2 rfl
          have k3_0 := hs2.cellAt 3 rfl 0 rfl
          have k3_1 := hs2.cellAt 3 rfl 1 rfl
          have qd_ := cellL hs2.bel qd
          have p0_ := cellL hs2.bel p0
          have p1_ := cellL hs2.bel p1
          have HB := hbl
          by_cases hlt : p < sc.length
          · have hpI : (p : Int) < sc.length := by omega
            obtain ⟨b5, o5, rfl, qk, _⟩ := rd_int_at (Rd.mono HSC.out hs2.bel) p hlt
            have HPO := Lib.hid (show placeOk (rs.getD nr (0, [])).2 sc ds vn aa p = (decide (sc[p] = (vn : Int)) && !supB (rs.getD nr (0, [])).2 sc ds p aa) by
              unfold placeOk
              rw [show sc.getD p 0 = sc[p] by rw [List.getD, List.getElem?_eq_getElem hlt]; rfl])
            have HNX := Lib.hid (fun (h : placeOk (rs.getD nr (0, [])).2 sc ds vn aa p = false) => show ∀ q, q < p + 1 → placeOk (rs.getD nr (0, [])).2 sc ds vn aa q = false from fun q hq => by
              rcases Nat.lt_or_ge q p with h1 | h1
              · exact hr.out q h1
              · obtain rfl : q = p := by omega
                exact h)
            have HSV2 := Lib.hid (show ∀ v, v ∈ sc → 0 ≤ v ∧ v < (ds.length : Int) from fun v hv => by have h1 := HSV.out v hv; have h2 := HDL.out; omega)
            generalize sc[p] = SP at *
            by_cases h6 : SP = (vn : Int)
            · subst h6
              have HPO2 := Lib.hid (show placeOk (rs.getD nr (0, [])).2 sc ds vn aa p = !supB (rs.getD nr (0, [])).2 sc ds p aa by rw [HPO.out, decide_eq_true rfl, Bool.true_and])
              go_wp2_with fail
              refine (hasSupport_c (size, rs) ((nr : Int), sc) ds p aa nr _ _ _ _ _ _ (Rd.mono HT.out hs2.bel) (Rd.mono HCON.out hs2.bel) (Rd.mono HD.out hs2.bel) rfl HNR.out hlt HYL.out HSV2.out).mono ?_
              rintro e w5 ⟨rfl, hb5⟩
              have HB5 := Lib.hid (HB.out.trans (hb5.mono HB.out.size))
              cases hsup : supB (rs.getD nr (0, [])).2 sc ds p aa with
              | true =>
                have H9 := Lib.hid (HNX.out (by rw [HPO2.out, hsup]; rfl))
                clear hsup hb5
                go_wp2_with fail
                go_roundw
                case rel => exact ⟨p + 1, by omega, by go_num, HB5.out, H9.out⟩
                case measure => simp [intOf]; omega
              | false =>
                have H9 := Lib.hid (show stepOk (size, rs) (vars, cs) ds ((vn : Int), aa, (k : Int)) = true by rw [HST.out]; exact any_has hlt (by rw [HPO2.out, hsup]; rfl))
                have HBF := Lib.hid (HSA.out.bel.trans (HB5.out.mono HSA.out.bel.size))
                clear hsup hb5
                go_wp2_with fail
                go_ret
                exact ⟨ret_bool H9.out.symm, HBF.out⟩
            · have h6b : (SP == (vn : Int)) = false := by rw [beq_eq_false_iff_ne]; exact h6
              have H9 := Lib.hid (HNX.out (by rw [HPO.out, decide_eq_false h6]; rfl))
              clear h6
              go_wp2_with fail
              go_roundw
              case rel => exact ⟨p + 1, by omega, by go_num, HB.out, H9.out⟩
              case measure => simp [intOf]; omega
          · obtain rfl : p = sc.length := by omega
            have hnl : ¬ ((sc.length : Int) < sc.length) := by omega
            have H9 := Lib.hid (show stepOk (size, rs) (vars, cs) ds ((vn : Int), aa, (k : Int)) = false by rw [HST.out]; exact any_not hr.out)
            have HBF := Lib.hid hs2.bel
            go_wp2_with fail
            go_ret
            exact ⟨ret_bool H9.out.symm, HBF.out⟩
theorem stepOk_get {t : Tmpl} {x : Inst} {ds : List (List Int)} {va aa ka : Int} (h : stepOk t x ds (va, aa, ka) = true) : (0 ≤ va ∧ va ≤ x.1 - 1) ∧ hasI (ds.getD va.toNat []) aa = true := by
  simp only [stepOk, firstOk, Bool.and_eq_true] at h
  exact ⟨inB_true h.1.1.1, h.1.2⟩
theorem hasI_pos {l : List Int} {a : Int} (h : hasI l a = true) : 0 < l.length := by
  cases l with
  | nil => cases h
  | cons y l => simp
theorem replayA_drop {t : Tmpl} {x : Inst} {steps : List (Int × Int × Int)} {k : Nat} (hk : k < steps.length) (i : Nat) (D : List (List Int)) :
    replayA t x (steps.drop k) i D = if stepOk t x D steps[k] then replayA t x (steps.drop (k + 1)) (i + 1) (cutD D steps[k]) else ([], (i : Int), 8) := by
  rw [List.drop_eq_getElem_cons hk, replayA]
set_option maxRecDepth 100000 in
set_option maxHeartbeats 8000000 in
theorem ReplayArcs_c (t : Tmpl) (t0 t1 : Value) (x : Inst) (x0 x1 : Value) (ds : List (List Int)) (vp : Value) (steps : List (Int × Int × Int)) (vs : Value) (w : World) (ht : Rd w [t0, t1] t) (hx : Rd w [x0, x1] x) (hp : Rd w [vp] ds) (hs : Rd w [vs] steps) (hz : ∀ d, d ∈ ds → d.length ≤ 1048576) (hzs : steps.length ≤ 1048576) :
    Calls Tryz.prog 11 #[.agg #[t0, t1], .agg #[x0, x1], vp, vs] w fun e w' => ∃ u0, e = .returned (.tuple #[u0, .int .i64 (replayF t x ds steps).2.1, .int .i64 (replayF t x ds steps).2.2]) ∧ Fresh w.heap.size w' [u0] (replayF t x ds steps).1 ∧ Below w.heap.size w w' := by
  obtain ⟨size, rs⟩ := t
  obtain ⟨vars, cs⟩ := x
  have HT := Lib.hid ht
  have HX := Lib.hid hx
  have HP := Lib.hid hp
  have HZ := Lib.hid hz
  have zt := rd_cons rfl ht
  obtain ⟨rfl, _⟩ := rd_i1 zt.1
  obtain ⟨at0, ct0, rfl, _⟩ := rd_list zt.2
  have zx := rd_cons rfl hx
  obtain ⟨rfl, _⟩ := rd_i1 zx.1
  obtain ⟨ax, cx, rfl, _⟩ := rd_list zx.2
  obtain ⟨a, c, rfl, _⟩ := rd_list hp
  obtain ⟨ast, cst, rfl, hsr⟩ := rd_list hs
  have HSR := Lib.hid hsr
  clear ht hx hp zt zx hz hs hsr
  have hs24 := (St.start w).alloc #[.int .i64 size, .slice at0 rs.length ct0] 26 (n := w.heap.size) (by simp)
  have k0_0 := hs24.cellAt 0 rfl 0 rfl
  have k0_1 := hs24.cellAt 0 rfl 1 rfl
  have hs25 := hs24.alloc #[.int .i64 vars, .slice ax cs.length cx] 29 (n := w.heap.size + 1) (by simp)
  clear k0_0 k0_1
  have k0_0 := hs25.cellAt 0 rfl 0 rfl
  have k0_1 := hs25.cellAt 0 rfl 1 rfl
  have k1_0 := hs25.cellAt 1 rfl 0 rfl
  have k1_1 := hs25.cellAt 1 rfl 1 rfl
  go_enter Tryz.func11, Tryz.ntmps11
  go_wp2_with fail
  refine (ValidDomains_c (size, rs) _ _ (vars, cs) _ _ ds _ _ (Rd.mono HT.out hs25.bel) (Rd.mono HX.out hs25.bel) (Rd.mono HP.out hs25.bel) HZ.out).mono ?_
  rintro e w26 ⟨rfl, hbw26⟩
  have hz_w26 : w.heap.size + 1 + 1 ≤ w26.heap.size := by have h9 := hbw26.size; (try simp at h9); omega
  have hs27 := hs25.step hbw26
  clear k0_0 k0_1 k1_0 k1_1
  have k0_0 := hs27.cellAt 0 rfl 0 rfl
  have k0_1 := hs27.cellAt 0 rfl 1 rfl
  have k1_0 := hs27.cellAt 1 rfl 0 rfl
  have k1_1 := hs27.cellAt 1 rfl 1 rfl
  cases h1 : domsOk (size, rs) (vars, cs) ds with
  | false =>
    have H1 := Lib.hid (show replayF (size, rs) (vars, cs) ds steps = ([], 0, 1) by unfold replayF; rw [h1]; rfl)
    clear h1
    go_wp2_with fail
    refine bodyPost_ret (v := .tuple #[.slice none 0 0, .int .i64 0, .int .i64 1]) (by simp [results, Tryz.results11, go_sem]) rfl ⟨_, by rw [H1.out], by rw [H1.out]; exact fresh_nil_list, hs27.bel⟩
  | true =>
    have HF := Lib.hid (dom_facts h1)
    have H1 := Lib.hid (show replayF (size, rs) (vars, cs) ds steps = replayA (size, rs) (vars, cs) steps 0 ds by unfold replayF; rw [h1]; rfl)
    have hv1 := (instOk_get HF.out.inst).2.1
    have hdl := HF.out.len
    have hdt := HF.out.ten
    simp only at hv1 hdl
    clear h1
    go_wp2_with fail
    refine (ownLists_c ds _ _ (Rd.mono HP.out hs27.bel) (by omega) HZ.out).mono ?_
    rintro e w28 ⟨v2, rfl, hac, hbw28⟩
    have hz_w28 : w26.heap.size ≤ w28.heap.size := by have h9 := hbw28.size; (try simp at h9); omega
    have hs29 := hs27.step hbw28
    clear k0_0 k0_1 k1_0 k1_1
    have k0_0 := hs29.cellAt 0 rfl 0 rfl
    have k0_1 := hs29.cellAt 0 rfl 1 rfl
    have k1_0 := hs29.cellAt 1 rfl 0 rfl
    have k1_1 := hs29.cellAt 1 rfl 1 rfl
    obtain ⟨g2, c2, rfl⟩ := accP_form hac (by omega)
    have HW := Lib.hid (show DomW w g2 c2 ds.length [(w.heap.size, #[.int .i64 size, .slice at0 rs.length ct0], 26), (w.heap.size + 1, #[.int .i64 vars, .slice ax cs.length cx], 29)] w28 ds from
      ⟨hs29.up hs29.hi (Nat.le_refl _), hac.ip.wk (fun z hz => by
        have h8 := hz.1
        (try simp at h8)
        refine ⟨by omega, fun x hx => ?_⟩
        simp at hx
        rcases hx with rfl | rfl <;> (simp only; omega))⟩)
    have HDO := Lib.hid (show DomOk ds.length ds from ⟨rfl, HZ.out⟩)
    have HDL := Lib.hid hdl
    clear hac hdl
    go_wp2_with fail
    go_loopw [23] (fun i wl => ∃ (k : Nat) (D : List (List Int)), k ≤ steps.length ∧ i = .int .i64 k ∧ Hid (DomW w g2 c2 ds.length [(w.heap.size, #[.int .i64 size, .slice at0 rs.length ct0], 26), (w.heap.size + 1, #[.int .i64 vars, .slice ax cs.length cx], 29)] wl D) ∧ Hid (DomOk ds.length D) ∧ Hid (replayA (size, rs) (vars, cs) steps 0 ds = replayA (size, rs) (vars, cs) (steps.drop k) k D)) (fun i _ => steps.length - (intOf i).toNat)
    case atStart => exact ⟨0, ds, Nat.zero_le _, rfl, HW.out, HDO.out, rfl⟩
    case round =>
      clear HW HDO
      obtain ⟨k, D, hk, rfl, hw, hdo, hrun⟩ := hrel
      have hs1 := hw.out.st
      have k0_0 := hs1.cellAt 0 rfl 0 rfl
      have k0_1 := hs1.cellAt 0 rfl 1 rfl
      have k1_0 := hs1.cellAt 1 rfl 0 rfl
      have k1_1 := hs1.cellAt 1 rfl 1 rfl
      by_cases hlt : k < steps.length
      · have hkl : (k : Int) < steps.length := by omega
        obtain ⟨b, o, u0, u1, u2, rfl, p0, p1, p2, hy⟩ := rdSl_three rfl HSR.out k hlt
        have HDR := Lib.hid (replayA_drop (t := (size, rs)) (x := (vars, cs)) hlt k D)
        have hy0 := rd_cons rfl hy
        have hy1 := rd_cons rfl hy0.2
        obtain ⟨rfl, _⟩ := rd_i1 hy0.1
        obtain ⟨rfl, _⟩ := rd_i1 hy1.1
        obtain ⟨rfl, _⟩ := rd_i1 hy1.2
        clear hy hy0 hy1
        generalize hss : steps[k] = SS at *
        obtain ⟨va, aa, ka⟩ := SS
        simp only at p0 p1 p2
        have HSS := Lib.hid hss
        clear hss
        have e0 := cellL hs1.bel p0
        have e1 := cellL hs1.bel p1
        have e2 := cellL hs1.bel p2
        have HWB := Lib.hid (hw.out.box #[.int .i64 va, .int .i64 aa, .int .i64 ka] 41)
        have hlr := hdo.out.len
        obtain ⟨wc, hwc⟩ : ∃ x, x = wr := ⟨_, rfl⟩
        subst hwc
        have hs30 := hs1.alloc #[.int .i64 va, .int .i64 aa, .int .i64 ka] 41 (n := wc.heap.size) (by simp)
        clear k0_0 k0_1 k1_0 k1_1
        have k0_0 := hs30.cellAt 0 rfl 0 rfl
        have k0_1 := hs30.cellAt 0 rfl 1 rfl
        have k1_0 := hs30.cellAt 1 rfl 0 rfl
        have k1_1 := hs30.cellAt 1 rfl 1 rfl
        have k2_0 := hs30.cellAt 2 rfl 0 rfl
        have k2_1 := hs30.cellAt 2 rfl 1 rfl
        have k2_2 := hs30.cellAt 2 rfl 2 rfl
        go_wp2_with fail
        refine (isArcStep_c (size, rs) (vars, cs) D va aa ka _ _ _ _ _ _ (Rd.mono HT.out hs30.bel) (Rd.mono HX.out hs30.bel) HWB.out.rd HF.out.inst (by rw [hlr]; exact HDL.out)).mono ?_
        rintro e w5 ⟨rfl, hb5⟩
        have HW5 := Lib.hid (HWB.out.step hb5)
        cases hso : stepOk (size, rs) (vars, cs) D (va, aa, ka) with
        | false =>
          have H2 := Lib.hid (show replayF (size, rs) (vars, cs) ds steps = ([], (k : Int), 8) by rw [H1.out, hrun.out, HDR.out, hso]; rfl)
          have HBF := Lib.hid HW5.out.bel
          clear hso hb5
          go_wp2_with fail
          refine bodyPost_ret (v := .tuple #[.slice none 0 0, .int .i64 k, .int .i64 8]) (by simp [results, Tryz.results11, go_sem]) rfl ⟨_, by rw [H2.out], by rw [H2.out]; exact fresh_nil_list, HBF.out⟩
        | true =>
          obtain ⟨hva, hha⟩ := stepOk_get hso
          simp only at hva
          obtain ⟨vn, rfl⟩ : ∃ vn : Nat, va = (vn : Int) := ⟨va.toNat, by omega⟩
          rw [Int.toNat_natCast] at hha
          have hvn : vn < D.length := by have := HDL.out; omega
          have hvnI : (vn : Int) < ds.length := by omega
          have hvnD : vn < ds.length := by omega
          have HGD := Lib.hid (show D.getD vn [] = D[vn] by rw [List.getD, List.getElem?_eq_getElem hvn]; rfl)
          have HNX := Lib.hid (show replayA (size, rs) (vars, cs) steps 0 ds = replayA (size, rs) (vars, cs) (steps.drop (k + 1)) (k + 1) (D.set vn (D[vn].filter (fun x => x != aa))) by
            rw [hrun.out, HDR.out, hso, ← HGD.out]; rfl)
          have HDN2 := Lib.hid (show DomOk ds.length (D.set vn (D[vn].filter (fun x => x != aa))) by
            rw [← HGD.out]
            exact cutD_ok (s := ((vn : Int), aa, ka)) hdo.out hvn)
          have hsm := hdo.out.small _ (List.getElem_mem hvn)
          rw [HGD.out] at hha
          have hpos := hasI_pos hha
          have hs5 := HW5.out.st
          obtain ⟨aE, cE, eE, hdE⟩ := rd_list HW5.out.rd
          simp only [Value.slice.injEq, Option.some.injEq] at eE
          obtain ⟨rfl, hVl5, rfl⟩ := eE
          obtain ⟨b6, o6, vd6, e6, qd6, hdn6⟩ := rdSl_one rfl hdE vn hvn
          simp only [Option.some.injEq, Addr.mk.injEq, and_true] at e6
          obtain ⟨rfl, rfl⟩ := e6
          obtain ⟨a7, c7, rfl, _⟩ := rd_list hdn6
          have HDN6 := Lib.hid hdn6
          have HPOS := Lib.hid hpos
          have HSM := Lib.hid hsm
          have HVN := Lib.hid hvn
          have HB5 := Lib.hid (show Below w5.heap.size w5 w5 from Below.refl _ _)
          clear hVl5 hdE hdn6 hso hha hpos hsm hlr
          generalize D[vn] = D6 at *
          rw [Nat.zero_add] at qd6
          go_upto_region 9 with fail
          refine wp_region_noPanic (wp_region_tree4 (fun w' => w'.cell? ⟨w.heap.size, 0, none⟩ = some (.int .i64 size) ∧ w'.cell? ⟨w.heap.size, 1, none⟩ = some (.slice at0 rs.length ct0) ∧ w'.cell? ⟨w.heap.size + 1, 0, none⟩ = some (.int .i64 vars) ∧ w'.cell? ⟨w.heap.size + 1, 1, none⟩ = some (.slice ax cs.length cx) ∧ w'.cell? ⟨wc.heap.size, 0, none⟩ = some (.int .i64 vn) ∧ w'.cell? ⟨wc.heap.size, 1, none⟩ = some (.int .i64 aa) ∧ w'.cell? ⟨wc.heap.size, 2, none⟩ = some (.int .i64 ka) ∧ w'.cell? ⟨g2, vn, none⟩ = some (.slice a7 D6.length c7)) (.float 0 (.float 1 (.float 2 (.float 3 (.float 4 (.float 5 (.float 6 (.float 7 (.float 8 (.float 9 (.hard 10 (.float 11 (.last 12 .nil))))))))))))) (by kernel_rfl) (by kernel_rfl) (by kernel_rfl) rfl ?_ (fun _ _ _ _ _ h => h) ?_)
          · exact ⟨(hs5.drew).cellAt 0 rfl 0 rfl, (hs5.drew).cellAt 0 rfl 1 rfl, (hs5.drew).cellAt 1 rfl 0 rfl, (hs5.drew).cellAt 1 rfl 1 rfl, (hs5.drew).cellAt 2 rfl 0 rfl, (hs5.drew).cellAt 2 rfl 1 rfl, (hs5.drew).cellAt 2 rfl 2 rfl, cellL (belowD _) qd6⟩
          have hs31 := hs5.drew
          have qd6_32 := cellL (belowD _) qd6
          clear qd6
          have HB5_33 := Lib.hid (HB5.out.trans (((belowD _)).mono HB5.out.size))
          clear HB5
          have hz_wd34 : w5.heap.size ≤ (w5.drew).heap.size := by simp
          generalize hgen_wd34 : w5.drew = wd34 at *
          have HG_wd34 := Lib.hid hgen_wd34
          clear hgen_wd34
          (repeat (first | (apply t4_skip rfl (by rfl); try simp only [Act.put, List.setIfInBounds_toArray, List.set_cons_zero, List.set_cons_succ]) | (apply t4_float rfl (by rfl); (· (intro w' hS; go_simp <;> with_reducible rfl)); (try simp only [Act.put, List.setIfInBounds_toArray, List.set_cons_zero, List.set_cons_succ]))))
          refine t4_hard rfl (by rfl) (fun K hK => ?_)
          go_wp2_with (go_at_call 35; refine (without_c D6 _ aa _ (Rd.mono HDN6.out HB5_33.out) HSM.out HPOS.out).mono ?_; rintro e w35 ⟨v6, rfl, hA6, hbw35⟩)
          have hz_w35 : wd34.heap.size ≤ w35.heap.size := by have h9 := hbw35.size; (try simp at h9); omega
          have hs36 := hs31.step hbw35
          have qd6_37 := cellL hbw35 qd6_32
          clear qd6_32
          have HB5_38 := Lib.hid (HB5_33.out.trans ((hbw35).mono HB5_33.out.size))
          clear HB5_33
          obtain ⟨a8, c8, rfl, _⟩ := hA6.len
          have HF6 := Lib.hid hA6.fresh
          clear hA6
          refine ⟨⟨hs36.cellAt 0 rfl 0 rfl, hs36.cellAt 0 rfl 1 rfl, hs36.cellAt 1 rfl 0 rfl, hs36.cellAt 1 rfl 1 rfl, hs36.cellAt 2 rfl 0 rfl, hs36.cellAt 2 rfl 1 rfl, hs36.cellAt 2 rfl 2 rfl, qd6_37⟩, ?_⟩
          (repeat (first | (apply t4_skip rfl (by rfl); try simp only [Act.put, List.setIfInBounds_toArray, List.set_cons_zero, List.set_cons_succ]) | (apply t4_float rfl (by rfl); (· (intro w' hS; go_simp <;> with_reducible rfl)); (try simp only [Act.put, List.setIfInBounds_toArray, List.set_cons_zero, List.set_cons_succ]))))
          refine t4_last rfl (by rfl) (fun K hK => ?_)
          have k0_0 := hs36.cellAt 0 rfl 0 rfl
          have k0_1 := hs36.cellAt 0 rfl 1 rfl
          have k1_0 := hs36.cellAt 1 rfl 0 rfl
          have k1_1 := hs36.cellAt 1 rfl 1 rfl
          have k2_0 := hs36.cellAt 2 rfl 0 rfl
          have k2_1 := hs36.cellAt 2 rfl 1 rfl
          have k2_2 := hs36.cellAt 2 rfl 2 rfl
          have HP := Lib.hid ((HW5.out.put HB5_38.out (v := vn) HVN.out (Fresh.lower HF6.out (by omega))).sub (bx' := [(w.heap.size, #[.int .i64 size, .slice at0 rs.length ct0], 26), (w.heap.size + 1, #[.int .i64 vars, .slice ax cs.length cx], 29)]) (fun x hx => by simp at hx ⊢; rcases hx with rfl | rfl <;> simp))
          have f6 := (HW5.out.step HB5_38.out).free (by have := HVN.out; omega) vn
          go_wp2_with fail
          refine t4_nil (NoPanic.normal ?_)
          go_wp2_with fail
          go_roundw
          case rel => exact ⟨k + 1, _, by omega, by go_num, HP.out, HDN2.out, HNX.out⟩
          case measure => simp [intOf]; omega
      · obtain rfl : k = steps.length := by omega
        have hnl : ¬ ((steps.length : Int) < steps.length) := by omega
        have H2 := Lib.hid (show replayF (size, rs) (vars, cs) ds steps = (D, 0, 0) by rw [H1.out, hrun.out, List.drop_length]; rfl)
        have HFR := Lib.hid (show Fresh w.heap.size wr [.slice (some ⟨g2, 0, none⟩) ds.length c2] D from hw.out.dom.fresh (fun z hz => hz.1))
        have HBF := Lib.hid hw.out.bel
        go_wp2_with fail
        refine bodyPost_ret (v := .tuple #[.slice (some ⟨g2, 0, none⟩) ds.length c2, .int .i64 0, .int .i64 0]) (by simp [results, Tryz.results11, go_sem]) rfl ⟨_, by rw [H2.out], by rw [H2.out]; exact HFR.out, HBF.out⟩

end Go.Proofs.YtamkfnkikiekaaaGreat

