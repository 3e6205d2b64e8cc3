/-
  CONTRACTS: steps told again: the reference's side.
-/
import Derived.Test.YtjkjfjpajmjglaaGreatReplay
import Derived.Test.YtjkjfjpajmjglaaGreatOwnS
namespace Go.Proofs.YtjkjfjpajmjglaaGreat
open Go.RowKit Go.Shelf Go.IntWalk
open Rep (Rd Own sz)
set_option linter.unusedSimpArgs false
set_option linter.unusedVariables false

theorem fresh_none {α : Type} [Rep α] {H : Nat} {w : World} {a : Option Addr} {c : Nat} (hc : c ≤ maxLen) : Fresh H w [.slice a 0 c] ([] : List α) :=
  ⟨[], ⟨_, rfl, .inl ⟨rfl, rfl, _, _, rfl, hc⟩⟩, List.nodup_nil, fun z hz => by cases hz⟩
set_option maxRecDepth 100000 in
set_option maxHeartbeats 8000000 in
theorem l05Right_c (t : Tmpl) (x : Inst) (ds : List (List Int)) (va aa ka : Int) (tb xb sb so : Nat) (t0 t1 x0 x1 vd : Value) (w : World) (ht : Rd w [t0, t1] t) (hx : Rd w [x0, x1] x) (hd : Rd w [vd] ds) (hok : instOk t x = true) (hl : (ds.length : Int) = x.1)
    (tc : w.cell? ⟨tb, 1, none⟩ = some t1) (xc0 : w.cell? ⟨xb, 0, none⟩ = some x0) (xc1 : w.cell? ⟨xb, 1, none⟩ = some x1)
    (sc0 : w.cell? ⟨sb, so, none⟩ = some (.int .i64 va)) (sc1 : w.cell? ⟨sb, so + 1, none⟩ = some (.int .i64 aa)) (sc2 : w.cell? ⟨sb, so + 2, none⟩ = some (.int .i64 ka)) :
    Calls Tryz.prog 94 #[.pointer (some ⟨tb, 0, none⟩), .pointer (some ⟨xb, 0, none⟩), vd, .pointer (some ⟨sb, so, none⟩)] w fun e w' => e = .returned (.bool (stepOk t x ds (va, aa, ka))) ∧ Below w.heap.size w w' := by
  obtain ⟨size, rs⟩ := t
  obtain ⟨vars, cs⟩ := x
  simp only at hl
  have zt := rd_cons rfl ht
  obtain ⟨rfl, _⟩ := rd_i1 zt.1
  obtain ⟨at0, ct0, rfl, _⟩ := rd_list zt.2
  have zx := rd_cons rfl hx
  obtain ⟨rfl, _⟩ := rd_i1 zx.1
  obtain ⟨ax, cx, rfl, hcs⟩ := rd_list zx.2
  obtain ⟨ad, cd, rfl, hdr⟩ := rd_list hd
  have hv1 := (instOk_get hok).2.1
  have hcl := (instOk_get hok).2.2.1
  simp only at hv1 hcl
  have HR := Lib.hid zt.2
  have HD := Lib.hid hd
  have HCS := Lib.hid hcs
  have HDR := Lib.hid hdr
  have HFC := Lib.hid (fun (k : Nat) (hk : k < cs.length) => con_facts hok hk)
  have HDL := Lib.hid hl
  clear ht hx hd zt zx hcs hdr hok hl
  have ew : IntKind.i64.wrap (vars - 1) = vars - 1 := i64_in _ (by omega)
  have ew2 : IntKind.i64.wrap ((cs.length : Int) - 1) = (cs.length : Int) - 1 := i64_in _ (by omega)
  have tc_ := cellL (St.start w).bel tc
  clear tc_
  have tc_ := cellL (St.start w).bel tc
  have xc0_ := cellL (St.start w).bel xc0
  clear tc_ xc0_
  have tc_ := cellL (St.start w).bel tc
  have xc0_ := cellL (St.start w).bel xc0
  have xc1_ := cellL (St.start w).bel xc1
  clear tc_ xc0_ xc1_
  have tc_ := cellL (St.start w).bel tc
  have xc0_ := cellL (St.start w).bel xc0
  have xc1_ := cellL (St.start w).bel xc1
  have sc0_ := cellL (St.start w).bel sc0
  clear tc_ xc0_ xc1_ sc0_
  have tc_ := cellL (St.start w).bel tc
  have xc0_ := cellL (St.start w).bel xc0
  have xc1_ := cellL (St.start w).bel xc1
  have sc0_ := cellL (St.start w).bel sc0
  have sc1_ := cellL (St.start w).bel sc1
  clear tc_ xc0_ xc1_ sc0_ sc1_
  have tc_ := cellL (St.start w).bel tc
  have xc0_ := cellL (St.start w).bel xc0
  have xc1_ := cellL (St.start w).bel xc1
  have sc0_ := cellL (St.start w).bel sc0
  have sc1_ := cellL (St.start w).bel sc1
  have sc2_ := cellL (St.start w).bel sc2
  go_enter Tryz.func94, Tryz.ntmps94
  cases h1 : inB va 0 (vars - 1) with
  | false =>
    have H1 := Lib.hid (stepOk_no (t := (size, rs)) (x := (vars, cs)) (ds := ds) (s := (va, aa, ka)) (by unfold firstOk; simp only [h1, Bool.false_and]))
    go_upto_region 1 with fail
    refine wp_region_noPanic (wp_region_tree4 (fun w' => w'.cell? ⟨tb, 1, none⟩ = some (.slice at0 rs.length ct0) ∧ w'.cell? ⟨xb, 0, none⟩ = some (.int .i64 vars) ∧ w'.cell? ⟨xb, 1, none⟩ = some (.slice ax cs.length cx) ∧ w'.cell? ⟨sb, so, none⟩ = some (.int .i64 va) ∧ w'.cell? ⟨sb, so + 1, none⟩ = some (.int .i64 aa) ∧ w'.cell? ⟨sb, so + 2, none⟩ = some (.int .i64 ka)) (.float 0 (.float 1 (.float 2 (.float 3 (.float 4 (.float 5 (.float 6 (.float 7 (.float 8 (.hard 9 (.float 10 (.float 11 (.float 12 (.float 13 (.float 14 (.float 15 (.float 16 (.float 17 (.float 18 (.float 19 (.float 20 (.float 21 (.hard 22 (.float 23 (.float 24 (.float 25 (.float 26 (.float 27 (.float 28 (.float 29 (.float 30 (.float 31 (.float 32 (.float 33 (.float 34 (.float 35 (.float 36 (.hard 37 (.float 38 (.float 39 .nil)))))))))))))))))))))))))))))))))))))))) (by kernel_rfl) (by kernel_rfl) (by kernel_rfl) rfl ?_ (fun _ _ _ _ _ h => h) ?_)
    · exact ⟨cellL ((St.start w).drew).bel tc, cellL ((St.start w).drew).bel xc0, cellL ((St.start w).drew).bel xc1, cellL ((St.start w).drew).bel sc0, cellL ((St.start w).drew).bel sc1, cellL ((St.start w).drew).bel sc2⟩
    have hs1 := (St.start w).drew
    clear tc_ xc0_ xc1_ sc0_ sc1_ sc2_
    have hz_wd2 : w.heap.size ≤ (w.drew).heap.size := by simp
    generalize hgen_wd2 : w.drew = wd2 at *
    have HG_wd2 := Lib.hid hgen_wd2
    clear hgen_wd2
    (repeat (first | (apply t4_skip rfl (by rfl); try simp only [Act.put, List.setIfInBounds_toArray, List.set_cons_zero, List.set_cons_succ]) | (apply t4_float rfl (by rfl); (· (intro w' hS; go_simp <;> with_reducible rfl)); (try simp only [Act.put, List.setIfInBounds_toArray, List.set_cons_zero, List.set_cons_succ]))))
    refine t4_hard rfl (by rfl) (fun K hK => ?_)
    go_wp2_with (go_at_call 62; refine (l00In_c va 0 (vars - 1) _).mono ?_; rintro e w3 ⟨rfl, rfl, rfl⟩)
    refine ⟨⟨cellL hs1.bel tc, cellL hs1.bel xc0, cellL hs1.bel xc1, cellL hs1.bel sc0, cellL hs1.bel sc1, cellL hs1.bel sc2⟩, ?_⟩
    (repeat (first | (apply t4_skip rfl (by rfl); try simp only [Act.put, List.setIfInBounds_toArray, List.set_cons_zero, List.set_cons_succ]) | (apply t4_float rfl (by rfl); (· (intro w' hS; go_simp <;> with_reducible rfl)); (try simp only [Act.put, List.setIfInBounds_toArray, List.set_cons_zero, List.set_cons_succ]))))
    refine t4_hskip rfl (by rfl) ?_ ?_
    · exact ⟨cellL hs1.bel tc, cellL hs1.bel xc0, cellL hs1.bel xc1, cellL hs1.bel sc0, cellL hs1.bel sc1, cellL hs1.bel sc2⟩
    (try simp only [Act.put, List.setIfInBounds_toArray, List.set_cons_zero, List.set_cons_succ])
    (repeat (first | (apply t4_skip rfl (by rfl); try simp only [Act.put, List.setIfInBounds_toArray, List.set_cons_zero, List.set_cons_succ]) | (apply t4_float rfl (by rfl); (· (intro w' hS; go_simp <;> with_reducible rfl)); (try simp only [Act.put, List.setIfInBounds_toArray, List.set_cons_zero, List.set_cons_succ]))))
    refine t4_hskip rfl (by rfl) ?_ ?_
    · exact ⟨cellL hs1.bel tc, cellL hs1.bel xc0, cellL hs1.bel xc1, cellL hs1.bel sc0, cellL hs1.bel sc1, cellL hs1.bel sc2⟩
    (try simp only [Act.put, List.setIfInBounds_toArray, List.set_cons_zero, List.set_cons_succ])
    (repeat (first | (apply t4_skip rfl (by rfl); try simp only [Act.put, List.setIfInBounds_toArray, List.set_cons_zero, List.set_cons_succ]) | (apply t4_float rfl (by rfl); (· (intro w' hS; go_simp <;> with_reducible rfl)); (try simp only [Act.put, List.setIfInBounds_toArray, List.set_cons_zero, List.set_cons_succ]))))
    have tc_ := cellL hs1.bel tc
    have xc0_ := cellL hs1.bel xc0
    have xc1_ := cellL hs1.bel xc1
    have sc0_ := cellL hs1.bel sc0
    have sc1_ := cellL hs1.bel sc1
    have sc2_ := cellL hs1.bel sc2
    refine t4_nil (NoPanic.normal ?_)
    go_wp2_with fail
    go_ret
    exact ⟨ret_bool H1.out.symm, hs1.bel⟩
  | true =>
    have h2 := inB_true h1
    obtain ⟨vn, rfl⟩ : ∃ vn : Nat, va = (vn : Int) := ⟨va.toNat, by omega⟩
    have hvn : vn < ds.length := by have := HDL.out; omega
    have hvnI : (vn : Int) < ds.length := by omega
    cases h3 : inB ka 0 ((cs.length : Int) - 1) with
    | false =>
      have H1 := Lib.hid (stepOk_no (t := (size, rs)) (x := (vars, cs)) (ds := ds) (s := ((vn : Int), aa, ka)) (by unfold firstOk; simp only [h3, Bool.and_false, Bool.false_and]))
      go_upto_region 1 with fail
      refine wp_region_noPanic (wp_region_tree4 (fun w' => w'.cell? ⟨tb, 1, none⟩ = some (.slice at0 rs.length ct0) ∧ w'.cell? ⟨xb, 0, none⟩ = some (.int .i64 vars) ∧ w'.cell? ⟨xb, 1, none⟩ = some (.slice ax cs.length cx) ∧ w'.cell? ⟨sb, so, none⟩ = some (.int .i64 (vn : Int)) ∧ w'.cell? ⟨sb, so + 1, none⟩ = some (.int .i64 aa) ∧ w'.cell? ⟨sb, so + 2, none⟩ = some (.int .i64 ka)) (.float 0 (.float 1 (.float 2 (.float 3 (.float 4 (.float 5 (.float 6 (.float 7 (.float 8 (.hard 9 (.float 10 (.float 11 (.float 12 (.float 13 (.float 14 (.float 15 (.float 16 (.float 17 (.float 18 (.float 19 (.float 20 (.float 21 (.hard 22 (.float 23 (.float 24 (.float 25 (.float 26 (.float 27 (.float 28 (.float 29 (.float 30 (.float 31 (.float 32 (.float 33 (.float 34 (.float 35 (.float 36 (.hard 37 (.float 38 (.float 39 .nil)))))))))))))))))))))))))))))))))))))))) (by kernel_rfl) (by kernel_rfl) (by kernel_rfl) rfl ?_ (fun _ _ _ _ _ h => h) ?_)
      · exact ⟨cellL ((St.start w).drew).bel tc, cellL ((St.start w).drew).bel xc0, cellL ((St.start w).drew).bel xc1, cellL ((St.start w).drew).bel sc0, cellL ((St.start w).drew).bel sc1, cellL ((St.start w).drew).bel sc2⟩
      have hs4 := (St.start w).drew
      clear tc_ xc0_ xc1_ sc0_ sc1_ sc2_
      have hz_wd5 : w.heap.size ≤ (w.drew).heap.size := by simp
      generalize hgen_wd5 : w.drew = wd5 at *
      have HG_wd5 := Lib.hid hgen_wd5
      clear hgen_wd5
      (repeat (first | (apply t4_skip rfl (by rfl); try simp only [Act.put, List.setIfInBounds_toArray, List.set_cons_zero, List.set_cons_succ]) | (apply t4_float rfl (by rfl); (· (intro w' hS; go_simp <;> with_reducible rfl)); (try simp only [Act.put, List.setIfInBounds_toArray, List.set_cons_zero, List.set_cons_succ]))))
      refine t4_hard rfl (by rfl) (fun K hK => ?_)
      go_wp2_with (go_at_call 62; refine (l00In_c vn 0 (vars - 1) _).mono ?_; rintro e w6 ⟨rfl, rfl, rfl⟩)
      refine ⟨⟨cellL hs4.bel tc, cellL hs4.bel xc0, cellL hs4.bel xc1, cellL hs4.bel sc0, cellL hs4.bel sc1, cellL hs4.bel sc2⟩, ?_⟩
      (repeat (first | (apply t4_skip rfl (by rfl); try simp only [Act.put, List.setIfInBounds_toArray, List.set_cons_zero, List.set_cons_succ]) | (apply t4_float rfl (by rfl); (· (intro w' hS; go_simp <;> with_reducible rfl)); (try simp only [Act.put, List.setIfInBounds_toArray, List.set_cons_zero, List.set_cons_succ]))))
      refine t4_hard rfl (by rfl) (fun K hK => ?_)
      go_wp2_with (go_at_call 62; refine (l00In_c ka 0 ((cs.length : Int) - 1) _).mono ?_; rintro e w7 ⟨rfl, rfl, rfl⟩)
      refine ⟨⟨cellL hs4.bel tc, cellL hs4.bel xc0, cellL hs4.bel xc1, cellL hs4.bel sc0, cellL hs4.bel sc1, cellL hs4.bel sc2⟩, ?_⟩
      (repeat (first | (apply t4_skip rfl (by rfl); try simp only [Act.put, List.setIfInBounds_toArray, List.set_cons_zero, List.set_cons_succ]) | (apply t4_float rfl (by rfl); (· (intro w' hS; go_simp <;> with_reducible rfl)); (try simp only [Act.put, List.setIfInBounds_toArray, List.set_cons_zero, List.set_cons_succ]))))
      refine t4_hskip rfl (by rfl) ?_ ?_
      · exact ⟨cellL hs4.bel tc, cellL hs4.bel xc0, cellL hs4.bel xc1, cellL hs4.bel sc0, cellL hs4.bel sc1, cellL hs4.bel sc2⟩
      (try simp only [Act.put, List.setIfInBounds_toArray, List.set_cons_zero, List.set_cons_succ])
      (repeat (first | (apply t4_skip rfl (by rfl); try simp only [Act.put, List.setIfInBounds_toArray, List.set_cons_zero, List.set_cons_succ]) | (apply t4_float rfl (by rfl); (· (intro w' hS; go_simp <;> with_reducible rfl)); (try simp only [Act.put, List.setIfInBounds_toArray, List.set_cons_zero, List.set_cons_succ]))))
      have tc_ := cellL hs4.bel tc
      have xc0_ := cellL hs4.bel xc0
      have xc1_ := cellL hs4.bel xc1
      have sc0_ := cellL hs4.bel sc0
      have sc1_ := cellL hs4.bel sc1
      have sc2_ := cellL hs4.bel sc2
      refine t4_nil (NoPanic.normal ?_)
      go_wp2_with fail
      go_ret
      exact ⟨ret_bool H1.out.symm, hs4.bel⟩
    | true =>
      have h4 := inB_true h3
      obtain ⟨k, rfl⟩ : ∃ k : Nat, ka = (k : Int) := ⟨ka.toNat, by omega⟩
      have hk : k < cs.length := by omega
      have hkI : (k : Int) < cs.length := by omega
      obtain ⟨b3, o3, u3, rfl, qd, hdn⟩ := rdSl_one rfl HDR.out vn hvn
      obtain ⟨a3, c3, rfl, _⟩ := rd_list hdn
      have HDN := Lib.hid hdn
      have HGD := Lib.hid (show ds.getD vn [] = ds[vn] by rw [List.getD, List.getElem?_eq_getElem hvn]; rfl)
      have HF := Lib.hid (show firstOk (size, rs) (vars, cs) ds ((vn : Int), aa, (k : Int)) = hasI ds[vn] aa by
        unfold firstOk
        simp only [h1, h3, Bool.true_and, Int.toNat_natCast]
        rw [HGD.out])
      clear hdn
      generalize ds[vn] = D at *
      clear tc_ xc0_ xc1_ sc0_ sc1_ sc2_
      have tc_ := cellL (St.start w).bel tc
      have xc0_ := cellL (St.start w).bel xc0
      have xc1_ := cellL (St.start w).bel xc1
      have sc0_ := cellL (St.start w).bel sc0
      have sc1_ := cellL (St.start w).bel sc1
      have sc2_ := cellL (St.start w).bel sc2
      have qd_ := cellL (St.start w).bel qd
      clear tc_ xc0_ xc1_ sc0_ sc1_ sc2_ qd_
      have tc_ := cellL (St.start w).bel tc
      have xc0_ := cellL (St.start w).bel xc0
      have xc1_ := cellL (St.start w).bel xc1
      have sc0_ := cellL (St.start w).bel sc0
      have sc1_ := cellL (St.start w).bel sc1
      have sc2_ := cellL (St.start w).bel sc2
      have qd_ := cellL (St.start w).bel qd
      cases h5 : hasI D aa with
      | false =>
        have H1 := Lib.hid (stepOk_no (t := (size, rs)) (x := (vars, cs)) (ds := ds) (s := ((vn : Int), aa, (k : Int))) (by rw [HF.out, h5]))
        have HE := Lib.hid h5
        clear h5
        go_upto_region 1 with fail
        refine wp_region_noPanic (wp_region_tree4 (fun w' => w'.cell? ⟨tb, 1, none⟩ = some (.slice at0 rs.length ct0) ∧ w'.cell? ⟨xb, 0, none⟩ = some (.int .i64 vars) ∧ w'.cell? ⟨xb, 1, none⟩ = some (.slice ax cs.length cx) ∧ w'.cell? ⟨sb, so, none⟩ = some (.int .i64 (vn : Int)) ∧ w'.cell? ⟨sb, so + 1, none⟩ = some (.int .i64 aa) ∧ w'.cell? ⟨sb, so + 2, none⟩ = some (.int .i64 (k : Int)) ∧ w'.cell? ⟨b3, o3 + vn, none⟩ = some (.slice a3 D.length c3)) (.float 0 (.float 1 (.float 2 (.float 3 (.float 4 (.float 5 (.float 6 (.float 7 (.float 8 (.hard 9 (.float 10 (.float 11 (.float 12 (.float 13 (.float 14 (.float 15 (.float 16 (.float 17 (.float 18 (.float 19 (.float 20 (.float 21 (.hard 22 (.float 23 (.float 24 (.float 25 (.float 26 (.float 27 (.float 28 (.float 29 (.float 30 (.float 31 (.float 32 (.float 33 (.float 34 (.float 35 (.float 36 (.hard 37 (.float 38 (.float 39 .nil)))))))))))))))))))))))))))))))))))))))) (by kernel_rfl) (by kernel_rfl) (by kernel_rfl) rfl ?_ (fun _ _ _ _ _ h => h) ?_)
        · exact ⟨cellL ((St.start w).drew).bel tc, cellL ((St.start w).drew).bel xc0, cellL ((St.start w).drew).bel xc1, cellL ((St.start w).drew).bel sc0, cellL ((St.start w).drew).bel sc1, cellL ((St.start w).drew).bel sc2, cellL ((St.start w).drew).bel qd⟩
        have hs8 := (St.start w).drew
        clear tc_ xc0_ xc1_ sc0_ sc1_ sc2_ qd_
        have hz_wd9 : w.heap.size ≤ (w.drew).heap.size := by simp
        generalize hgen_wd9 : w.drew = wd9 at *
        have HG_wd9 := Lib.hid hgen_wd9
        clear hgen_wd9
        (repeat (first | (apply t4_skip rfl (by rfl); try simp only [Act.put, List.setIfInBounds_toArray, List.set_cons_zero, List.set_cons_succ]) | (apply t4_float rfl (by rfl); (· (intro w' hS; go_simp <;> with_reducible rfl)); (try simp only [Act.put, List.setIfInBounds_toArray, List.set_cons_zero, List.set_cons_succ]))))
        refine t4_hard rfl (by rfl) (fun K hK => ?_)
        go_wp2_with (go_at_call 62; refine (l00In_c vn 0 (vars - 1) _).mono ?_; rintro e w10 ⟨rfl, rfl, rfl⟩)
        refine ⟨⟨cellL hs8.bel tc, cellL hs8.bel xc0, cellL hs8.bel xc1, cellL hs8.bel sc0, cellL hs8.bel sc1, cellL hs8.bel sc2, cellL hs8.bel qd⟩, ?_⟩
        (repeat (first | (apply t4_skip rfl (by rfl); try simp only [Act.put, List.setIfInBounds_toArray, List.set_cons_zero, List.set_cons_succ]) | (apply t4_float rfl (by rfl); (· (intro w' hS; go_simp <;> with_reducible rfl)); (try simp only [Act.put, List.setIfInBounds_toArray, List.set_cons_zero, List.set_cons_succ]))))
        refine t4_hard rfl (by rfl) (fun K hK => ?_)
        go_wp2_with (go_at_call 62; refine (l00In_c k 0 ((cs.length : Int) - 1) _).mono ?_; rintro e w11 ⟨rfl, rfl, rfl⟩)
        refine ⟨⟨cellL hs8.bel tc, cellL hs8.bel xc0, cellL hs8.bel xc1, cellL hs8.bel sc0, cellL hs8.bel sc1, cellL hs8.bel sc2, cellL hs8.bel qd⟩, ?_⟩
        (repeat (first | (apply t4_skip rfl (by rfl); try simp only [Act.put, List.setIfInBounds_toArray, List.set_cons_zero, List.set_cons_succ]) | (apply t4_float rfl (by rfl); (· (intro w' hS; go_simp <;> with_reducible rfl)); (try simp only [Act.put, List.setIfInBounds_toArray, List.set_cons_zero, List.set_cons_succ]))))
        refine t4_hard rfl (by rfl) (fun K hK => ?_)
        go_wp2_with (go_at_call 152; refine (l00Has_c D _ aa _ (Rd.mono HDN.out hs8.bel)).mono ?_; rintro e w12 ⟨rfl, hbw12⟩)
        have hz_w12 : wd9.heap.size ≤ w12.heap.size := by have h9 := hbw12.size; (try simp at h9); omega
        have hs13 := hs8.step hbw12
        rw [HE.out]
        refine ⟨⟨cellL hs13.bel tc, cellL hs13.bel xc0, cellL hs13.bel xc1, cellL hs13.bel sc0, cellL hs13.bel sc1, cellL hs13.bel sc2, cellL hs13.bel qd⟩, ?_⟩
        (repeat (first | (apply t4_skip rfl (by rfl); try simp only [Act.put, List.setIfInBounds_toArray, List.set_cons_zero, List.set_cons_succ]) | (apply t4_float rfl (by rfl); (· (intro w' hS; go_simp <;> with_reducible rfl)); (try simp only [Act.put, List.setIfInBounds_toArray, List.set_cons_zero, List.set_cons_succ]))))
        have tc_ := cellL hs13.bel tc
        have xc0_ := cellL hs13.bel xc0
        have xc1_ := cellL hs13.bel xc1
        have sc0_ := cellL hs13.bel sc0
        have sc1_ := cellL hs13.bel sc1
        have sc2_ := cellL hs13.bel sc2
        have qd_ := cellL hs13.bel qd
        refine t4_nil (NoPanic.normal ?_)
        go_wp2_with fail
        go_ret
        exact ⟨ret_bool H1.out.symm, hs13.bel⟩
      | true =>
        obtain ⟨nr, hcn, hnr, hyl, hsv, hsc4⟩ := HFC.out k hk
        obtain ⟨b, o, u0, u1, rfl, p0, p1, hy⟩ := rdSl_two rfl HCS.out k hk
        have hyz := rd_cons rfl hy
        obtain ⟨rfl, _⟩ := rd_i1 hyz.1
        obtain ⟨a1, c1, rfl, _⟩ := rd_list hyz.2
        have HSC := Lib.hid hyz.2
        have HCON := Lib.hid hy
        have HYL := Lib.hid hyl
        have HSV := Lib.hid hsv
        have HNR := Lib.hid hnr
        have HST0 := Lib.hid (fun (sc : List Int) (e : cs[k] = ((nr : Int), sc)) => stepOk_con (t := (size, rs)) (x := (vars, cs)) (ds := ds) (v := (vn : Int)) (a := aa) (by rw [HF.out, h5]) hk e)
        clear hyl hsv hnr hy hyz
        generalize hCC : cs[k] = CC at *
        obtain ⟨ci, sc⟩ := CC
        simp only at hcn p0 p1 HSC HCON HYL HSV hsc4
        subst hcn
        have HST := Lib.hid (HST0.out sc rfl)
        have HCC := Lib.hid hCC
        clear hCC HST0
        clear tc_ xc0_ xc1_ sc0_ sc1_ sc2_ qd_
        have tc_ := cellL (St.start w).bel tc
        have xc0_ := cellL (St.start w).bel xc0
        have xc1_ := cellL (St.start w).bel xc1
        have sc0_ := cellL (St.start w).bel sc0
        have sc1_ := cellL (St.start w).bel sc1
        have sc2_ := cellL (St.start w).bel sc2
        have qd_ := cellL (St.start w).bel qd
        have p0_ := cellL (St.start w).bel p0
        clear tc_ xc0_ xc1_ sc0_ sc1_ sc2_ qd_ p0_
        have tc_ := cellL (St.start w).bel tc
        have xc0_ := cellL (St.start w).bel xc0
        have xc1_ := cellL (St.start w).bel xc1
        have sc0_ := cellL (St.start w).bel sc0
        have sc1_ := cellL (St.start w).bel sc1
        have sc2_ := cellL (St.start w).bel sc2
        have qd_ := cellL (St.start w).bel qd
        have p0_ := cellL (St.start w).bel p0
        have p1_ := cellL (St.start w).bel p1
        clear tc_ xc0_ xc1_ sc0_ sc1_ sc2_ qd_ p0_ p1_
        have tc_ := cellL (St.start w).bel tc
        have xc0_ := cellL (St.start w).bel xc0
        have xc1_ := cellL (St.start w).bel xc1
        have sc0_ := cellL (St.start w).bel sc0
        have sc1_ := cellL (St.start w).bel sc1
        have sc2_ := cellL (St.start w).bel sc2
        have qd_ := cellL (St.start w).bel qd
        have p0_ := cellL (St.start w).bel p0
        have p1_ := cellL (St.start w).bel p1
        have HE := Lib.hid h5
        clear h5
        go_upto_region 1 with fail
        refine wp_region_noPanic (wp_region_tree4 (fun w' => w'.cell? ⟨tb, 1, none⟩ = some (.slice at0 rs.length ct0) ∧ w'.cell? ⟨xb, 0, none⟩ = some (.int .i64 vars) ∧ w'.cell? ⟨xb, 1, none⟩ = some (.slice (some ⟨b, o, none⟩) cs.length cx) ∧ w'.cell? ⟨sb, so, none⟩ = some (.int .i64 (vn : Int)) ∧ w'.cell? ⟨sb, so + 1, none⟩ = some (.int .i64 aa) ∧ w'.cell? ⟨sb, so + 2, none⟩ = some (.int .i64 (k : Int)) ∧ w'.cell? ⟨b3, o3 + vn, none⟩ = some (.slice a3 D.length c3) ∧ w'.cell? ⟨b, o + k * 2, none⟩ = some (.int .i64 nr) ∧ w'.cell? ⟨b, o + k * 2 + 1, none⟩ = some (.slice a1 sc.length c1)) (.float 0 (.float 1 (.float 2 (.float 3 (.float 4 (.float 5 (.float 6 (.float 7 (.float 8 (.hard 9 (.float 10 (.float 11 (.float 12 (.float 13 (.float 14 (.float 15 (.float 16 (.float 17 (.float 18 (.float 19 (.float 20 (.float 21 (.hard 22 (.float 23 (.float 24 (.float 25 (.float 26 (.float 27 (.float 28 (.float 29 (.float 30 (.float 31 (.float 32 (.float 33 (.float 34 (.float 35 (.float 36 (.hard 37 (.float 38 (.float 39 .nil)))))))))))))))))))))))))))))))))))))))) (by kernel_rfl) (by kernel_rfl) (by kernel_rfl) rfl ?_ (fun _ _ _ _ _ h => h) ?_)
        · exact ⟨cellL ((St.start w).drew).bel tc, cellL ((St.start w).drew).bel xc0, cellL ((St.start w).drew).bel xc1, cellL ((St.start w).drew).bel sc0, cellL ((St.start w).drew).bel sc1, cellL ((St.start w).drew).bel sc2, cellL ((St.start w).drew).bel qd, cellL ((St.start w).drew).bel p0, cellL ((St.start w).drew).bel p1⟩
        have hs14 := (St.start w).drew
        clear tc_ xc0_ xc1_ sc0_ sc1_ sc2_ qd_ p0_ p1_
        have hz_wd15 : w.heap.size ≤ (w.drew).heap.size := by simp
        generalize hgen_wd15 : w.drew = wd15 at *
        have HG_wd15 := Lib.hid hgen_wd15
        clear hgen_wd15
        (repeat (first | (apply t4_skip rfl (by rfl); try simp only [Act.put, List.setIfInBounds_toArray, List.set_cons_zero, List.set_cons_succ]) | (apply t4_float rfl (by rfl); (· (intro w' hS; go_simp <;> with_reducible rfl)); (try simp only [Act.put, List.setIfInBounds_toArray, List.set_cons_zero, List.set_cons_succ]))))
        refine t4_hard rfl (by rfl) (fun K hK => ?_)
        go_wp2_with (go_at_call 62; refine (l00In_c vn 0 (vars - 1) _).mono ?_; rintro e w16 ⟨rfl, rfl, rfl⟩)
        refine ⟨⟨cellL hs14.bel tc, cellL hs14.bel xc0, cellL hs14.bel xc1, cellL hs14.bel sc0, cellL hs14.bel sc1, cellL hs14.bel sc2, cellL hs14.bel qd, cellL hs14.bel p0, cellL hs14.bel p1⟩, ?_⟩
        (repeat (first | (apply t4_skip rfl (by rfl); try simp only [Act.put, List.setIfInBounds_toArray, List.set_cons_zero, List.set_cons_succ]) | (apply t4_float rfl (by rfl); (· (intro w' hS; go_simp <;> with_reducible rfl)); (try simp only [Act.put, List.setIfInBounds_toArray, List.set_cons_zero, List.set_cons_succ]))))
        refine t4_hard rfl (by rfl) (fun K hK => ?_)
        go_wp2_with (go_at_call 62; refine (l00In_c k 0 ((cs.length : Int) - 1) _).mono ?_; rintro e w17 ⟨rfl, rfl, rfl⟩)
        refine ⟨⟨cellL hs14.bel tc, cellL hs14.bel xc0, cellL hs14.bel xc1, cellL hs14.bel sc0, cellL hs14.bel sc1, cellL hs14.bel sc2, cellL hs14.bel qd, cellL hs14.bel p0, cellL hs14.bel p1⟩, ?_⟩
        (repeat (first | (apply t4_skip rfl (by rfl); try simp only [Act.put, List.setIfInBounds_toArray, List.set_cons_zero, List.set_cons_succ]) | (apply t4_float rfl (by rfl); (· (intro w' hS; go_simp <;> with_reducible rfl)); (try simp only [Act.put, List.setIfInBounds_toArray, List.set_cons_zero, List.set_cons_succ]))))
        refine t4_hard rfl (by rfl) (fun K hK => ?_)
        go_wp2_with (go_at_call 152; refine (l00Has_c D _ aa _ (Rd.mono HDN.out hs14.bel)).mono ?_; rintro e w18 ⟨rfl, hbw18⟩)
        have hz_w18 : wd15.heap.size ≤ w18.heap.size := by have h9 := hbw18.size; (try simp at h9); omega
        have hs19 := hs14.step hbw18
        rw [HE.out]
        refine ⟨⟨cellL hs19.bel tc, cellL hs19.bel xc0, cellL hs19.bel xc1, cellL hs19.bel sc0, cellL hs19.bel sc1, cellL hs19.bel sc2, cellL hs19.bel qd, cellL hs19.bel p0, cellL hs19.bel p1⟩, ?_⟩
        (repeat (first | (apply t4_skip rfl (by rfl); try simp only [Act.put, List.setIfInBounds_toArray, List.set_cons_zero, List.set_cons_succ]) | (apply t4_float rfl (by rfl); (· (intro w' hS; go_simp <;> with_reducible rfl)); (try simp only [Act.put, List.setIfInBounds_toArray, List.set_cons_zero, List.set_cons_succ]))))
        have tc_ := cellL hs19.bel tc
        have xc0_ := cellL hs19.bel xc0
        have xc1_ := cellL hs19.bel xc1
        have sc0_ := cellL hs19.bel sc0
        have sc1_ := cellL hs19.bel sc1
        have sc2_ := cellL hs19.bel sc2
        have qd_ := cellL hs19.bel qd
        have p0_ := cellL hs19.bel p0
        have p1_ := cellL hs19.bel p1
        refine t4_nil (NoPanic.normal ?_)
        go_wp2_with fail
        go_upto_region 3 with fail
        refine wp_region_noPanic (wp_region_tree4 (fun w' => w'.cell? ⟨tb, 1, none⟩ = some (.slice at0 rs.length ct0) ∧ w'.cell? ⟨xb, 0, none⟩ = some (.int .i64 vars) ∧ w'.cell? ⟨xb, 1, none⟩ = some (.slice (some ⟨b, o, none⟩) cs.length cx) ∧ w'.cell? ⟨sb, so, none⟩ = some (.int .i64 (vn : Int)) ∧ w'.cell? ⟨sb, so + 1, none⟩ = some (.int .i64 aa) ∧ w'.cell? ⟨sb, so + 2, none⟩ = some (.int .i64 (k : Int)) ∧ w'.cell? ⟨b3, o3 + vn, none⟩ = some (.slice a3 D.length c3) ∧ w'.cell? ⟨b, o + k * 2, none⟩ = some (.int .i64 nr) ∧ w'.cell? ⟨b, o + k * 2 + 1, none⟩ = some (.slice a1 sc.length c1)) (.float 0 (.float 1 (.float 2 (.float 3 (.float 4 (.float 5 (.float 6 (.float 7 (.float 8 (.float 9 .nil)))))))))) (by kernel_rfl) (by kernel_rfl) (by kernel_rfl) rfl ?_ (fun _ _ _ _ _ h => h) ?_)
        · exact ⟨cellL (hs19.drew).bel tc, cellL (hs19.drew).bel xc0, cellL (hs19.drew).bel xc1, cellL (hs19.drew).bel sc0, cellL (hs19.drew).bel sc1, cellL (hs19.drew).bel sc2, cellL (hs19.drew).bel qd, cellL (hs19.drew).bel p0, cellL (hs19.drew).bel p1⟩
        have hs20 := hs19.drew
        clear tc_ xc0_ xc1_ sc0_ sc1_ sc2_ qd_ p0_ p1_
        have hz_wd21 : w18.heap.size ≤ (w18.drew).heap.size := by simp
        generalize hgen_wd21 : w18.drew = wd21 at *
        have HG_wd21 := Lib.hid hgen_wd21
        clear hgen_wd21
        (repeat (first | (apply t4_skip rfl (by rfl); try simp only [Act.put, List.setIfInBounds_toArray, List.set_cons_zero, List.set_cons_succ]) | (apply t4_float rfl (by rfl); (· (intro w' hS; go_simp <;> with_reducible rfl)); (try simp only [Act.put, List.setIfInBounds_toArray, List.set_cons_zero, List.set_cons_succ]))))
        have tc_ := cellL hs20.bel tc
        have xc0_ := cellL hs20.bel xc0
        have xc1_ := cellL hs20.bel xc1
        have sc0_ := cellL hs20.bel sc0
        have sc1_ := cellL hs20.bel sc1
        have sc2_ := cellL hs20.bel sc2
        have qd_ := cellL hs20.bel qd
        have p0_ := cellL hs20.bel p0
        have p1_ := cellL hs20.bel p1
        refine t4_nil (NoPanic.normal ?_)
        obtain ⟨wA, rfl⟩ : ∃ x, x = wd21 := ⟨_, rfl⟩
        have HBA := Lib.hid hs20.bel
        go_wp2_with fail
        go_loopw [10] (fun i wl => ∃ p : Nat, p ≤ sc.length ∧ i = .int .i64 p ∧ Hid (Below wA.heap.size wA wl) ∧ Hid (∀ q, q < p → placeOk (rs.getD nr (0, [])).2 sc ds vn aa q = false)) (fun i _ => sc.length - (intOf i).toNat)
        case atStart => exact ⟨0, Nat.zero_le _, rfl, Below.refl _ _, fun i hi => absurd hi (Nat.not_lt_zero _)⟩
        case round =>
          obtain ⟨p, hp, rfl, hbl, hr⟩ := hrel
          have hs2 := (St.start w).step (HBA.out.trans (hbl.out.mono HBA.out.size))
          have tc_ := cellL hs2.bel tc
          have xc0_ := cellL hs2.bel xc0
          have xc1_ := cellL hs2.bel xc1
          have sc0_ := cellL hs2.bel sc0
          have sc1_ := cellL hs2.bel sc1
          have sc2_ := cellL hs2.bel sc2
          have qd_ := cellL hs2.bel qd
          have p0_ := cellL hs2.bel p0
          have p1_ := cellL hs2.bel p1
          have HB := hbl
          by_cases hlt : p < sc.length
          · have hpI : (p : Int) < sc.length := by omega
            obtain ⟨b5, o5, rfl, qk, _⟩ := rd_int_at (Rd.mono HSC.out hs2.bel) p hlt
            have HPO := Lib.hid (show placeOk (rs.getD nr (0, [])).2 sc ds vn aa p = (decide (sc[p] = (vn : Int)) && !supB (rs.getD nr (0, [])).2 sc ds p aa) by
              unfold placeOk
              rw [show sc.getD p 0 = sc[p] by rw [List.getD, List.getElem?_eq_getElem hlt]; rfl])
            have HNX := Lib.hid (fun (h : placeOk (rs.getD nr (0, [])).2 sc ds vn aa p = false) => show ∀ q, q < p + 1 → placeOk (rs.getD nr (0, [])).2 sc ds vn aa q = false from fun q hq => by
              rcases Nat.lt_or_ge q p with h1 | h1
              · exact hr.out q h1
              · obtain rfl : q = p := by omega
                exact h)
            have HSV2 := Lib.hid (show ∀ v, v ∈ sc → 0 ≤ v ∧ v < (ds.length : Int) from fun v hv => by have h1 := HSV.out v hv; have h2 := HDL.out; omega)
            generalize sc[p] = SP at *
            by_cases h6 : SP = (vn : Int)
            · subst h6
              have HPO2 := Lib.hid (show placeOk (rs.getD nr (0, [])).2 sc ds vn aa p = !supB (rs.getD nr (0, [])).2 sc ds p aa by rw [HPO.out, decide_eq_true rfl, Bool.true_and])
              cases hsup : supB (rs.getD nr (0, [])).2 sc ds p aa with
              | true =>
                have H9 := Lib.hid (HNX.out (by rw [HPO2.out, hsup]; rfl))
                have HS9 := Lib.hid hsup
                clear hsup
                go_upto_region 7 with fail
                refine wp_region_noPanic (wp_region_tree4 (fun w' => w'.cell? ⟨tb, 1, none⟩ = some (.slice at0 rs.length ct0) ∧ w'.cell? ⟨xb, 0, none⟩ = some (.int .i64 vars) ∧ w'.cell? ⟨xb, 1, none⟩ = some (.slice (some ⟨b, o, none⟩) cs.length cx) ∧ w'.cell? ⟨sb, so, none⟩ = some (.int .i64 (vn : Int)) ∧ w'.cell? ⟨sb, so + 1, none⟩ = some (.int .i64 aa) ∧ w'.cell? ⟨sb, so + 2, none⟩ = some (.int .i64 (k : Int)) ∧ w'.cell? ⟨b3, o3 + vn, none⟩ = some (.slice a3 D.length c3) ∧ w'.cell? ⟨b, o + k * 2, none⟩ = some (.int .i64 nr) ∧ w'.cell? ⟨b, o + k * 2 + 1, none⟩ = some (.slice (some ⟨b5, o5, none⟩) sc.length c1) ∧ w'.cell? ⟨b5, o5 + p, none⟩ = some (.int .i64 (vn : Int))) (.float 0 (.float 1 (.float 2 (.float 3 (.float 4 (.float 5 (.float 6 (.float 7 (.float 8 (.float 9 (.float 10 (.float 11 (.float 12 (.float 13 (.float 14 (.float 15 (.float 16 (.float 17 (.float 18 (.float 19 (.float 20 (.hard 21 (.float 22 (.float 23 .nil)))))))))))))))))))))))) (by kernel_rfl) (by kernel_rfl) (by kernel_rfl) rfl ?_ (fun _ _ _ _ _ h => h) ?_)
                · exact ⟨cellL (hs2.drew).bel tc, cellL (hs2.drew).bel xc0, cellL (hs2.drew).bel xc1, cellL (hs2.drew).bel sc0, cellL (hs2.drew).bel sc1, cellL (hs2.drew).bel sc2, cellL (hs2.drew).bel qd, cellL (hs2.drew).bel p0, cellL (hs2.drew).bel p1, cellL (belowD _) qk⟩
                have hs22 := hs2.drew
                have qk_23 := cellL (belowD _) qk
                clear qk
                have HB_24 := Lib.hid (HB.out.trans (((belowD _)).mono HB.out.size))
                clear HB
                clear tc_ xc0_ xc1_ sc0_ sc1_ sc2_ qd_ p0_ p1_
                have hz_wd25 : wr.heap.size ≤ (wr.drew).heap.size := by simp
                generalize hgen_wd25 : wr.drew = wd25 at *
                have HG_wd25 := Lib.hid hgen_wd25
                clear hgen_wd25
                (repeat (first | (apply t4_skip rfl (by rfl); try simp only [Act.put, List.setIfInBounds_toArray, List.set_cons_zero, List.set_cons_succ]) | (apply t4_float rfl (by rfl); (· (intro w' hS; go_simp <;> with_reducible rfl)); (try simp only [Act.put, List.setIfInBounds_toArray, List.set_cons_zero, List.set_cons_succ]))))
                refine t4_hard rfl (by rfl) (fun K hK => ?_)
                go_wp2_with (go_at_call 153; refine (l05Support_c rs sc ds p aa nr tb b (o + k * 2) _ _ _ _ (Rd.mono HR.out hs22.bel) (Rd.mono HSC.out hs22.bel) (Rd.mono HD.out hs22.bel) (cellL hs22.bel tc) (cellL hs22.bel p0) (cellL hs22.bel p1) HNR.out hlt HYL.out HSV2.out).mono ?_; rintro e w26 ⟨rfl, hbw26⟩)
                have hz_w26 : wd25.heap.size ≤ w26.heap.size := by have h9 := hbw26.size; (try simp at h9); omega
                have hs27 := hs22.step hbw26
                have qk_28 := cellL hbw26 qk_23
                clear qk_23
                have HB_29 := Lib.hid (HB_24.out.trans ((hbw26).mono HB_24.out.size))
                clear HB_24
                first | rw [HS9.out] | (have h9 := HS9.out; simp only [List.getD_eq_getElem?_getD] at h9; rw [h9])
                refine ⟨⟨cellL hs27.bel tc, cellL hs27.bel xc0, cellL hs27.bel xc1, cellL hs27.bel sc0, cellL hs27.bel sc1, cellL hs27.bel sc2, cellL hs27.bel qd, cellL hs27.bel p0, cellL hs27.bel p1, qk_28⟩, ?_⟩
                (repeat (first | (apply t4_skip rfl (by rfl); try simp only [Act.put, List.setIfInBounds_toArray, List.set_cons_zero, List.set_cons_succ]) | (apply t4_float rfl (by rfl); (· (intro w' hS; go_simp <;> with_reducible rfl)); (try simp only [Act.put, List.setIfInBounds_toArray, List.set_cons_zero, List.set_cons_succ]))))
                have tc_ := cellL hs27.bel tc
                have xc0_ := cellL hs27.bel xc0
                have xc1_ := cellL hs27.bel xc1
                have sc0_ := cellL hs27.bel sc0
                have sc1_ := cellL hs27.bel sc1
                have sc2_ := cellL hs27.bel sc2
                have qd_ := cellL hs27.bel qd
                have p0_ := cellL hs27.bel p0
                have p1_ := cellL hs27.bel p1
                refine t4_nil (NoPanic.normal ?_)
                go_wp2_with fail
                go_roundw
                case rel => exact ⟨p + 1, by omega, by go_num, HB_29.out, H9.out⟩
                case measure => simp [intOf]; omega
              | false =>
                have H9 := Lib.hid (show stepOk (size, rs) (vars, cs) ds ((vn : Int), aa, (k : Int)) = true by rw [HST.out]; exact any_has hlt (by rw [HPO2.out, hsup]; rfl))
                have HS9 := Lib.hid hsup
                clear hsup
                go_upto_region 7 with fail
                refine wp_region_noPanic (wp_region_tree4 (fun w' => w'.cell? ⟨tb, 1, none⟩ = some (.slice at0 rs.length ct0) ∧ w'.cell? ⟨xb, 0, none⟩ = some (.int .i64 vars) ∧ w'.cell? ⟨xb, 1, none⟩ = some (.slice (some ⟨b, o, none⟩) cs.length cx) ∧ w'.cell? ⟨sb, so, none⟩ = some (.int .i64 (vn : Int)) ∧ w'.cell? ⟨sb, so + 1, none⟩ = some (.int .i64 aa) ∧ w'.cell? ⟨sb, so + 2, none⟩ = some (.int .i64 (k : Int)) ∧ w'.cell? ⟨b3, o3 + vn, none⟩ = some (.slice a3 D.length c3) ∧ w'.cell? ⟨b, o + k * 2, none⟩ = some (.int .i64 nr) ∧ w'.cell? ⟨b, o + k * 2 + 1, none⟩ = some (.slice (some ⟨b5, o5, none⟩) sc.length c1) ∧ w'.cell? ⟨b5, o5 + p, none⟩ = some (.int .i64 (vn : Int))) (.float 0 (.float 1 (.float 2 (.float 3 (.float 4 (.float 5 (.float 6 (.float 7 (.float 8 (.float 9 (.float 10 (.float 11 (.float 12 (.float 13 (.float 14 (.float 15 (.float 16 (.float 17 (.float 18 (.float 19 (.float 20 (.hard 21 (.float 22 (.float 23 .nil)))))))))))))))))))))))) (by kernel_rfl) (by kernel_rfl) (by kernel_rfl) rfl ?_ (fun _ _ _ _ _ h => h) ?_)
                · exact ⟨cellL (hs2.drew).bel tc, cellL (hs2.drew).bel xc0, cellL (hs2.drew).bel xc1, cellL (hs2.drew).bel sc0, cellL (hs2.drew).bel sc1, cellL (hs2.drew).bel sc2, cellL (hs2.drew).bel qd, cellL (hs2.drew).bel p0, cellL (hs2.drew).bel p1, cellL (belowD _) qk⟩
                have hs30 := hs2.drew
                have qk_31 := cellL (belowD _) qk
                clear qk
                have HB_32 := Lib.hid (HB.out.trans (((belowD _)).mono HB.out.size))
                clear HB
                clear tc_ xc0_ xc1_ sc0_ sc1_ sc2_ qd_ p0_ p1_
                have hz_wd33 : wr.heap.size ≤ (wr.drew).heap.size := by simp
                generalize hgen_wd33 : wr.drew = wd33 at *
                have HG_wd33 := Lib.hid hgen_wd33
                clear hgen_wd33
                (repeat (first | (apply t4_skip rfl (by rfl); try simp only [Act.put, List.setIfInBounds_toArray, List.set_cons_zero, List.set_cons_succ]) | (apply t4_float rfl (by rfl); (· (intro w' hS; go_simp <;> with_reducible rfl)); (try simp only [Act.put, List.setIfInBounds_toArray, List.set_cons_zero, List.set_cons_succ]))))
                refine t4_hard rfl (by rfl) (fun K hK => ?_)
                go_wp2_with (go_at_call 153; refine (l05Support_c rs sc ds p aa nr tb b (o + k * 2) _ _ _ _ (Rd.mono HR.out hs30.bel) (Rd.mono HSC.out hs30.bel) (Rd.mono HD.out hs30.bel) (cellL hs30.bel tc) (cellL hs30.bel p0) (cellL hs30.bel p1) HNR.out hlt HYL.out HSV2.out).mono ?_; rintro e w34 ⟨rfl, hbw34⟩)
                have hz_w34 : wd33.heap.size ≤ w34.heap.size := by have h9 := hbw34.size; (try simp at h9); omega
                have hs35 := hs30.step hbw34
                have qk_36 := cellL hbw34 qk_31
                clear qk_31
                have HB_37 := Lib.hid (HB_32.out.trans ((hbw34).mono HB_32.out.size))
                clear HB_32
                first | rw [HS9.out] | (have h9 := HS9.out; simp only [List.getD_eq_getElem?_getD] at h9; rw [h9])
                refine ⟨⟨cellL hs35.bel tc, cellL hs35.bel xc0, cellL hs35.bel xc1, cellL hs35.bel sc0, cellL hs35.bel sc1, cellL hs35.bel sc2, cellL hs35.bel qd, cellL hs35.bel p0, cellL hs35.bel p1, qk_36⟩, ?_⟩
                (repeat (first | (apply t4_skip rfl (by rfl); try simp only [Act.put, List.setIfInBounds_toArray, List.set_cons_zero, List.set_cons_succ]) | (apply t4_float rfl (by rfl); (· (intro w' hS; go_simp <;> with_reducible rfl)); (try simp only [Act.put, List.setIfInBounds_toArray, List.set_cons_zero, List.set_cons_succ]))))
                have tc_ := cellL hs35.bel tc
                have xc0_ := cellL hs35.bel xc0
                have xc1_ := cellL hs35.bel xc1
                have sc0_ := cellL hs35.bel sc0
                have sc1_ := cellL hs35.bel sc1
                have sc2_ := cellL hs35.bel sc2
                have qd_ := cellL hs35.bel qd
                have p0_ := cellL hs35.bel p0
                have p1_ := cellL hs35.bel p1
                refine t4_nil (NoPanic.normal ?_)
                go_wp2_with fail
                go_ret
                exact ⟨ret_bool H9.out.symm, hs35.bel⟩
            · have h6b : (SP == (vn : Int)) = false := by rw [beq_eq_false_iff_ne]; exact h6
              have H9 := Lib.hid (HNX.out (by rw [HPO.out, decide_eq_false h6]; rfl))
              have H6 := Lib.hid h6
              clear h6
              go_upto_region 7 with fail
              refine wp_region_noPanic (wp_region_tree4 (fun w' => w'.cell? ⟨tb, 1, none⟩ = some (.slice at0 rs.length ct0) ∧ w'.cell? ⟨xb, 0, none⟩ = some (.int .i64 vars) ∧ w'.cell? ⟨xb, 1, none⟩ = some (.slice (some ⟨b, o, none⟩) cs.length cx) ∧ w'.cell? ⟨sb, so, none⟩ = some (.int .i64 (vn : Int)) ∧ w'.cell? ⟨sb, so + 1, none⟩ = some (.int .i64 aa) ∧ w'.cell? ⟨sb, so + 2, none⟩ = some (.int .i64 (k : Int)) ∧ w'.cell? ⟨b3, o3 + vn, none⟩ = some (.slice a3 D.length c3) ∧ w'.cell? ⟨b, o + k * 2, none⟩ = some (.int .i64 nr) ∧ w'.cell? ⟨b, o + k * 2 + 1, none⟩ = some (.slice (some ⟨b5, o5, none⟩) sc.length c1) ∧ w'.cell? ⟨b5, o5 + p, none⟩ = some (.int .i64 SP)) (.float 0 (.float 1 (.float 2 (.float 3 (.float 4 (.float 5 (.float 6 (.float 7 (.float 8 (.float 9 (.float 10 (.float 11 (.float 12 (.float 13 (.float 14 (.float 15 (.float 16 (.float 17 (.float 18 (.float 19 (.float 20 (.hard 21 (.float 22 (.float 23 .nil)))))))))))))))))))))))) (by kernel_rfl) (by kernel_rfl) (by kernel_rfl) rfl ?_ (fun _ _ _ _ _ h => h) ?_)
              · exact ⟨cellL (hs2.drew).bel tc, cellL (hs2.drew).bel xc0, cellL (hs2.drew).bel xc1, cellL (hs2.drew).bel sc0, cellL (hs2.drew).bel sc1, cellL (hs2.drew).bel sc2, cellL (hs2.drew).bel qd, cellL (hs2.drew).bel p0, cellL (hs2.drew).bel p1, cellL (belowD _) qk⟩
              have hs38 := hs2.drew
              have qk_39 := cellL (belowD _) qk
              clear qk
              have HB_40 := Lib.hid (HB.out.trans (((belowD _)).mono HB.out.size))
              clear HB
              clear tc_ xc0_ xc1_ sc0_ sc1_ sc2_ qd_ p0_ p1_
              have hz_wd41 : wr.heap.size ≤ (wr.drew).heap.size := by simp
              generalize hgen_wd41 : wr.drew = wd41 at *
              have HG_wd41 := Lib.hid hgen_wd41
              clear hgen_wd41
              (repeat (first | (apply t4_skip rfl (by rfl); try simp only [Act.put, List.setIfInBounds_toArray, List.set_cons_zero, List.set_cons_succ]) | (apply t4_float rfl (by rfl); (· (intro w' hS; go_simp <;> with_reducible rfl)); (try simp only [Act.put, List.setIfInBounds_toArray, List.set_cons_zero, List.set_cons_succ]))))
              refine t4_hskip rfl (by rfl) ?_ ?_
              · exact ⟨cellL hs38.bel tc, cellL hs38.bel xc0, cellL hs38.bel xc1, cellL hs38.bel sc0, cellL hs38.bel sc1, cellL hs38.bel sc2, cellL hs38.bel qd, cellL hs38.bel p0, cellL hs38.bel p1, qk_39⟩
              (try simp only [Act.put, List.setIfInBounds_toArray, List.set_cons_zero, List.set_cons_succ])
              (repeat (first | (apply t4_skip rfl (by rfl); try simp only [Act.put, List.setIfInBounds_toArray, List.set_cons_zero, List.set_cons_succ]) | (apply t4_float rfl (by rfl); (· (intro w' hS; go_simp <;> with_reducible rfl)); (try simp only [Act.put, List.setIfInBounds_toArray, List.set_cons_zero, List.set_cons_succ]))))
              have tc_ := cellL hs38.bel tc
              have xc0_ := cellL hs38.bel xc0
              have xc1_ := cellL hs38.bel xc1
              have sc0_ := cellL hs38.bel sc0
              have sc1_ := cellL hs38.bel sc1
              have sc2_ := cellL hs38.bel sc2
              have qd_ := cellL hs38.bel qd
              have p0_ := cellL hs38.bel p0
              have p1_ := cellL hs38.bel p1
              refine t4_nil (NoPanic.normal ?_)
              go_wp2_with fail
              go_roundw
              case rel => exact ⟨p + 1, by omega, by go_num, HB_40.out, H9.out⟩
              case measure => simp [intOf]; omega
          · obtain rfl : p = sc.length := by omega
            have hnl : ¬ ((sc.length : Int) < sc.length) := by omega
            have H9 := Lib.hid (show stepOk (size, rs) (vars, cs) ds ((vn : Int), aa, (k : Int)) = false by rw [HST.out]; exact any_not hr.out)
            have HBF := Lib.hid hs2.bel
            go_wp2_with fail
            go_ret
            exact ⟨ret_bool H9.out.symm, HBF.out⟩
set_option maxRecDepth 100000 in
set_option maxHeartbeats 8000000 in
theorem sReplayArcs_c (t : Tmpl) (t0 t1 : Value) (x : Inst) (x0 x1 : Value) (ds : List (List Int)) (vp : Value) (steps : List (Int × Int × Int)) (vs : Value) (w : World) (ht : Rd w [t0, t1] t) (hx : Rd w [x0, x1] x) (hp : Rd w [vp] ds) (hs : Rd w [vs] steps) (hz : ∀ d, d ∈ ds → d.length ≤ 1048576) (hzs : steps.length ≤ 1048576) :
    Calls Tryz.prog 41 #[.agg #[t0, t1], .agg #[x0, x1], vp, vs] w fun e w' => ∃ u0, e = .returned (.tuple #[u0, .int .i64 (replayF t x ds steps).2.1, .int .i64 (replayF t x ds steps).2.2]) ∧ Fresh w.heap.size w' [u0] (replayF t x ds steps).1 ∧ Below w.heap.size w w' := by
  obtain ⟨size, rs⟩ := t
  obtain ⟨vars, cs⟩ := x
  have HT := Lib.hid ht
  have HX := Lib.hid hx
  have HP := Lib.hid hp
  have HZ := Lib.hid hz
  have zt := rd_cons rfl ht
  obtain ⟨rfl, _⟩ := rd_i1 zt.1
  obtain ⟨at0, ct0, rfl, _⟩ := rd_list zt.2
  have zx := rd_cons rfl hx
  obtain ⟨rfl, _⟩ := rd_i1 zx.1
  obtain ⟨ax, cx, rfl, _⟩ := rd_list zx.2
  obtain ⟨a, c, rfl, _⟩ := rd_list hp
  obtain ⟨ast, cst, rfl, hsr⟩ := rd_list hs
  have HSR := Lib.hid hsr
  clear ht hx hp zt zx hz hs hsr
  have hs42 := (St.start w).alloc #[.int .i64 size, .slice at0 rs.length ct0] 36 (n := w.heap.size) (by simp)
  have k0_0 := hs42.cellAt 0 rfl 0 rfl
  have k0_1 := hs42.cellAt 0 rfl 1 rfl
  have hs43 := hs42.alloc #[.int .i64 vars, .slice ax cs.length cx] 40 (n := w.heap.size + 1) (by simp)
  clear k0_0 k0_1
  have k0_0 := hs43.cellAt 0 rfl 0 rfl
  have k0_1 := hs43.cellAt 0 rfl 1 rfl
  have k1_0 := hs43.cellAt 1 rfl 0 rfl
  have k1_1 := hs43.cellAt 1 rfl 1 rfl
  go_enter Tryz.func41, Tryz.ntmps41
  go_wp2_with fail
  refine (l05Both_c (size, rs) (vars, cs) ds _ _ _ _ _ _ _ _ (Rd.mono HT.out hs43.bel) (Rd.mono HX.out hs43.bel) (hs43.cellAt 0 rfl 0 rfl) (hs43.cellAt 0 rfl 1 rfl) (hs43.cellAt 1 rfl 0 rfl) (hs43.cellAt 1 rfl 1 rfl) (Rd.mono HP.out hs43.bel)).mono ?_
  rintro e w44 ⟨rfl, hbw44⟩
  have hz_w44 : w.heap.size + 1 + 1 ≤ w44.heap.size := by have h9 := hbw44.size; (try simp at h9); omega
  have hs45 := hs43.step hbw44
  clear k0_0 k0_1 k1_0 k1_1
  have k0_0 := hs45.cellAt 0 rfl 0 rfl
  have k0_1 := hs45.cellAt 0 rfl 1 rfl
  have k1_0 := hs45.cellAt 1 rfl 0 rfl
  have k1_1 := hs45.cellAt 1 rfl 1 rfl
  cases h1 : domsOk (size, rs) (vars, cs) ds with
  | false =>
    have H1 := Lib.hid (show replayF (size, rs) (vars, cs) ds steps = ([], 0, 1) by unfold replayF; rw [h1]; rfl)
    have HBN := Lib.hid (hs45.bel.trans ((belowA w44 (.cells #[] 56)).mono hs45.bel.size))
    clear h1
    go_wp2_with fail
    refine bodyPost_ret (v := .tuple #[.slice (some ⟨w44.heap.size, 0, none⟩) 0 0, .int .i64 0, .int .i64 1]) (by simp [results, Tryz.results41, go_sem]) rfl ⟨_, by rw [H1.out], by rw [H1.out]; exact fresh_none (Nat.zero_le _), HBN.out⟩
  | true =>
    have HF := Lib.hid (dom_facts h1)
    have H1 := Lib.hid (show replayF (size, rs) (vars, cs) ds steps = replayA (size, rs) (vars, cs) steps 0 ds by unfold replayF; rw [h1]; rfl)
    have hv1 := (instOk_get HF.out.inst).2.1
    have hdl := HF.out.len
    have hdt := HF.out.ten
    simp only at hv1 hdl
    clear h1
    go_wp2_with fail
    refine (l05Copies_c ds _ _ (Rd.mono HP.out hs45.bel) (by omega) HZ.out).mono ?_
    rintro e w46 ⟨v2, rfl, hac, hbw46⟩
    have hz_w46 : w44.heap.size ≤ w46.heap.size := by have h9 := hbw46.size; (try simp at h9); omega
    have hs47 := hs45.step hbw46
    clear k0_0 k0_1 k1_0 k1_1
    have k0_0 := hs47.cellAt 0 rfl 0 rfl
    have k0_1 := hs47.cellAt 0 rfl 1 rfl
    have k1_0 := hs47.cellAt 1 rfl 0 rfl
    have k1_1 := hs47.cellAt 1 rfl 1 rfl
    obtain ⟨g2, c2, rfl⟩ := accP_form hac (by omega)
    have HW := Lib.hid (show DomW w g2 c2 ds.length [(w.heap.size, #[.int .i64 size, .slice at0 rs.length ct0], 36), (w.heap.size + 1, #[.int .i64 vars, .slice ax cs.length cx], 40)] w46 ds from
      ⟨hs47.up hs47.hi (Nat.le_refl _), hac.ip.wk (fun z hz => by
        have h8 := hz.1
        (try simp at h8)
        refine ⟨by omega, fun x hx => ?_⟩
        simp at hx
        rcases hx with rfl | rfl <;> (simp only; omega))⟩)
    have HDO := Lib.hid (show DomOk ds.length ds from ⟨rfl, HZ.out⟩)
    have HDL := Lib.hid hdl
    clear hac hdl
    go_wp2_with fail
    go_loopw [12] (fun i wl => ∃ (k : Nat) (D : List (List Int)), k ≤ steps.length ∧ i = .int .i64 k ∧ Hid (DomW w g2 c2 ds.length [(w.heap.size, #[.int .i64 size, .slice at0 rs.length ct0], 36), (w.heap.size + 1, #[.int .i64 vars, .slice ax cs.length cx], 40)] wl D) ∧ Hid (DomOk ds.length D) ∧ Hid (replayA (size, rs) (vars, cs) steps 0 ds = replayA (size, rs) (vars, cs) (steps.drop k) k D)) (fun i _ => steps.length - (intOf i).toNat)
    case atStart => exact ⟨0, ds, Nat.zero_le _, rfl, HW.out, HDO.out, rfl⟩
    case round =>
      clear HW HDO
      obtain ⟨k, D, hk, rfl, hw, hdo, hrun⟩ := hrel
      have hs1 := hw.out.st
      have k0_0 := hs1.cellAt 0 rfl 0 rfl
      have k0_1 := hs1.cellAt 0 rfl 1 rfl
      have k1_0 := hs1.cellAt 1 rfl 0 rfl
      have k1_1 := hs1.cellAt 1 rfl 1 rfl
      by_cases hlt : k < steps.length
      · have hkl : (k : Int) < steps.length := by omega
        obtain ⟨b, o, u0, u1, u2, rfl, p0, p1, p2, hy⟩ := rdSl_three rfl HSR.out k hlt
        have HDR := Lib.hid (replayA_drop (t := (size, rs)) (x := (vars, cs)) hlt k D)
        have hy0 := rd_cons rfl hy
        have hy1 := rd_cons rfl hy0.2
        obtain ⟨rfl, _⟩ := rd_i1 hy0.1
        obtain ⟨rfl, _⟩ := rd_i1 hy1.1
        obtain ⟨rfl, _⟩ := rd_i1 hy1.2
        clear hy hy0 hy1
        generalize hss : steps[k] = SS at *
        obtain ⟨va, aa, ka⟩ := SS
        simp only at p0 p1 p2
        have HSS := Lib.hid hss
        clear hss
        have hlr := hdo.out.len
        clear k0_0 k0_1 k1_0 k1_1
        have k0_0 := hs1.cellAt 0 rfl 0 rfl
        have k0_1 := hs1.cellAt 0 rfl 1 rfl
        have k1_0 := hs1.cellAt 1 rfl 0 rfl
        have k1_1 := hs1.cellAt 1 rfl 1 rfl
        have p0_ := cellL hs1.bel p0
        clear k0_0 k0_1 k1_0 k1_1 p0_
        have k0_0 := hs1.cellAt 0 rfl 0 rfl
        have k0_1 := hs1.cellAt 0 rfl 1 rfl
        have k1_0 := hs1.cellAt 1 rfl 0 rfl
        have k1_1 := hs1.cellAt 1 rfl 1 rfl
        have p0_ := cellL hs1.bel p0
        have p1_ := cellL hs1.bel p1
        clear k0_0 k0_1 k1_0 k1_1 p0_ p1_
        have k0_0 := hs1.cellAt 0 rfl 0 rfl
        have k0_1 := hs1.cellAt 0 rfl 1 rfl
        have k1_0 := hs1.cellAt 1 rfl 0 rfl
        have k1_1 := hs1.cellAt 1 rfl 1 rfl
        have p0_ := cellL hs1.bel p0
        have p1_ := cellL hs1.bel p1
        have p2_ := cellL hs1.bel p2
        clear k0_0 k0_1 k1_0 k1_1 p0_ p1_ p2_
        have k0_0 := hs1.cellAt 0 rfl 0 rfl
        have k0_1 := hs1.cellAt 0 rfl 1 rfl
        have k1_0 := hs1.cellAt 1 rfl 0 rfl
        have k1_1 := hs1.cellAt 1 rfl 1 rfl
        have p0_ := cellL hs1.bel p0
        have p1_ := cellL hs1.bel p1
        have p2_ := cellL hs1.bel p2
        go_wp2_with fail
        refine (l05Right_c (size, rs) (vars, cs) D va aa ka w.heap.size (w.heap.size + 1) b (o + k * 3) _ _ _ _ _ _ (Rd.mono HT.out hs1.bel) (Rd.mono HX.out hs1.bel) hw.out.rd HF.out.inst (by rw [hlr]; exact HDL.out) (hs1.cellAt 0 rfl 1 rfl) (hs1.cellAt 1 rfl 0 rfl) (hs1.cellAt 1 rfl 1 rfl) (cellL hs1.bel p0) (cellL hs1.bel p1) (cellL hs1.bel p2)).mono ?_
        rintro e w5 ⟨rfl, hb5⟩
        have HW5 := Lib.hid (hw.out.step hb5)
        cases hso : stepOk (size, rs) (vars, cs) D (va, aa, ka) with
        | false =>
          have H2 := Lib.hid (show replayF (size, rs) (vars, cs) ds steps = ([], (k : Int), 8) by rw [H1.out, hrun.out, HDR.out, hso]; rfl)
          have HBF := Lib.hid (HW5.out.bel.trans ((belowA w5 (.cells #[] 56)).mono HW5.out.bel.size))
          clear hso hb5
          go_wp2_with fail
          refine bodyPost_ret (v := .tuple #[.slice (some ⟨w5.heap.size, 0, none⟩) 0 0, .int .i64 k, .int .i64 8]) (by simp [results, Tryz.results41, go_sem]) rfl ⟨_, by rw [H2.out], by rw [H2.out]; exact fresh_none (Nat.zero_le _), HBF.out⟩
        | true =>
          obtain ⟨hva, hha⟩ := stepOk_get hso
          simp only at hva
          obtain ⟨vn, rfl⟩ : ∃ vn : Nat, va = (vn : Int) := ⟨va.toNat, by omega⟩
          rw [Int.toNat_natCast] at hha
          have hvn : vn < D.length := by have := HDL.out; omega
          have hvnI : (vn : Int) < ds.length := by omega
          have hvnD : vn < ds.length := by omega
          have HGD := Lib.hid (show D.getD vn [] = D[vn] by rw [List.getD, List.getElem?_eq_getElem hvn]; rfl)
          have HNX := Lib.hid (show replayA (size, rs) (vars, cs) steps 0 ds = replayA (size, rs) (vars, cs) (steps.drop (k + 1)) (k + 1) (D.set vn (D[vn].filter (fun x => x != aa))) by
            rw [hrun.out, HDR.out, hso, ← HGD.out]; rfl)
          have HDN2 := Lib.hid (show DomOk ds.length (D.set vn (D[vn].filter (fun x => x != aa))) by
            rw [← HGD.out]
            exact cutD_ok (s := ((vn : Int), aa, ka)) hdo.out hvn)
          have hsm := hdo.out.small _ (List.getElem_mem hvn)
          rw [HGD.out] at hha
          have hpos := hasI_pos hha
          have hs5 := HW5.out.st
          obtain ⟨aE, cE, eE, hdE⟩ := rd_list HW5.out.rd
          simp only [Value.slice.injEq, Option.some.injEq] at eE
          obtain ⟨rfl, hVl5, rfl⟩ := eE
          obtain ⟨b6, o6, vd6, e6, qd6, hdn6⟩ := rdSl_one rfl hdE vn hvn
          simp only [Option.some.injEq, Addr.mk.injEq, and_true] at e6
          obtain ⟨rfl, rfl⟩ := e6
          obtain ⟨a7, c7, rfl, _⟩ := rd_list hdn6
          have HDN6 := Lib.hid hdn6
          have HPOS := Lib.hid hpos
          have HSM := Lib.hid hsm
          have HVN := Lib.hid hvn
          have HB5 := Lib.hid (show Below w5.heap.size w5 w5 from Below.refl _ _)
          clear hVl5 hdE hdn6 hso hha hpos hsm hlr
          generalize D[vn] = D6 at *
          rw [Nat.zero_add] at qd6
          go_upto_region 9 with fail
          refine wp_region_noPanic (wp_region_tree4 (fun w' => w'.cell? ⟨w.heap.size, 0, none⟩ = some (.int .i64 size) ∧ w'.cell? ⟨w.heap.size, 1, none⟩ = some (.slice at0 rs.length ct0) ∧ w'.cell? ⟨w.heap.size + 1, 0, none⟩ = some (.int .i64 vars) ∧ w'.cell? ⟨w.heap.size + 1, 1, none⟩ = some (.slice ax cs.length cx) ∧ w'.cell? ⟨b, o + k * 3, none⟩ = some (.int .i64 (vn : Int)) ∧ w'.cell? ⟨b, o + k * 3 + 1, none⟩ = some (.int .i64 aa) ∧ w'.cell? ⟨b, o + k * 3 + 2, none⟩ = some (.int .i64 ka) ∧ w'.cell? ⟨g2, vn, none⟩ = some (.slice a7 D6.length c7)) (.float 0 (.float 1 (.float 2 (.float 3 (.float 4 (.float 5 (.float 6 (.float 7 (.float 8 (.float 9 (.float 10 (.float 11 (.float 12 (.float 13 (.float 14 (.float 15 (.float 16 (.float 17 (.float 18 (.hard 19 (.float 20 (.last 21 .nil)))))))))))))))))))))) (by kernel_rfl) (by kernel_rfl) (by kernel_rfl) rfl ?_ (fun _ _ _ _ _ h => h) ?_)
          · exact ⟨(hs5.drew).cellAt 0 rfl 0 rfl, (hs5.drew).cellAt 0 rfl 1 rfl, (hs5.drew).cellAt 1 rfl 0 rfl, (hs5.drew).cellAt 1 rfl 1 rfl, cellL (hs5.drew).bel p0, cellL (hs5.drew).bel p1, cellL (hs5.drew).bel p2, cellL (belowD _) qd6⟩
          have hs48 := hs5.drew
          have qd6_49 := cellL (belowD _) qd6
          clear qd6
          have HB5_50 := Lib.hid (HB5.out.trans (((belowD _)).mono HB5.out.size))
          clear HB5
          have hz_wd51 : w5.heap.size ≤ (w5.drew).heap.size := by simp
          generalize hgen_wd51 : w5.drew = wd51 at *
          have HG_wd51 := Lib.hid hgen_wd51
          clear hgen_wd51
          (repeat (first | (apply t4_skip rfl (by rfl); try simp only [Act.put, List.setIfInBounds_toArray, List.set_cons_zero, List.set_cons_succ]) | (apply t4_float rfl (by rfl); (· (intro w' hS; go_simp <;> with_reducible rfl)); (try simp only [Act.put, List.setIfInBounds_toArray, List.set_cons_zero, List.set_cons_succ]))))
          refine t4_hard rfl (by rfl) (fun K hK => ?_)
          go_wp2_with (go_at_call 95; refine (l05Without_c D6 _ aa _ (Rd.mono HDN6.out HB5_50.out) HSM.out).mono ?_; rintro e w52 ⟨v6, rfl, hA6, hbw52⟩)
          have hz_w52 : wd51.heap.size ≤ w52.heap.size := by have h9 := hbw52.size; (try simp at h9); omega
          have hs53 := hs48.step hbw52
          have qd6_54 := cellL hbw52 qd6_49
          clear qd6_49
          have HB5_55 := Lib.hid (HB5_50.out.trans ((hbw52).mono HB5_50.out.size))
          clear HB5_50
          obtain ⟨a8, c8, rfl, _⟩ := hA6.len
          have HF6 := Lib.hid hA6.fresh
          clear hA6
          refine ⟨⟨hs53.cellAt 0 rfl 0 rfl, hs53.cellAt 0 rfl 1 rfl, hs53.cellAt 1 rfl 0 rfl, hs53.cellAt 1 rfl 1 rfl, cellL hs53.bel p0, cellL hs53.bel p1, cellL hs53.bel p2, qd6_54⟩, ?_⟩
          (repeat (first | (apply t4_skip rfl (by rfl); try simp only [Act.put, List.setIfInBounds_toArray, List.set_cons_zero, List.set_cons_succ]) | (apply t4_float rfl (by rfl); (· (intro w' hS; go_simp <;> with_reducible rfl)); (try simp only [Act.put, List.setIfInBounds_toArray, List.set_cons_zero, List.set_cons_succ]))))
          refine t4_last rfl (by rfl) (fun K hK => ?_)
          have k0_0 := hs53.cellAt 0 rfl 0 rfl
          have k0_1 := hs53.cellAt 0 rfl 1 rfl
          have k1_0 := hs53.cellAt 1 rfl 0 rfl
          have k1_1 := hs53.cellAt 1 rfl 1 rfl
          have p0_ := cellL hs53.bel p0
          have p1_ := cellL hs53.bel p1
          have p2_ := cellL hs53.bel p2
          have HP := Lib.hid (HW5.out.put HB5_55.out (v := vn) HVN.out (Fresh.lower HF6.out (by omega)))
          have f6 := (HW5.out.step HB5_55.out).free (by have := HVN.out; omega) vn
          go_wp2_with fail
          refine t4_nil (NoPanic.normal ?_)
          go_wp2_with fail
          go_roundw
          case rel => exact ⟨k + 1, _, by omega, by go_num, HP.out, HDN2.out, HNX.out⟩
          case measure => simp [intOf]; omega
      · obtain rfl : k = steps.length := by omega
        have hnl : ¬ ((steps.length : Int) < steps.length) := by omega
        have H2 := Lib.hid (show replayF (size, rs) (vars, cs) ds steps = (D, 0, 0) by rw [H1.out, hrun.out, List.drop_length]; rfl)
        have HFR := Lib.hid (show Fresh w.heap.size wr [.slice (some ⟨g2, 0, none⟩) ds.length c2] D from hw.out.dom.fresh (fun z hz => hz.1))
        have HBF := Lib.hid hw.out.bel
        go_wp2_with fail
        refine bodyPost_ret (v := .tuple #[.slice (some ⟨g2, 0, none⟩) ds.length c2, .int .i64 0, .int .i64 0]) (by simp [results, Tryz.results41, go_sem]) rfl ⟨_, by rw [H2.out], by rw [H2.out]; exact HFR.out, HBF.out⟩

end Go.Proofs.YtjkjfjpajmjglaaGreat
