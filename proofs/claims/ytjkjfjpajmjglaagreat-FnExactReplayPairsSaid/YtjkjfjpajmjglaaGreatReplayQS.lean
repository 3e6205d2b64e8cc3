/-
  CONTRACT: pair steps told again: the reference's side.
-/
import Derived.Test.YtjkjfjpajmjglaaGreatReplayQ
import Derived.Test.YtjkjfjpajmjglaaGreatThrough
import Derived.Test.YtjkjfjpajmjglaaGreatFirstS
namespace Go.Proofs.YtjkjfjpajmjglaaGreat
open Go.RowKit Go.Shelf Go.IntWalk
open Rep (Rd Own sz)
set_option linter.unusedSimpArgs false
set_option linter.unusedVariables false

set_option maxRecDepth 100000 in
set_option maxHeartbeats 16000000 in
theorem fresh_noneQ {α : Type} [Rep α] {H : Nat} {w : World} {a : Option Addr} {c : Nat} (hc : c ≤ maxLen) : Fresh H w [.slice a 0 c] ([] : List α) := by
  exact ⟨[], ⟨_, rfl, .inl ⟨rfl, rfl, a, c, rfl, hc⟩⟩, by simp, by simp⟩
set_option maxRecDepth 100000 in
set_option maxHeartbeats 16000000 in
theorem sReplayPairs_c (t : Tmpl) (t0 t1 : Value) (x : Inst) (x0 x1 : Value) (steps : List (Int × Int × Int)) (vs : Value) (w : World) (ht : Rd w [t0, t1] t) (hx : Rd w [x0, x1] x) (hs : Rd w [vs] steps) (hzs : steps.length ≤ 1048576) :
    Calls Tryz.prog 13 #[.agg #[t0, t1], .agg #[x0, x1], vs] w fun e w' => ∃ u0, e = .returned (.tuple #[u0, .int .i64 (replayPF t x steps).2.1, .int .i64 (replayPF t x steps).2.2]) ∧ Fresh w.heap.size w' [u0] (replayPF t x steps).1 ∧ Below w.heap.size w w' := by
  obtain ⟨size, rs⟩ := t
  obtain ⟨vars, cs⟩ := x
  have HT := Lib.hid ht
  have HX := Lib.hid hx
  have zt := rd_cons rfl ht
  obtain ⟨rfl, _⟩ := rd_i1 zt.1
  obtain ⟨at0, ct0, rfl, _⟩ := rd_list zt.2
  have zx := rd_cons rfl hx
  obtain ⟨rfl, _⟩ := rd_i1 zx.1
  obtain ⟨ax, cx, rfl, _⟩ := rd_list zx.2
  obtain ⟨ast, cst, rfl, hsr⟩ := rd_list hs
  have HSR := Lib.hid hsr
  clear ht hx zt zx hs hsr
  have hs1 := (St.start w).alloc #[.int .i64 size, .slice at0 rs.length ct0] 36 (n := w.heap.size) (by simp)
  have k0_0 := hs1.cellAt 0 rfl 0 rfl
  have k0_1 := hs1.cellAt 0 rfl 1 rfl
  have hs2 := hs1.alloc #[.int .i64 vars, .slice ax cs.length cx] 40 (n := w.heap.size + 1) (by simp)
  clear k0_0 k0_1
  have k0_0 := hs2.cellAt 0 rfl 0 rfl
  have k0_1 := hs2.cellAt 0 rfl 1 rfl
  have k1_0 := hs2.cellAt 1 rfl 0 rfl
  have k1_1 := hs2.cellAt 1 rfl 1 rfl
  go_enter Tryz.func13, Tryz.ntmps13
  go_wp2_with fail
  refine (l05Ok_c (size, rs) (vars, cs) _ _ _ _ _ _ _ (Rd.mono HT.out hs2.bel) (Rd.mono HX.out hs2.bel) (hs2.cellAt 0 rfl 0 rfl) (hs2.cellAt 0 rfl 1 rfl) (hs2.cellAt 1 rfl 0 rfl) (hs2.cellAt 1 rfl 1 rfl)).mono ?_
  rintro e w3 ⟨rfl, hbw3⟩
  have hz_w3 : w.heap.size + 1 + 1 ≤ w3.heap.size := by have h9 := hbw3.size; (try simp at h9); omega
  have hs4 := hs2.step hbw3
  clear k0_0 k0_1 k1_0 k1_1
  have k0_0 := hs4.cellAt 0 rfl 0 rfl
  have k0_1 := hs4.cellAt 0 rfl 1 rfl
  have k1_0 := hs4.cellAt 1 rfl 0 rfl
  have k1_1 := hs4.cellAt 1 rfl 1 rfl
  cases h1 : instOk (size, rs) (vars, cs) with
  | false =>
    have H1 := Lib.hid (show replayPF (size, rs) (vars, cs) steps = ([], 0, 1) by unfold replayPF; rw [h1]; rfl)
    have HBN := Lib.hid (hs4.bel.trans ((belowA w3 (.cells #[] 116)).mono hs4.bel.size))
    clear h1
    go_wp2_with fail
    refine bodyPost_ret (v := .tuple #[.slice (some ⟨w3.heap.size, 0, none⟩) 0 0, .int .i64 0, .int .i64 1]) (by simp [results, Tryz.results13, go_sem]) rfl ⟨_, by rw [H1.out], by rw [H1.out]; exact fresh_noneQ (Nat.zero_le _), HBN.out⟩
  | true =>
    have hv1 := (instOk_get h1).2.1
    have hsz := (tmplOk_get (instOk_get h1).1).1
    simp only at hv1 hsz
    obtain ⟨V, rfl⟩ : ∃ V : Nat, vars = (V : Int) := ⟨vars.toNat, by omega⟩
    have H1 := Lib.hid (show replayPF (size, rs) ((V : Int), cs) steps = replayP size V steps 0 (fstP (size, rs) ((V : Int), cs) V) by unfold replayPF; rw [h1]; rfl)
    have HPK := Lib.hid (fst_ok (t := (size, rs)) (x := ((V : Int), cs)) V)
    have HOK := Lib.hid h1
    clear h1
    go_wp2_with fail
    refine (l05First_c (size, rs) ((V : Int), cs) V _ _ _ _ _ _ _ (Rd.mono HT.out hs4.bel) (Rd.mono HX.out hs4.bel) HOK.out rfl (hs4.cellAt 0 rfl 0 rfl) (hs4.cellAt 0 rfl 1 rfl) (hs4.cellAt 1 rfl 0 rfl) (hs4.cellAt 1 rfl 1 rfl)).mono ?_
    rintro e w5 ⟨vp, rfl, fr, hbw5⟩
    have hz_w5 : w3.heap.size ≤ w5.heap.size := by have h9 := hbw5.size; (try simp at h9); omega
    have hs6 := hs4.step hbw5
    clear k0_0 k0_1 k1_0 k1_1
    have k0_0 := hs6.cellAt 0 rfl 0 rfl
    have k0_1 := hs6.cellAt 0 rfl 1 rfl
    have k1_0 := hs6.cellAt 1 rfl 0 rfl
    have k1_1 := hs6.cellAt 1 rfl 1 rfl
    have HW := Lib.hid (show QW w vp [(w.heap.size, #[.int .i64 size, .slice at0 rs.length ct0], 36), (w.heap.size + 1, #[.int .i64 V, .slice ax cs.length cx], 40)] w5 (fstP (size, rs) ((V : Int), cs) V) from
      ⟨hs6.up hs6.hi (Nat.le_refl _), fr.ip.wk (fun z hz => by
        have h8 := hz.1
        have h9 := hs6.hi
        have h7 := hz_w5
        (try simp at h8)
        refine ⟨by omega, fun x hx => ?_⟩
        simp at hx
        rcases hx with rfl | rfl <;> (simp only; omega))⟩)
    clear fr
    generalize fstP (size, rs) ((V : Int), cs) V = P0 at *
    go_wp2_with fail
    go_loopw [10] (fun i wl => ∃ (k : Nat) (P : List RelT), k ≤ steps.length ∧ i = .int .i64 k ∧ Hid (QW w vp [(w.heap.size, #[.int .i64 size, .slice at0 rs.length ct0], 36), (w.heap.size + 1, #[.int .i64 V, .slice ax cs.length cx], 40)] wl P) ∧ Hid (PairOk size V P) ∧ Hid (replayP size V steps 0 P0 = replayP size V (steps.drop k) k P)) (fun i _ => steps.length - (intOf i).toNat)
    case atStart => exact ⟨0, P0, Nat.zero_le _, rfl, HW.out, HPK.out, rfl⟩
    case round =>
      clear HW HPK
      obtain ⟨k, P, hk, rfl, hw, hpk, hrun⟩ := hrel
      have hs1 := hw.out.st
      have HBX := Lib.hid (Below.refl wr.heap.size wr)
      have ew : IntKind.i64.wrap ((V : Int) - 1) = (V : Int) - 1 := i64_in _ (by omega)
      have k0_0 := hs1.cellAt 0 rfl 0 rfl
      have k0_1 := hs1.cellAt 0 rfl 1 rfl
      have k1_0 := hs1.cellAt 1 rfl 0 rfl
      have k1_1 := hs1.cellAt 1 rfl 1 rfl
      by_cases hlt : k < steps.length
      · have hkl : (k : Int) < steps.length := by omega
        obtain ⟨b, o, u0, u1, u2, rfl, p0, p1, p2, hy⟩ := rdSl_three rfl HSR.out k hlt
        have HDR := Lib.hid (replayP_drop (size := size) (V := V) hlt k P)
        have hy0 := rd_cons rfl hy
        have hy1 := rd_cons rfl hy0.2
        obtain ⟨rfl, _⟩ := rd_i1 hy0.1
        obtain ⟨rfl, _⟩ := rd_i1 hy1.1
        obtain ⟨rfl, _⟩ := rd_i1 hy1.2
        clear hy hy0 hy1
        generalize hss : steps[k] = SS at *
        obtain ⟨va, vb, vc⟩ := SS
        simp only at p0 p1 p2 HDR
        have HSS := Lib.hid hss
        clear hss
        have HFL := Lib.hid (fun (h : pairOkB size V P (va, vb, vc) = false) => show replayPF (size, rs) ((V : Int), cs) steps = ([], (k : Int), 8) by rw [H1.out, hrun.out, HDR.out, h]; rfl)
        have HNF := Lib.hid (fun (h : pairStepB V (va, vb, vc) = false) => show pairOkB size V P (va, vb, vc) = false by unfold pairOkB; rw [h]; rfl)
        generalize hwb : IntKind.i64.wrap (vb - 1) = WB at *
        have HWB := Lib.hid hwb
        clear k0_0 k0_1 k1_0 k1_1
        have k0_0 := hs1.cellAt 0 rfl 0 rfl
        have k0_1 := hs1.cellAt 0 rfl 1 rfl
        have k1_0 := hs1.cellAt 1 rfl 0 rfl
        have k1_1 := hs1.cellAt 1 rfl 1 rfl
        have p0_ := cellL hs1.bel p0
        clear k0_0 k0_1 k1_0 k1_1 p0_
        have k0_0 := hs1.cellAt 0 rfl 0 rfl
        have k0_1 := hs1.cellAt 0 rfl 1 rfl
        have k1_0 := hs1.cellAt 1 rfl 0 rfl
        have k1_1 := hs1.cellAt 1 rfl 1 rfl
        have p0_ := cellL hs1.bel p0
        have p1_ := cellL hs1.bel p1
        clear k0_0 k0_1 k1_0 k1_1 p0_ p1_
        have k0_0 := hs1.cellAt 0 rfl 0 rfl
        have k0_1 := hs1.cellAt 0 rfl 1 rfl
        have k1_0 := hs1.cellAt 1 rfl 0 rfl
        have k1_1 := hs1.cellAt 1 rfl 1 rfl
        have p0_ := cellL hs1.bel p0
        have p1_ := cellL hs1.bel p1
        have p2_ := cellL hs1.bel p2
        clear k0_0 k0_1 k1_0 k1_1 p0_ p1_ p2_
        have k0_0 := hs1.cellAt 0 rfl 0 rfl
        have k0_1 := hs1.cellAt 0 rfl 1 rfl
        have k1_0 := hs1.cellAt 1 rfl 0 rfl
        have k1_1 := hs1.cellAt 1 rfl 1 rfl
        have p0_ := cellL hs1.bel p0
        have p1_ := cellL hs1.bel p1
        have p2_ := cellL hs1.bel p2
        cases h1 : inB va 0 WB with
        | false =>
          have H2 := Lib.hid (HFL.out (HNF.out (pairStep_no1 (by rw [HWB.out]; exact h1))))
          have HE := Lib.hid h1
          clear h1
          go_upto_region 8 with fail
          refine wp_region_noPanic (wp_region_tree4 (fun w' => w'.cell? ⟨w.heap.size, 0, none⟩ = some (.int .i64 size) ∧ w'.cell? ⟨w.heap.size, 1, none⟩ = some (.slice at0 rs.length ct0) ∧ w'.cell? ⟨w.heap.size + 1, 0, none⟩ = some (.int .i64 V) ∧ w'.cell? ⟨w.heap.size + 1, 1, none⟩ = some (.slice ax cs.length cx) ∧ w'.cell? ⟨b, o + k * 3, none⟩ = some (.int .i64 va) ∧ w'.cell? ⟨b, o + k * 3 + 1, none⟩ = some (.int .i64 vb) ∧ w'.cell? ⟨b, o + k * 3 + 2, none⟩ = some (.int .i64 vc)) (.float 0 (.float 1 (.float 2 (.float 3 (.float 4 (.float 5 (.float 6 (.float 7 (.float 8 (.hard 9 (.float 10 (.float 11 (.float 12 (.float 13 (.float 14 (.float 15 (.float 16 (.float 17 (.hard 18 (.float 19 (.float 20 (.float 21 (.float 22 (.float 23 (.float 24 (.float 25 (.float 26 (.float 27 (.hard 28 (.float 29 (.float 30 (.float 31 (.float 32 (.float 33 (.float 34 (.float 35 (.float 36 (.float 37 (.float 38 (.float 39 (.float 40 (.float 41 (.float 42 (.float 43 (.float 44 (.float 45 (.float 46 (.float 47 (.float 48 (.float 49 (.float 50 (.float 51 (.float 52 .nil))))))))))))))))))))))))))))))))))))))))))))))))))))) (by kernel_rfl) (by kernel_rfl) (by kernel_rfl) rfl ?_ (fun _ _ _ _ _ h => h) ?_)
          · exact ⟨(hs1.drew).cellAt 0 rfl 0 rfl, (hs1.drew).cellAt 0 rfl 1 rfl, (hs1.drew).cellAt 1 rfl 0 rfl, (hs1.drew).cellAt 1 rfl 1 rfl, cellL (hs1.drew).bel p0, cellL (hs1.drew).bel p1, cellL (hs1.drew).bel p2⟩
          have hs7 := hs1.drew
          have HBX_8 := Lib.hid (HBX.out.trans (((belowD _)).mono HBX.out.size))
          clear HBX
          clear k0_0 k0_1 k1_0 k1_1 p0_ p1_ p2_
          have hz_wd9 : wr.heap.size ≤ (wr.drew).heap.size := by simp
          generalize hgen_wd9 : wr.drew = wd9 at *
          have HG_wd9 := Lib.hid hgen_wd9
          clear hgen_wd9
          (repeat (first | (apply t4_skip rfl (by rfl); try simp only [Act.put, List.setIfInBounds_toArray, List.set_cons_zero, List.set_cons_succ]) | (apply t4_float rfl (by rfl); (· (intro w' hS; go_simp <;> with_reducible rfl)); (try simp only [Act.put, List.setIfInBounds_toArray, List.set_cons_zero, List.set_cons_succ]))))
          refine t4_hard rfl (by rfl) (fun K hK => ?_)
          go_wp2_with (go_at_call 62; refine (l00In_c va 0 WB _).mono ?_; rintro e w10 ⟨rfl, rfl, rfl⟩)
          rw [HE.out]
          refine ⟨⟨hs7.cellAt 0 rfl 0 rfl, hs7.cellAt 0 rfl 1 rfl, hs7.cellAt 1 rfl 0 rfl, hs7.cellAt 1 rfl 1 rfl, cellL hs7.bel p0, cellL hs7.bel p1, cellL hs7.bel p2⟩, ?_⟩
          (repeat (first | (apply t4_skip rfl (by rfl); try simp only [Act.put, List.setIfInBounds_toArray, List.set_cons_zero, List.set_cons_succ]) | (apply t4_float rfl (by rfl); (· (intro w' hS; go_simp <;> with_reducible rfl)); (try simp only [Act.put, List.setIfInBounds_toArray, List.set_cons_zero, List.set_cons_succ]))))
          refine t4_hskip rfl (by rfl) ?_ ?_
          · exact ⟨hs7.cellAt 0 rfl 0 rfl, hs7.cellAt 0 rfl 1 rfl, hs7.cellAt 1 rfl 0 rfl, hs7.cellAt 1 rfl 1 rfl, cellL hs7.bel p0, cellL hs7.bel p1, cellL hs7.bel p2⟩
          (try simp only [Act.put, List.setIfInBounds_toArray, List.set_cons_zero, List.set_cons_succ])
          (repeat (first | (apply t4_skip rfl (by rfl); try simp only [Act.put, List.setIfInBounds_toArray, List.set_cons_zero, List.set_cons_succ]) | (apply t4_float rfl (by rfl); (· (intro w' hS; go_simp <;> with_reducible rfl)); (try simp only [Act.put, List.setIfInBounds_toArray, List.set_cons_zero, List.set_cons_succ]))))
          refine t4_hskip rfl (by rfl) ?_ ?_
          · exact ⟨hs7.cellAt 0 rfl 0 rfl, hs7.cellAt 0 rfl 1 rfl, hs7.cellAt 1 rfl 0 rfl, hs7.cellAt 1 rfl 1 rfl, cellL hs7.bel p0, cellL hs7.bel p1, cellL hs7.bel p2⟩
          (try simp only [Act.put, List.setIfInBounds_toArray, List.set_cons_zero, List.set_cons_succ])
          (repeat (first | (apply t4_skip rfl (by rfl); try simp only [Act.put, List.setIfInBounds_toArray, List.set_cons_zero, List.set_cons_succ]) | (apply t4_float rfl (by rfl); (· (intro w' hS; go_simp <;> with_reducible rfl)); (try simp only [Act.put, List.setIfInBounds_toArray, List.set_cons_zero, List.set_cons_succ]))))
          have k0_0 := hs7.cellAt 0 rfl 0 rfl
          have k0_1 := hs7.cellAt 0 rfl 1 rfl
          have k1_0 := hs7.cellAt 1 rfl 0 rfl
          have k1_1 := hs7.cellAt 1 rfl 1 rfl
          have p0_ := cellL hs7.bel p0
          have p1_ := cellL hs7.bel p1
          have p2_ := cellL hs7.bel p2
          refine t4_nil (NoPanic.normal ?_)
          go_upto_region 9 with fail
          refine wp_region_noPanic (wp_region_tree4 (fun w' => w'.cell? ⟨w.heap.size, 0, none⟩ = some (.int .i64 size) ∧ w'.cell? ⟨w.heap.size, 1, none⟩ = some (.slice at0 rs.length ct0) ∧ w'.cell? ⟨w.heap.size + 1, 0, none⟩ = some (.int .i64 V) ∧ w'.cell? ⟨w.heap.size + 1, 1, none⟩ = some (.slice ax cs.length cx) ∧ w'.cell? ⟨b, o + k * 3, none⟩ = some (.int .i64 va) ∧ w'.cell? ⟨b, o + k * 3 + 1, none⟩ = some (.int .i64 vb) ∧ w'.cell? ⟨b, o + k * 3 + 2, none⟩ = some (.int .i64 vc)) (.float 0 (.float 1 (.float 2 (.float 3 (.float 4 (.float 5 (.float 6 (.float 7 (.float 8 (.float 9 (.float 10 (.float 11 (.float 12 (.float 13 (.float 14 (.float 15 (.float 16 (.float 17 (.hard 18 (.float 19 (.float 20 .nil))))))))))))))))))))) (by kernel_rfl) (by kernel_rfl) (by kernel_rfl) rfl ?_ (fun _ _ _ _ _ h => h) ?_)
          · exact ⟨(hs7.drew).cellAt 0 rfl 0 rfl, (hs7.drew).cellAt 0 rfl 1 rfl, (hs7.drew).cellAt 1 rfl 0 rfl, (hs7.drew).cellAt 1 rfl 1 rfl, cellL (hs7.drew).bel p0, cellL (hs7.drew).bel p1, cellL (hs7.drew).bel p2⟩
          have hs11 := hs7.drew
          have HBX_12 := Lib.hid (HBX_8.out.trans (((belowD _)).mono HBX_8.out.size))
          clear HBX_8
          clear k0_0 k0_1 k1_0 k1_1 p0_ p1_ p2_
          have hz_wd13 : wd9.heap.size ≤ (wd9.drew).heap.size := by simp
          generalize hgen_wd13 : wd9.drew = wd13 at *
          have HG_wd13 := Lib.hid hgen_wd13
          clear hgen_wd13
          (repeat (first | (apply t4_skip rfl (by rfl); try simp only [Act.put, List.setIfInBounds_toArray, List.set_cons_zero, List.set_cons_succ]) | (apply t4_float rfl (by rfl); (· (intro w' hS; go_simp <;> with_reducible rfl)); (try simp only [Act.put, List.setIfInBounds_toArray, List.set_cons_zero, List.set_cons_succ]))))
          refine t4_hskip rfl (by rfl) ?_ ?_
          · exact ⟨hs11.cellAt 0 rfl 0 rfl, hs11.cellAt 0 rfl 1 rfl, hs11.cellAt 1 rfl 0 rfl, hs11.cellAt 1 rfl 1 rfl, cellL hs11.bel p0, cellL hs11.bel p1, cellL hs11.bel p2⟩
          (try simp only [Act.put, List.setIfInBounds_toArray, List.set_cons_zero, List.set_cons_succ])
          (repeat (first | (apply t4_skip rfl (by rfl); try simp only [Act.put, List.setIfInBounds_toArray, List.set_cons_zero, List.set_cons_succ]) | (apply t4_float rfl (by rfl); (· (intro w' hS; go_simp <;> with_reducible rfl)); (try simp only [Act.put, List.setIfInBounds_toArray, List.set_cons_zero, List.set_cons_succ]))))
          have k0_0 := hs11.cellAt 0 rfl 0 rfl
          have k0_1 := hs11.cellAt 0 rfl 1 rfl
          have k1_0 := hs11.cellAt 1 rfl 0 rfl
          have k1_1 := hs11.cellAt 1 rfl 1 rfl
          have p0_ := cellL hs11.bel p0
          have p1_ := cellL hs11.bel p1
          have p2_ := cellL hs11.bel p2
          have HBF := Lib.hid (hs11.bel.trans ((belowA wd13 (.cells #[] 116)).mono hs11.bel.size))
          refine t4_nil (NoPanic.normal ?_)
          go_wp2_with fail
          refine bodyPost_ret (v := .tuple #[.slice (some ⟨wd13.heap.size, 0, none⟩) 0 0, .int .i64 k, .int .i64 8]) (by simp [results, Tryz.results13, go_sem]) rfl ⟨_, by rw [H2.out], by rw [H2.out]; exact fresh_noneQ (Nat.zero_le _), HBF.out⟩
        | true =>
          have HE := Lib.hid h1
          cases h2 : inB vb 0 ((V : Int) - 1) with
          | false =>
            have H2 := Lib.hid (HFL.out (HNF.out (pairStep_no2 h2)))
            have HE2 := Lib.hid h2
            clear h1 h2
            go_upto_region 8 with fail
            refine wp_region_noPanic (wp_region_tree4 (fun w' => w'.cell? ⟨w.heap.size, 0, none⟩ = some (.int .i64 size) ∧ w'.cell? ⟨w.heap.size, 1, none⟩ = some (.slice at0 rs.length ct0) ∧ w'.cell? ⟨w.heap.size + 1, 0, none⟩ = some (.int .i64 V) ∧ w'.cell? ⟨w.heap.size + 1, 1, none⟩ = some (.slice ax cs.length cx) ∧ w'.cell? ⟨b, o + k * 3, none⟩ = some (.int .i64 va) ∧ w'.cell? ⟨b, o + k * 3 + 1, none⟩ = some (.int .i64 vb) ∧ w'.cell? ⟨b, o + k * 3 + 2, none⟩ = some (.int .i64 vc)) (.float 0 (.float 1 (.float 2 (.float 3 (.float 4 (.float 5 (.float 6 (.float 7 (.float 8 (.hard 9 (.float 10 (.float 11 (.float 12 (.float 13 (.float 14 (.float 15 (.float 16 (.float 17 (.hard 18 (.float 19 (.float 20 (.float 21 (.float 22 (.float 23 (.float 24 (.float 25 (.float 26 (.float 27 (.hard 28 (.float 29 (.float 30 (.float 31 (.float 32 (.float 33 (.float 34 (.float 35 (.float 36 (.float 37 (.float 38 (.float 39 (.float 40 (.float 41 (.float 42 (.float 43 (.float 44 (.float 45 (.float 46 (.float 47 (.float 48 (.float 49 (.float 50 (.float 51 (.float 52 .nil))))))))))))))))))))))))))))))))))))))))))))))))))))) (by kernel_rfl) (by kernel_rfl) (by kernel_rfl) rfl ?_ (fun _ _ _ _ _ h => h) ?_)
            · exact ⟨(hs1.drew).cellAt 0 rfl 0 rfl, (hs1.drew).cellAt 0 rfl 1 rfl, (hs1.drew).cellAt 1 rfl 0 rfl, (hs1.drew).cellAt 1 rfl 1 rfl, cellL (hs1.drew).bel p0, cellL (hs1.drew).bel p1, cellL (hs1.drew).bel p2⟩
            have hs14 := hs1.drew
            have HBX_15 := Lib.hid (HBX.out.trans (((belowD _)).mono HBX.out.size))
            clear HBX
            clear k0_0 k0_1 k1_0 k1_1 p0_ p1_ p2_
            have hz_wd16 : wr.heap.size ≤ (wr.drew).heap.size := by simp
            generalize hgen_wd16 : wr.drew = wd16 at *
            have HG_wd16 := Lib.hid hgen_wd16
            clear hgen_wd16
            (repeat (first | (apply t4_skip rfl (by rfl); try simp only [Act.put, List.setIfInBounds_toArray, List.set_cons_zero, List.set_cons_succ]) | (apply t4_float rfl (by rfl); (· (intro w' hS; go_simp <;> with_reducible rfl)); (try simp only [Act.put, List.setIfInBounds_toArray, List.set_cons_zero, List.set_cons_succ]))))
            refine t4_hard rfl (by rfl) (fun K hK => ?_)
            go_wp2_with (go_at_call 62; refine (l00In_c va 0 WB _).mono ?_; rintro e w17 ⟨rfl, rfl, rfl⟩)
            rw [HE.out]
            refine ⟨⟨hs14.cellAt 0 rfl 0 rfl, hs14.cellAt 0 rfl 1 rfl, hs14.cellAt 1 rfl 0 rfl, hs14.cellAt 1 rfl 1 rfl, cellL hs14.bel p0, cellL hs14.bel p1, cellL hs14.bel p2⟩, ?_⟩
            (repeat (first | (apply t4_skip rfl (by rfl); try simp only [Act.put, List.setIfInBounds_toArray, List.set_cons_zero, List.set_cons_succ]) | (apply t4_float rfl (by rfl); (· (intro w' hS; go_simp <;> with_reducible rfl)); (try simp only [Act.put, List.setIfInBounds_toArray, List.set_cons_zero, List.set_cons_succ]))))
            refine t4_hard rfl (by rfl) (fun K hK => ?_)
            go_wp2_with (go_at_call 62; refine (l00In_c vb 0 ((V : Int) - 1) _).mono ?_; rintro e w18 ⟨rfl, rfl, rfl⟩)
            rw [HE2.out]
            refine ⟨⟨hs14.cellAt 0 rfl 0 rfl, hs14.cellAt 0 rfl 1 rfl, hs14.cellAt 1 rfl 0 rfl, hs14.cellAt 1 rfl 1 rfl, cellL hs14.bel p0, cellL hs14.bel p1, cellL hs14.bel p2⟩, ?_⟩
            (repeat (first | (apply t4_skip rfl (by rfl); try simp only [Act.put, List.setIfInBounds_toArray, List.set_cons_zero, List.set_cons_succ]) | (apply t4_float rfl (by rfl); (· (intro w' hS; go_simp <;> with_reducible rfl)); (try simp only [Act.put, List.setIfInBounds_toArray, List.set_cons_zero, List.set_cons_succ]))))
            refine t4_hskip rfl (by rfl) ?_ ?_
            · exact ⟨hs14.cellAt 0 rfl 0 rfl, hs14.cellAt 0 rfl 1 rfl, hs14.cellAt 1 rfl 0 rfl, hs14.cellAt 1 rfl 1 rfl, cellL hs14.bel p0, cellL hs14.bel p1, cellL hs14.bel p2⟩
            (try simp only [Act.put, List.setIfInBounds_toArray, List.set_cons_zero, List.set_cons_succ])
            (repeat (first | (apply t4_skip rfl (by rfl); try simp only [Act.put, List.setIfInBounds_toArray, List.set_cons_zero, List.set_cons_succ]) | (apply t4_float rfl (by rfl); (· (intro w' hS; go_simp <;> with_reducible rfl)); (try simp only [Act.put, List.setIfInBounds_toArray, List.set_cons_zero, List.set_cons_succ]))))
            have k0_0 := hs14.cellAt 0 rfl 0 rfl
            have k0_1 := hs14.cellAt 0 rfl 1 rfl
            have k1_0 := hs14.cellAt 1 rfl 0 rfl
            have k1_1 := hs14.cellAt 1 rfl 1 rfl
            have p0_ := cellL hs14.bel p0
            have p1_ := cellL hs14.bel p1
            have p2_ := cellL hs14.bel p2
            refine t4_nil (NoPanic.normal ?_)
            go_upto_region 9 with fail
            refine wp_region_noPanic (wp_region_tree4 (fun w' => w'.cell? ⟨w.heap.size, 0, none⟩ = some (.int .i64 size) ∧ w'.cell? ⟨w.heap.size, 1, none⟩ = some (.slice at0 rs.length ct0) ∧ w'.cell? ⟨w.heap.size + 1, 0, none⟩ = some (.int .i64 V) ∧ w'.cell? ⟨w.heap.size + 1, 1, none⟩ = some (.slice ax cs.length cx) ∧ w'.cell? ⟨b, o + k * 3, none⟩ = some (.int .i64 va) ∧ w'.cell? ⟨b, o + k * 3 + 1, none⟩ = some (.int .i64 vb) ∧ w'.cell? ⟨b, o + k * 3 + 2, none⟩ = some (.int .i64 vc)) (.float 0 (.float 1 (.float 2 (.float 3 (.float 4 (.float 5 (.float 6 (.float 7 (.float 8 (.float 9 (.float 10 (.float 11 (.float 12 (.float 13 (.float 14 (.float 15 (.float 16 (.float 17 (.hard 18 (.float 19 (.float 20 .nil))))))))))))))))))))) (by kernel_rfl) (by kernel_rfl) (by kernel_rfl) rfl ?_ (fun _ _ _ _ _ h => h) ?_)
            · exact ⟨(hs14.drew).cellAt 0 rfl 0 rfl, (hs14.drew).cellAt 0 rfl 1 rfl, (hs14.drew).cellAt 1 rfl 0 rfl, (hs14.drew).cellAt 1 rfl 1 rfl, cellL (hs14.drew).bel p0, cellL (hs14.drew).bel p1, cellL (hs14.drew).bel p2⟩
            have hs19 := hs14.drew
            have HBX_20 := Lib.hid (HBX_15.out.trans (((belowD _)).mono HBX_15.out.size))
            clear HBX_15
            clear k0_0 k0_1 k1_0 k1_1 p0_ p1_ p2_
            have hz_wd21 : wd16.heap.size ≤ (wd16.drew).heap.size := by simp
            generalize hgen_wd21 : wd16.drew = wd21 at *
            have HG_wd21 := Lib.hid hgen_wd21
            clear hgen_wd21
            (repeat (first | (apply t4_skip rfl (by rfl); try simp only [Act.put, List.setIfInBounds_toArray, List.set_cons_zero, List.set_cons_succ]) | (apply t4_float rfl (by rfl); (· (intro w' hS; go_simp <;> with_reducible rfl)); (try simp only [Act.put, List.setIfInBounds_toArray, List.set_cons_zero, List.set_cons_succ]))))
            refine t4_hskip rfl (by rfl) ?_ ?_
            · exact ⟨hs19.cellAt 0 rfl 0 rfl, hs19.cellAt 0 rfl 1 rfl, hs19.cellAt 1 rfl 0 rfl, hs19.cellAt 1 rfl 1 rfl, cellL hs19.bel p0, cellL hs19.bel p1, cellL hs19.bel p2⟩
            (try simp only [Act.put, List.setIfInBounds_toArray, List.set_cons_zero, List.set_cons_succ])
            (repeat (first | (apply t4_skip rfl (by rfl); try simp only [Act.put, List.setIfInBounds_toArray, List.set_cons_zero, List.set_cons_succ]) | (apply t4_float rfl (by rfl); (· (intro w' hS; go_simp <;> with_reducible rfl)); (try simp only [Act.put, List.setIfInBounds_toArray, List.set_cons_zero, List.set_cons_succ]))))
            have k0_0 := hs19.cellAt 0 rfl 0 rfl
            have k0_1 := hs19.cellAt 0 rfl 1 rfl
            have k1_0 := hs19.cellAt 1 rfl 0 rfl
            have k1_1 := hs19.cellAt 1 rfl 1 rfl
            have p0_ := cellL hs19.bel p0
            have p1_ := cellL hs19.bel p1
            have p2_ := cellL hs19.bel p2
            have HBF := Lib.hid (hs19.bel.trans ((belowA wd21 (.cells #[] 116)).mono hs19.bel.size))
            refine t4_nil (NoPanic.normal ?_)
            go_wp2_with fail
            refine bodyPost_ret (v := .tuple #[.slice (some ⟨wd21.heap.size, 0, none⟩) 0 0, .int .i64 k, .int .i64 8]) (by simp [results, Tryz.results13, go_sem]) rfl ⟨_, by rw [H2.out], by rw [H2.out]; exact fresh_noneQ (Nat.zero_le _), HBF.out⟩
          | true =>
            have HE2 := Lib.hid h2
            cases h3 : inB vc 0 ((V : Int) - 1) with
            | false =>
              have H2 := Lib.hid (HFL.out (HNF.out (pairStep_no3 h3)))
              have HE3 := Lib.hid h3
              clear h1 h2 h3
              go_upto_region 8 with fail
              refine wp_region_noPanic (wp_region_tree4 (fun w' => w'.cell? ⟨w.heap.size, 0, none⟩ = some (.int .i64 size) ∧ w'.cell? ⟨w.heap.size, 1, none⟩ = some (.slice at0 rs.length ct0) ∧ w'.cell? ⟨w.heap.size + 1, 0, none⟩ = some (.int .i64 V) ∧ w'.cell? ⟨w.heap.size + 1, 1, none⟩ = some (.slice ax cs.length cx) ∧ w'.cell? ⟨b, o + k * 3, none⟩ = some (.int .i64 va) ∧ w'.cell? ⟨b, o + k * 3 + 1, none⟩ = some (.int .i64 vb) ∧ w'.cell? ⟨b, o + k * 3 + 2, none⟩ = some (.int .i64 vc)) (.float 0 (.float 1 (.float 2 (.float 3 (.float 4 (.float 5 (.float 6 (.float 7 (.float 8 (.hard 9 (.float 10 (.float 11 (.float 12 (.float 13 (.float 14 (.float 15 (.float 16 (.float 17 (.hard 18 (.float 19 (.float 20 (.float 21 (.float 22 (.float 23 (.float 24 (.float 25 (.float 26 (.float 27 (.hard 28 (.float 29 (.float 30 (.float 31 (.float 32 (.float 33 (.float 34 (.float 35 (.float 36 (.float 37 (.float 38 (.float 39 (.float 40 (.float 41 (.float 42 (.float 43 (.float 44 (.float 45 (.float 46 (.float 47 (.float 48 (.float 49 (.float 50 (.float 51 (.float 52 .nil))))))))))))))))))))))))))))))))))))))))))))))))))))) (by kernel_rfl) (by kernel_rfl) (by kernel_rfl) rfl ?_ (fun _ _ _ _ _ h => h) ?_)
              · exact ⟨(hs1.drew).cellAt 0 rfl 0 rfl, (hs1.drew).cellAt 0 rfl 1 rfl, (hs1.drew).cellAt 1 rfl 0 rfl, (hs1.drew).cellAt 1 rfl 1 rfl, cellL (hs1.drew).bel p0, cellL (hs1.drew).bel p1, cellL (hs1.drew).bel p2⟩
              have hs22 := hs1.drew
              have HBX_23 := Lib.hid (HBX.out.trans (((belowD _)).mono HBX.out.size))
              clear HBX
              clear k0_0 k0_1 k1_0 k1_1 p0_ p1_ p2_
              have hz_wd24 : wr.heap.size ≤ (wr.drew).heap.size := by simp
              generalize hgen_wd24 : wr.drew = wd24 at *
              have HG_wd24 := Lib.hid hgen_wd24
              clear hgen_wd24
              (repeat (first | (apply t4_skip rfl (by rfl); try simp only [Act.put, List.setIfInBounds_toArray, List.set_cons_zero, List.set_cons_succ]) | (apply t4_float rfl (by rfl); (· (intro w' hS; go_simp <;> with_reducible rfl)); (try simp only [Act.put, List.setIfInBounds_toArray, List.set_cons_zero, List.set_cons_succ]))))
              refine t4_hard rfl (by rfl) (fun K hK => ?_)
              go_wp2_with (go_at_call 62; refine (l00In_c va 0 WB _).mono ?_; rintro e w25 ⟨rfl, rfl, rfl⟩)
              rw [HE.out]
              refine ⟨⟨hs22.cellAt 0 rfl 0 rfl, hs22.cellAt 0 rfl 1 rfl, hs22.cellAt 1 rfl 0 rfl, hs22.cellAt 1 rfl 1 rfl, cellL hs22.bel p0, cellL hs22.bel p1, cellL hs22.bel p2⟩, ?_⟩
              (repeat (first | (apply t4_skip rfl (by rfl); try simp only [Act.put, List.setIfInBounds_toArray, List.set_cons_zero, List.set_cons_succ]) | (apply t4_float rfl (by rfl); (· (intro w' hS; go_simp <;> with_reducible rfl)); (try simp only [Act.put, List.setIfInBounds_toArray, List.set_cons_zero, List.set_cons_succ]))))
              refine t4_hard rfl (by rfl) (fun K hK => ?_)
              go_wp2_with (go_at_call 62; refine (l00In_c vb 0 ((V : Int) - 1) _).mono ?_; rintro e w26 ⟨rfl, rfl, rfl⟩)
              rw [HE2.out]
              refine ⟨⟨hs22.cellAt 0 rfl 0 rfl, hs22.cellAt 0 rfl 1 rfl, hs22.cellAt 1 rfl 0 rfl, hs22.cellAt 1 rfl 1 rfl, cellL hs22.bel p0, cellL hs22.bel p1, cellL hs22.bel p2⟩, ?_⟩
              (repeat (first | (apply t4_skip rfl (by rfl); try simp only [Act.put, List.setIfInBounds_toArray, List.set_cons_zero, List.set_cons_succ]) | (apply t4_float rfl (by rfl); (· (intro w' hS; go_simp <;> with_reducible rfl)); (try simp only [Act.put, List.setIfInBounds_toArray, List.set_cons_zero, List.set_cons_succ]))))
              refine t4_hard rfl (by rfl) (fun K hK => ?_)
              go_wp2_with (go_at_call 62; refine (l00In_c vc 0 ((V : Int) - 1) _).mono ?_; rintro e w27 ⟨rfl, rfl, rfl⟩)
              rw [HE3.out]
              refine ⟨⟨hs22.cellAt 0 rfl 0 rfl, hs22.cellAt 0 rfl 1 rfl, hs22.cellAt 1 rfl 0 rfl, hs22.cellAt 1 rfl 1 rfl, cellL hs22.bel p0, cellL hs22.bel p1, cellL hs22.bel p2⟩, ?_⟩
              (repeat (first | (apply t4_skip rfl (by rfl); try simp only [Act.put, List.setIfInBounds_toArray, List.set_cons_zero, List.set_cons_succ]) | (apply t4_float rfl (by rfl); (· (intro w' hS; go_simp <;> with_reducible rfl)); (try simp only [Act.put, List.setIfInBounds_toArray, List.set_cons_zero, List.set_cons_succ]))))
              have k0_0 := hs22.cellAt 0 rfl 0 rfl
              have k0_1 := hs22.cellAt 0 rfl 1 rfl
              have k1_0 := hs22.cellAt 1 rfl 0 rfl
              have k1_1 := hs22.cellAt 1 rfl 1 rfl
              have p0_ := cellL hs22.bel p0
              have p1_ := cellL hs22.bel p1
              have p2_ := cellL hs22.bel p2
              refine t4_nil (NoPanic.normal ?_)
              go_upto_region 9 with fail
              refine wp_region_noPanic (wp_region_tree4 (fun w' => w'.cell? ⟨w.heap.size, 0, none⟩ = some (.int .i64 size) ∧ w'.cell? ⟨w.heap.size, 1, none⟩ = some (.slice at0 rs.length ct0) ∧ w'.cell? ⟨w.heap.size + 1, 0, none⟩ = some (.int .i64 V) ∧ w'.cell? ⟨w.heap.size + 1, 1, none⟩ = some (.slice ax cs.length cx) ∧ w'.cell? ⟨b, o + k * 3, none⟩ = some (.int .i64 va) ∧ w'.cell? ⟨b, o + k * 3 + 1, none⟩ = some (.int .i64 vb) ∧ w'.cell? ⟨b, o + k * 3 + 2, none⟩ = some (.int .i64 vc)) (.float 0 (.float 1 (.float 2 (.float 3 (.float 4 (.float 5 (.float 6 (.float 7 (.float 8 (.float 9 (.float 10 (.float 11 (.float 12 (.float 13 (.float 14 (.float 15 (.float 16 (.float 17 (.hard 18 (.float 19 (.float 20 .nil))))))))))))))))))))) (by kernel_rfl) (by kernel_rfl) (by kernel_rfl) rfl ?_ (fun _ _ _ _ _ h => h) ?_)
              · exact ⟨(hs22.drew).cellAt 0 rfl 0 rfl, (hs22.drew).cellAt 0 rfl 1 rfl, (hs22.drew).cellAt 1 rfl 0 rfl, (hs22.drew).cellAt 1 rfl 1 rfl, cellL (hs22.drew).bel p0, cellL (hs22.drew).bel p1, cellL (hs22.drew).bel p2⟩
              have hs28 := hs22.drew
              have HBX_29 := Lib.hid (HBX_23.out.trans (((belowD _)).mono HBX_23.out.size))
              clear HBX_23
              clear k0_0 k0_1 k1_0 k1_1 p0_ p1_ p2_
              have hz_wd30 : wd24.heap.size ≤ (wd24.drew).heap.size := by simp
              generalize hgen_wd30 : wd24.drew = wd30 at *
              have HG_wd30 := Lib.hid hgen_wd30
              clear hgen_wd30
              (repeat (first | (apply t4_skip rfl (by rfl); try simp only [Act.put, List.setIfInBounds_toArray, List.set_cons_zero, List.set_cons_succ]) | (apply t4_float rfl (by rfl); (· (intro w' hS; go_simp <;> with_reducible rfl)); (try simp only [Act.put, List.setIfInBounds_toArray, List.set_cons_zero, List.set_cons_succ]))))
              refine t4_hskip rfl (by rfl) ?_ ?_
              · exact ⟨hs28.cellAt 0 rfl 0 rfl, hs28.cellAt 0 rfl 1 rfl, hs28.cellAt 1 rfl 0 rfl, hs28.cellAt 1 rfl 1 rfl, cellL hs28.bel p0, cellL hs28.bel p1, cellL hs28.bel p2⟩
              (try simp only [Act.put, List.setIfInBounds_toArray, List.set_cons_zero, List.set_cons_succ])
              (repeat (first | (apply t4_skip rfl (by rfl); try simp only [Act.put, List.setIfInBounds_toArray, List.set_cons_zero, List.set_cons_succ]) | (apply t4_float rfl (by rfl); (· (intro w' hS; go_simp <;> with_reducible rfl)); (try simp only [Act.put, List.setIfInBounds_toArray, List.set_cons_zero, List.set_cons_succ]))))
              have k0_0 := hs28.cellAt 0 rfl 0 rfl
              have k0_1 := hs28.cellAt 0 rfl 1 rfl
              have k1_0 := hs28.cellAt 1 rfl 0 rfl
              have k1_1 := hs28.cellAt 1 rfl 1 rfl
              have p0_ := cellL hs28.bel p0
              have p1_ := cellL hs28.bel p1
              have p2_ := cellL hs28.bel p2
              have HBF := Lib.hid (hs28.bel.trans ((belowA wd30 (.cells #[] 116)).mono hs28.bel.size))
              refine t4_nil (NoPanic.normal ?_)
              go_wp2_with fail
              refine bodyPost_ret (v := .tuple #[.slice (some ⟨wd30.heap.size, 0, none⟩) 0 0, .int .i64 k, .int .i64 8]) (by simp [results, Tryz.results13, go_sem]) rfl ⟨_, by rw [H2.out], by rw [H2.out]; exact fresh_noneQ (Nat.zero_le _), HBF.out⟩
            | true =>
              have HE3 := Lib.hid h3
              by_cases h4 : vc = va
              · have H2 := Lib.hid (HFL.out (HNF.out (pairStep_no4 h4)))
                have HD4 := Lib.hid (show (vc != va) = false by simp [h4])
                clear h1 h2 h3 h4
                go_upto_region 8 with fail
                refine wp_region_noPanic (wp_region_tree4 (fun w' => w'.cell? ⟨w.heap.size, 0, none⟩ = some (.int .i64 size) ∧ w'.cell? ⟨w.heap.size, 1, none⟩ = some (.slice at0 rs.length ct0) ∧ w'.cell? ⟨w.heap.size + 1, 0, none⟩ = some (.int .i64 V) ∧ w'.cell? ⟨w.heap.size + 1, 1, none⟩ = some (.slice ax cs.length cx) ∧ w'.cell? ⟨b, o + k * 3, none⟩ = some (.int .i64 va) ∧ w'.cell? ⟨b, o + k * 3 + 1, none⟩ = some (.int .i64 vb) ∧ w'.cell? ⟨b, o + k * 3 + 2, none⟩ = some (.int .i64 vc)) (.float 0 (.float 1 (.float 2 (.float 3 (.float 4 (.float 5 (.float 6 (.float 7 (.float 8 (.hard 9 (.float 10 (.float 11 (.float 12 (.float 13 (.float 14 (.float 15 (.float 16 (.float 17 (.hard 18 (.float 19 (.float 20 (.float 21 (.float 22 (.float 23 (.float 24 (.float 25 (.float 26 (.float 27 (.hard 28 (.float 29 (.float 30 (.float 31 (.float 32 (.float 33 (.float 34 (.float 35 (.float 36 (.float 37 (.float 38 (.float 39 (.float 40 (.float 41 (.float 42 (.float 43 (.float 44 (.float 45 (.float 46 (.float 47 (.float 48 (.float 49 (.float 50 (.float 51 (.float 52 .nil))))))))))))))))))))))))))))))))))))))))))))))))))))) (by kernel_rfl) (by kernel_rfl) (by kernel_rfl) rfl ?_ (fun _ _ _ _ _ h => h) ?_)
                · exact ⟨(hs1.drew).cellAt 0 rfl 0 rfl, (hs1.drew).cellAt 0 rfl 1 rfl, (hs1.drew).cellAt 1 rfl 0 rfl, (hs1.drew).cellAt 1 rfl 1 rfl, cellL (hs1.drew).bel p0, cellL (hs1.drew).bel p1, cellL (hs1.drew).bel p2⟩
                have hs31 := hs1.drew
                have HBX_32 := Lib.hid (HBX.out.trans (((belowD _)).mono HBX.out.size))
                clear HBX
                clear k0_0 k0_1 k1_0 k1_1 p0_ p1_ p2_
                have hz_wd33 : wr.heap.size ≤ (wr.drew).heap.size := by simp
                generalize hgen_wd33 : wr.drew = wd33 at *
                have HG_wd33 := Lib.hid hgen_wd33
                clear hgen_wd33
                (repeat (first | (apply t4_skip rfl (by rfl); try simp only [Act.put, List.setIfInBounds_toArray, List.set_cons_zero, List.set_cons_succ]) | (apply t4_float rfl (by rfl); (· (intro w' hS; go_simp <;> with_reducible rfl)); (try simp only [Act.put, List.setIfInBounds_toArray, List.set_cons_zero, List.set_cons_succ]))))
                (try (rw [HD4.out]; (repeat (first | (apply t4_skip rfl (by rfl); try simp only [Act.put, List.setIfInBounds_toArray, List.set_cons_zero, List.set_cons_succ]) | (apply t4_float rfl (by rfl); (· (intro w' hS; go_simp <;> with_reducible rfl)); (try simp only [Act.put, List.setIfInBounds_toArray, List.set_cons_zero, List.set_cons_succ]))))))
                refine t4_hard rfl (by rfl) (fun K hK => ?_)
                go_wp2_with (go_at_call 62; refine (l00In_c va 0 WB _).mono ?_; rintro e w34 ⟨rfl, rfl, rfl⟩)
                rw [HE.out]
                refine ⟨⟨hs31.cellAt 0 rfl 0 rfl, hs31.cellAt 0 rfl 1 rfl, hs31.cellAt 1 rfl 0 rfl, hs31.cellAt 1 rfl 1 rfl, cellL hs31.bel p0, cellL hs31.bel p1, cellL hs31.bel p2⟩, ?_⟩
                (repeat (first | (apply t4_skip rfl (by rfl); try simp only [Act.put, List.setIfInBounds_toArray, List.set_cons_zero, List.set_cons_succ]) | (apply t4_float rfl (by rfl); (· (intro w' hS; go_simp <;> with_reducible rfl)); (try simp only [Act.put, List.setIfInBounds_toArray, List.set_cons_zero, List.set_cons_succ]))))
                (try (rw [HD4.out]; (repeat (first | (apply t4_skip rfl (by rfl); try simp only [Act.put, List.setIfInBounds_toArray, List.set_cons_zero, List.set_cons_succ]) | (apply t4_float rfl (by rfl); (· (intro w' hS; go_simp <;> with_reducible rfl)); (try simp only [Act.put, List.setIfInBounds_toArray, List.set_cons_zero, List.set_cons_succ]))))))
                refine t4_hard rfl (by rfl) (fun K hK => ?_)
                go_wp2_with (go_at_call 62; refine (l00In_c vb 0 ((V : Int) - 1) _).mono ?_; rintro e w35 ⟨rfl, rfl, rfl⟩)
                rw [HE2.out]
                refine ⟨⟨hs31.cellAt 0 rfl 0 rfl, hs31.cellAt 0 rfl 1 rfl, hs31.cellAt 1 rfl 0 rfl, hs31.cellAt 1 rfl 1 rfl, cellL hs31.bel p0, cellL hs31.bel p1, cellL hs31.bel p2⟩, ?_⟩
                (repeat (first | (apply t4_skip rfl (by rfl); try simp only [Act.put, List.setIfInBounds_toArray, List.set_cons_zero, List.set_cons_succ]) | (apply t4_float rfl (by rfl); (· (intro w' hS; go_simp <;> with_reducible rfl)); (try simp only [Act.put, List.setIfInBounds_toArray, List.set_cons_zero, List.set_cons_succ]))))
                (try (rw [HD4.out]; (repeat (first | (apply t4_skip rfl (by rfl); try simp only [Act.put, List.setIfInBounds_toArray, List.set_cons_zero, List.set_cons_succ]) | (apply t4_float rfl (by rfl); (· (intro w' hS; go_simp <;> with_reducible rfl)); (try simp only [Act.put, List.setIfInBounds_toArray, List.set_cons_zero, List.set_cons_succ]))))))
                refine t4_hard rfl (by rfl) (fun K hK => ?_)
                go_wp2_with (go_at_call 62; refine (l00In_c vc 0 ((V : Int) - 1) _).mono ?_; rintro e w36 ⟨rfl, rfl, rfl⟩)
                rw [HE3.out]
                refine ⟨⟨hs31.cellAt 0 rfl 0 rfl, hs31.cellAt 0 rfl 1 rfl, hs31.cellAt 1 rfl 0 rfl, hs31.cellAt 1 rfl 1 rfl, cellL hs31.bel p0, cellL hs31.bel p1, cellL hs31.bel p2⟩, ?_⟩
                (repeat (first | (apply t4_skip rfl (by rfl); try simp only [Act.put, List.setIfInBounds_toArray, List.set_cons_zero, List.set_cons_succ]) | (apply t4_float rfl (by rfl); (· (intro w' hS; go_simp <;> with_reducible rfl)); (try simp only [Act.put, List.setIfInBounds_toArray, List.set_cons_zero, List.set_cons_succ]))))
                (try (rw [HD4.out]; (repeat (first | (apply t4_skip rfl (by rfl); try simp only [Act.put, List.setIfInBounds_toArray, List.set_cons_zero, List.set_cons_succ]) | (apply t4_float rfl (by rfl); (· (intro w' hS; go_simp <;> with_reducible rfl)); (try simp only [Act.put, List.setIfInBounds_toArray, List.set_cons_zero, List.set_cons_succ]))))))
                have k0_0 := hs31.cellAt 0 rfl 0 rfl
                have k0_1 := hs31.cellAt 0 rfl 1 rfl
                have k1_0 := hs31.cellAt 1 rfl 0 rfl
                have k1_1 := hs31.cellAt 1 rfl 1 rfl
                have p0_ := cellL hs31.bel p0
                have p1_ := cellL hs31.bel p1
                have p2_ := cellL hs31.bel p2
                refine t4_nil (NoPanic.normal ?_)
                go_upto_region 9 with fail
                refine wp_region_noPanic (wp_region_tree4 (fun w' => w'.cell? ⟨w.heap.size, 0, none⟩ = some (.int .i64 size) ∧ w'.cell? ⟨w.heap.size, 1, none⟩ = some (.slice at0 rs.length ct0) ∧ w'.cell? ⟨w.heap.size + 1, 0, none⟩ = some (.int .i64 V) ∧ w'.cell? ⟨w.heap.size + 1, 1, none⟩ = some (.slice ax cs.length cx) ∧ w'.cell? ⟨b, o + k * 3, none⟩ = some (.int .i64 va) ∧ w'.cell? ⟨b, o + k * 3 + 1, none⟩ = some (.int .i64 vb) ∧ w'.cell? ⟨b, o + k * 3 + 2, none⟩ = some (.int .i64 vc)) (.float 0 (.float 1 (.float 2 (.float 3 (.float 4 (.float 5 (.float 6 (.float 7 (.float 8 (.float 9 (.float 10 (.float 11 (.float 12 (.float 13 (.float 14 (.float 15 (.float 16 (.float 17 (.hard 18 (.float 19 (.float 20 .nil))))))))))))))))))))) (by kernel_rfl) (by kernel_rfl) (by kernel_rfl) rfl ?_ (fun _ _ _ _ _ h => h) ?_)
                · exact ⟨(hs31.drew).cellAt 0 rfl 0 rfl, (hs31.drew).cellAt 0 rfl 1 rfl, (hs31.drew).cellAt 1 rfl 0 rfl, (hs31.drew).cellAt 1 rfl 1 rfl, cellL (hs31.drew).bel p0, cellL (hs31.drew).bel p1, cellL (hs31.drew).bel p2⟩
                have hs37 := hs31.drew
                have HBX_38 := Lib.hid (HBX_32.out.trans (((belowD _)).mono HBX_32.out.size))
                clear HBX_32
                clear k0_0 k0_1 k1_0 k1_1 p0_ p1_ p2_
                have hz_wd39 : wd33.heap.size ≤ (wd33.drew).heap.size := by simp
                generalize hgen_wd39 : wd33.drew = wd39 at *
                have HG_wd39 := Lib.hid hgen_wd39
                clear hgen_wd39
                (repeat (first | (apply t4_skip rfl (by rfl); try simp only [Act.put, List.setIfInBounds_toArray, List.set_cons_zero, List.set_cons_succ]) | (apply t4_float rfl (by rfl); (· (intro w' hS; go_simp <;> with_reducible rfl)); (try simp only [Act.put, List.setIfInBounds_toArray, List.set_cons_zero, List.set_cons_succ]))))
                (try (rw [HD4.out]; (repeat (first | (apply t4_skip rfl (by rfl); try simp only [Act.put, List.setIfInBounds_toArray, List.set_cons_zero, List.set_cons_succ]) | (apply t4_float rfl (by rfl); (· (intro w' hS; go_simp <;> with_reducible rfl)); (try simp only [Act.put, List.setIfInBounds_toArray, List.set_cons_zero, List.set_cons_succ]))))))
                refine t4_hskip rfl (by rfl) ?_ ?_
                · exact ⟨hs37.cellAt 0 rfl 0 rfl, hs37.cellAt 0 rfl 1 rfl, hs37.cellAt 1 rfl 0 rfl, hs37.cellAt 1 rfl 1 rfl, cellL hs37.bel p0, cellL hs37.bel p1, cellL hs37.bel p2⟩
                (try simp only [Act.put, List.setIfInBounds_toArray, List.set_cons_zero, List.set_cons_succ])
                (repeat (first | (apply t4_skip rfl (by rfl); try simp only [Act.put, List.setIfInBounds_toArray, List.set_cons_zero, List.set_cons_succ]) | (apply t4_float rfl (by rfl); (· (intro w' hS; go_simp <;> with_reducible rfl)); (try simp only [Act.put, List.setIfInBounds_toArray, List.set_cons_zero, List.set_cons_succ]))))
                (try (rw [HD4.out]; (repeat (first | (apply t4_skip rfl (by rfl); try simp only [Act.put, List.setIfInBounds_toArray, List.set_cons_zero, List.set_cons_succ]) | (apply t4_float rfl (by rfl); (· (intro w' hS; go_simp <;> with_reducible rfl)); (try simp only [Act.put, List.setIfInBounds_toArray, List.set_cons_zero, List.set_cons_succ]))))))
                have k0_0 := hs37.cellAt 0 rfl 0 rfl
                have k0_1 := hs37.cellAt 0 rfl 1 rfl
                have k1_0 := hs37.cellAt 1 rfl 0 rfl
                have k1_1 := hs37.cellAt 1 rfl 1 rfl
                have p0_ := cellL hs37.bel p0
                have p1_ := cellL hs37.bel p1
                have p2_ := cellL hs37.bel p2
                have HBF := Lib.hid (hs37.bel.trans ((belowA wd39 (.cells #[] 116)).mono hs37.bel.size))
                refine t4_nil (NoPanic.normal ?_)
                go_wp2_with fail
                refine bodyPost_ret (v := .tuple #[.slice (some ⟨wd39.heap.size, 0, none⟩) 0 0, .int .i64 k, .int .i64 8]) (by simp [results, Tryz.results13, go_sem]) rfl ⟨_, by rw [H2.out], by rw [H2.out]; exact fresh_noneQ (Nat.zero_le _), HBF.out⟩
              · have HD4 := Lib.hid (show (vc != va) = true by simp [h4])
                by_cases h5 : vc = vb
                · have H2 := Lib.hid (HFL.out (HNF.out (pairStep_no5 h5)))
                  have HD5 := Lib.hid (show (vc != vb) = false by simp [h5])
                  clear h1 h2 h3 h4 h5
                  go_upto_region 8 with fail
                  refine wp_region_noPanic (wp_region_tree4 (fun w' => w'.cell? ⟨w.heap.size, 0, none⟩ = some (.int .i64 size) ∧ w'.cell? ⟨w.heap.size, 1, none⟩ = some (.slice at0 rs.length ct0) ∧ w'.cell? ⟨w.heap.size + 1, 0, none⟩ = some (.int .i64 V) ∧ w'.cell? ⟨w.heap.size + 1, 1, none⟩ = some (.slice ax cs.length cx) ∧ w'.cell? ⟨b, o + k * 3, none⟩ = some (.int .i64 va) ∧ w'.cell? ⟨b, o + k * 3 + 1, none⟩ = some (.int .i64 vb) ∧ w'.cell? ⟨b, o + k * 3 + 2, none⟩ = some (.int .i64 vc)) (.float 0 (.float 1 (.float 2 (.float 3 (.float 4 (.float 5 (.float 6 (.float 7 (.float 8 (.hard 9 (.float 10 (.float 11 (.float 12 (.float 13 (.float 14 (.float 15 (.float 16 (.float 17 (.hard 18 (.float 19 (.float 20 (.float 21 (.float 22 (.float 23 (.float 24 (.float 25 (.float 26 (.float 27 (.hard 28 (.float 29 (.float 30 (.float 31 (.float 32 (.float 33 (.float 34 (.float 35 (.float 36 (.float 37 (.float 38 (.float 39 (.float 40 (.float 41 (.float 42 (.float 43 (.float 44 (.float 45 (.float 46 (.float 47 (.float 48 (.float 49 (.float 50 (.float 51 (.float 52 .nil))))))))))))))))))))))))))))))))))))))))))))))))))))) (by kernel_rfl) (by kernel_rfl) (by kernel_rfl) rfl ?_ (fun _ _ _ _ _ h => h) ?_)
                  · exact ⟨(hs1.drew).cellAt 0 rfl 0 rfl, (hs1.drew).cellAt 0 rfl 1 rfl, (hs1.drew).cellAt 1 rfl 0 rfl, (hs1.drew).cellAt 1 rfl 1 rfl, cellL (hs1.drew).bel p0, cellL (hs1.drew).bel p1, cellL (hs1.drew).bel p2⟩
                  have hs40 := hs1.drew
                  have HBX_41 := Lib.hid (HBX.out.trans (((belowD _)).mono HBX.out.size))
                  clear HBX
                  clear k0_0 k0_1 k1_0 k1_1 p0_ p1_ p2_
                  have hz_wd42 : wr.heap.size ≤ (wr.drew).heap.size := by simp
                  generalize hgen_wd42 : wr.drew = wd42 at *
                  have HG_wd42 := Lib.hid hgen_wd42
                  clear hgen_wd42
                  (repeat (first | (apply t4_skip rfl (by rfl); try simp only [Act.put, List.setIfInBounds_toArray, List.set_cons_zero, List.set_cons_succ]) | (apply t4_float rfl (by rfl); (· (intro w' hS; go_simp <;> with_reducible rfl)); (try simp only [Act.put, List.setIfInBounds_toArray, List.set_cons_zero, List.set_cons_succ]))))
                  (try (rw [HD4.out]; (repeat (first | (apply t4_skip rfl (by rfl); try simp only [Act.put, List.setIfInBounds_toArray, List.set_cons_zero, List.set_cons_succ]) | (apply t4_float rfl (by rfl); (· (intro w' hS; go_simp <;> with_reducible rfl)); (try simp only [Act.put, List.setIfInBounds_toArray, List.set_cons_zero, List.set_cons_succ]))))))
                  (try (rw [HD5.out]; (repeat (first | (apply t4_skip rfl (by rfl); try simp only [Act.put, List.setIfInBounds_toArray, List.set_cons_zero, List.set_cons_succ]) | (apply t4_float rfl (by rfl); (· (intro w' hS; go_simp <;> with_reducible rfl)); (try simp only [Act.put, List.setIfInBounds_toArray, List.set_cons_zero, List.set_cons_succ]))))))
                  refine t4_hard rfl (by rfl) (fun K hK => ?_)
                  go_wp2_with (go_at_call 62; refine (l00In_c va 0 WB _).mono ?_; rintro e w43 ⟨rfl, rfl, rfl⟩)
                  rw [HE.out]
                  refine ⟨⟨hs40.cellAt 0 rfl 0 rfl, hs40.cellAt 0 rfl 1 rfl, hs40.cellAt 1 rfl 0 rfl, hs40.cellAt 1 rfl 1 rfl, cellL hs40.bel p0, cellL hs40.bel p1, cellL hs40.bel p2⟩, ?_⟩
                  (repeat (first | (apply t4_skip rfl (by rfl); try simp only [Act.put, List.setIfInBounds_toArray, List.set_cons_zero, List.set_cons_succ]) | (apply t4_float rfl (by rfl); (· (intro w' hS; go_simp <;> with_reducible rfl)); (try simp only [Act.put, List.setIfInBounds_toArray, List.set_cons_zero, List.set_cons_succ]))))
                  (try (rw [HD4.out]; (repeat (first | (apply t4_skip rfl (by rfl); try simp only [Act.put, List.setIfInBounds_toArray, List.set_cons_zero, List.set_cons_succ]) | (apply t4_float rfl (by rfl); (· (intro w' hS; go_simp <;> with_reducible rfl)); (try simp only [Act.put, List.setIfInBounds_toArray, List.set_cons_zero, List.set_cons_succ]))))))
                  (try (rw [HD5.out]; (repeat (first | (apply t4_skip rfl (by rfl); try simp only [Act.put, List.setIfInBounds_toArray, List.set_cons_zero, List.set_cons_succ]) | (apply t4_float rfl (by rfl); (· (intro w' hS; go_simp <;> with_reducible rfl)); (try simp only [Act.put, List.setIfInBounds_toArray, List.set_cons_zero, List.set_cons_succ]))))))
                  refine t4_hard rfl (by rfl) (fun K hK => ?_)
                  go_wp2_with (go_at_call 62; refine (l00In_c vb 0 ((V : Int) - 1) _).mono ?_; rintro e w44 ⟨rfl, rfl, rfl⟩)
                  rw [HE2.out]
                  refine ⟨⟨hs40.cellAt 0 rfl 0 rfl, hs40.cellAt 0 rfl 1 rfl, hs40.cellAt 1 rfl 0 rfl, hs40.cellAt 1 rfl 1 rfl, cellL hs40.bel p0, cellL hs40.bel p1, cellL hs40.bel p2⟩, ?_⟩
                  (repeat (first | (apply t4_skip rfl (by rfl); try simp only [Act.put, List.setIfInBounds_toArray, List.set_cons_zero, List.set_cons_succ]) | (apply t4_float rfl (by rfl); (· (intro w' hS; go_simp <;> with_reducible rfl)); (try simp only [Act.put, List.setIfInBounds_toArray, List.set_cons_zero, List.set_cons_succ]))))
                  (try (rw [HD4.out]; (repeat (first | (apply t4_skip rfl (by rfl); try simp only [Act.put, List.setIfInBounds_toArray, List.set_cons_zero, List.set_cons_succ]) | (apply t4_float rfl (by rfl); (· (intro w' hS; go_simp <;> with_reducible rfl)); (try simp only [Act.put, List.setIfInBounds_toArray, List.set_cons_zero, List.set_cons_succ]))))))
                  (try (rw [HD5.out]; (repeat (first | (apply t4_skip rfl (by rfl); try simp only [Act.put, List.setIfInBounds_toArray, List.set_cons_zero, List.set_cons_succ]) | (apply t4_float rfl (by rfl); (· (intro w' hS; go_simp <;> with_reducible rfl)); (try simp only [Act.put, List.setIfInBounds_toArray, List.set_cons_zero, List.set_cons_succ]))))))
                  refine t4_hard rfl (by rfl) (fun K hK => ?_)
                  go_wp2_with (go_at_call 62; refine (l00In_c vc 0 ((V : Int) - 1) _).mono ?_; rintro e w45 ⟨rfl, rfl, rfl⟩)
                  rw [HE3.out]
                  refine ⟨⟨hs40.cellAt 0 rfl 0 rfl, hs40.cellAt 0 rfl 1 rfl, hs40.cellAt 1 rfl 0 rfl, hs40.cellAt 1 rfl 1 rfl, cellL hs40.bel p0, cellL hs40.bel p1, cellL hs40.bel p2⟩, ?_⟩
                  (repeat (first | (apply t4_skip rfl (by rfl); try simp only [Act.put, List.setIfInBounds_toArray, List.set_cons_zero, List.set_cons_succ]) | (apply t4_float rfl (by rfl); (· (intro w' hS; go_simp <;> with_reducible rfl)); (try simp only [Act.put, List.setIfInBounds_toArray, List.set_cons_zero, List.set_cons_succ]))))
                  (try (rw [HD4.out]; (repeat (first | (apply t4_skip rfl (by rfl); try simp only [Act.put, List.setIfInBounds_toArray, List.set_cons_zero, List.set_cons_succ]) | (apply t4_float rfl (by rfl); (· (intro w' hS; go_simp <;> with_reducible rfl)); (try simp only [Act.put, List.setIfInBounds_toArray, List.set_cons_zero, List.set_cons_succ]))))))
                  (try (rw [HD5.out]; (repeat (first | (apply t4_skip rfl (by rfl); try simp only [Act.put, List.setIfInBounds_toArray, List.set_cons_zero, List.set_cons_succ]) | (apply t4_float rfl (by rfl); (· (intro w' hS; go_simp <;> with_reducible rfl)); (try simp only [Act.put, List.setIfInBounds_toArray, List.set_cons_zero, List.set_cons_succ]))))))
                  have k0_0 := hs40.cellAt 0 rfl 0 rfl
                  have k0_1 := hs40.cellAt 0 rfl 1 rfl
                  have k1_0 := hs40.cellAt 1 rfl 0 rfl
                  have k1_1 := hs40.cellAt 1 rfl 1 rfl
                  have p0_ := cellL hs40.bel p0
                  have p1_ := cellL hs40.bel p1
                  have p2_ := cellL hs40.bel p2
                  refine t4_nil (NoPanic.normal ?_)
                  go_upto_region 9 with fail
                  refine wp_region_noPanic (wp_region_tree4 (fun w' => w'.cell? ⟨w.heap.size, 0, none⟩ = some (.int .i64 size) ∧ w'.cell? ⟨w.heap.size, 1, none⟩ = some (.slice at0 rs.length ct0) ∧ w'.cell? ⟨w.heap.size + 1, 0, none⟩ = some (.int .i64 V) ∧ w'.cell? ⟨w.heap.size + 1, 1, none⟩ = some (.slice ax cs.length cx) ∧ w'.cell? ⟨b, o + k * 3, none⟩ = some (.int .i64 va) ∧ w'.cell? ⟨b, o + k * 3 + 1, none⟩ = some (.int .i64 vb) ∧ w'.cell? ⟨b, o + k * 3 + 2, none⟩ = some (.int .i64 vc)) (.float 0 (.float 1 (.float 2 (.float 3 (.float 4 (.float 5 (.float 6 (.float 7 (.float 8 (.float 9 (.float 10 (.float 11 (.float 12 (.float 13 (.float 14 (.float 15 (.float 16 (.float 17 (.hard 18 (.float 19 (.float 20 .nil))))))))))))))))))))) (by kernel_rfl) (by kernel_rfl) (by kernel_rfl) rfl ?_ (fun _ _ _ _ _ h => h) ?_)
                  · exact ⟨(hs40.drew).cellAt 0 rfl 0 rfl, (hs40.drew).cellAt 0 rfl 1 rfl, (hs40.drew).cellAt 1 rfl 0 rfl, (hs40.drew).cellAt 1 rfl 1 rfl, cellL (hs40.drew).bel p0, cellL (hs40.drew).bel p1, cellL (hs40.drew).bel p2⟩
                  have hs46 := hs40.drew
                  have HBX_47 := Lib.hid (HBX_41.out.trans (((belowD _)).mono HBX_41.out.size))
                  clear HBX_41
                  clear k0_0 k0_1 k1_0 k1_1 p0_ p1_ p2_
                  have hz_wd48 : wd42.heap.size ≤ (wd42.drew).heap.size := by simp
                  generalize hgen_wd48 : wd42.drew = wd48 at *
                  have HG_wd48 := Lib.hid hgen_wd48
                  clear hgen_wd48
                  (repeat (first | (apply t4_skip rfl (by rfl); try simp only [Act.put, List.setIfInBounds_toArray, List.set_cons_zero, List.set_cons_succ]) | (apply t4_float rfl (by rfl); (· (intro w' hS; go_simp <;> with_reducible rfl)); (try simp only [Act.put, List.setIfInBounds_toArray, List.set_cons_zero, List.set_cons_succ]))))
                  (try (rw [HD4.out]; (repeat (first | (apply t4_skip rfl (by rfl); try simp only [Act.put, List.setIfInBounds_toArray, List.set_cons_zero, List.set_cons_succ]) | (apply t4_float rfl (by rfl); (· (intro w' hS; go_simp <;> with_reducible rfl)); (try simp only [Act.put, List.setIfInBounds_toArray, List.set_cons_zero, List.set_cons_succ]))))))
                  (try (rw [HD5.out]; (repeat (first | (apply t4_skip rfl (by rfl); try simp only [Act.put, List.setIfInBounds_toArray, List.set_cons_zero, List.set_cons_succ]) | (apply t4_float rfl (by rfl); (· (intro w' hS; go_simp <;> with_reducible rfl)); (try simp only [Act.put, List.setIfInBounds_toArray, List.set_cons_zero, List.set_cons_succ]))))))
                  refine t4_hskip rfl (by rfl) ?_ ?_
                  · exact ⟨hs46.cellAt 0 rfl 0 rfl, hs46.cellAt 0 rfl 1 rfl, hs46.cellAt 1 rfl 0 rfl, hs46.cellAt 1 rfl 1 rfl, cellL hs46.bel p0, cellL hs46.bel p1, cellL hs46.bel p2⟩
                  (try simp only [Act.put, List.setIfInBounds_toArray, List.set_cons_zero, List.set_cons_succ])
                  (repeat (first | (apply t4_skip rfl (by rfl); try simp only [Act.put, List.setIfInBounds_toArray, List.set_cons_zero, List.set_cons_succ]) | (apply t4_float rfl (by rfl); (· (intro w' hS; go_simp <;> with_reducible rfl)); (try simp only [Act.put, List.setIfInBounds_toArray, List.set_cons_zero, List.set_cons_succ]))))
                  (try (rw [HD4.out]; (repeat (first | (apply t4_skip rfl (by rfl); try simp only [Act.put, List.setIfInBounds_toArray, List.set_cons_zero, List.set_cons_succ]) | (apply t4_float rfl (by rfl); (· (intro w' hS; go_simp <;> with_reducible rfl)); (try simp only [Act.put, List.setIfInBounds_toArray, List.set_cons_zero, List.set_cons_succ]))))))
                  (try (rw [HD5.out]; (repeat (first | (apply t4_skip rfl (by rfl); try simp only [Act.put, List.setIfInBounds_toArray, List.set_cons_zero, List.set_cons_succ]) | (apply t4_float rfl (by rfl); (· (intro w' hS; go_simp <;> with_reducible rfl)); (try simp only [Act.put, List.setIfInBounds_toArray, List.set_cons_zero, List.set_cons_succ]))))))
                  have k0_0 := hs46.cellAt 0 rfl 0 rfl
                  have k0_1 := hs46.cellAt 0 rfl 1 rfl
                  have k1_0 := hs46.cellAt 1 rfl 0 rfl
                  have k1_1 := hs46.cellAt 1 rfl 1 rfl
                  have p0_ := cellL hs46.bel p0
                  have p1_ := cellL hs46.bel p1
                  have p2_ := cellL hs46.bel p2
                  have HBF := Lib.hid (hs46.bel.trans ((belowA wd48 (.cells #[] 116)).mono hs46.bel.size))
                  refine t4_nil (NoPanic.normal ?_)
                  go_wp2_with fail
                  refine bodyPost_ret (v := .tuple #[.slice (some ⟨wd48.heap.size, 0, none⟩) 0 0, .int .i64 k, .int .i64 8]) (by simp [results, Tryz.results13, go_sem]) rfl ⟨_, by rw [H2.out], by rw [H2.out]; exact fresh_noneQ (Nat.zero_le _), HBF.out⟩
                · have HD5 := Lib.hid (show (vc != vb) = true by simp [h5])
                  have hso := pairStep_yes (V := (V : Int)) (by rw [HWB.out]; exact h1) h2 h3 h4 h5
                  have hg := pairStep_get hso (by omega)
                  have HSO := Lib.hid hso
                  clear hso h1 h2 h3 h4 h5
                  go_upto_region 8 with fail
                  refine wp_region_noPanic (wp_region_tree4 (fun w' => w'.cell? ⟨w.heap.size, 0, none⟩ = some (.int .i64 size) ∧ w'.cell? ⟨w.heap.size, 1, none⟩ = some (.slice at0 rs.length ct0) ∧ w'.cell? ⟨w.heap.size + 1, 0, none⟩ = some (.int .i64 V) ∧ w'.cell? ⟨w.heap.size + 1, 1, none⟩ = some (.slice ax cs.length cx) ∧ w'.cell? ⟨b, o + k * 3, none⟩ = some (.int .i64 va) ∧ w'.cell? ⟨b, o + k * 3 + 1, none⟩ = some (.int .i64 vb) ∧ w'.cell? ⟨b, o + k * 3 + 2, none⟩ = some (.int .i64 vc)) (.float 0 (.float 1 (.float 2 (.float 3 (.float 4 (.float 5 (.float 6 (.float 7 (.float 8 (.hard 9 (.float 10 (.float 11 (.float 12 (.float 13 (.float 14 (.float 15 (.float 16 (.float 17 (.hard 18 (.float 19 (.float 20 (.float 21 (.float 22 (.float 23 (.float 24 (.float 25 (.float 26 (.float 27 (.hard 28 (.float 29 (.float 30 (.float 31 (.float 32 (.float 33 (.float 34 (.float 35 (.float 36 (.float 37 (.float 38 (.float 39 (.float 40 (.float 41 (.float 42 (.float 43 (.float 44 (.float 45 (.float 46 (.float 47 (.float 48 (.float 49 (.float 50 (.float 51 (.float 52 .nil))))))))))))))))))))))))))))))))))))))))))))))))))))) (by kernel_rfl) (by kernel_rfl) (by kernel_rfl) rfl ?_ (fun _ _ _ _ _ h => h) ?_)
                  · exact ⟨(hs1.drew).cellAt 0 rfl 0 rfl, (hs1.drew).cellAt 0 rfl 1 rfl, (hs1.drew).cellAt 1 rfl 0 rfl, (hs1.drew).cellAt 1 rfl 1 rfl, cellL (hs1.drew).bel p0, cellL (hs1.drew).bel p1, cellL (hs1.drew).bel p2⟩
                  have hs49 := hs1.drew
                  have HBX_50 := Lib.hid (HBX.out.trans (((belowD _)).mono HBX.out.size))
                  clear HBX
                  clear k0_0 k0_1 k1_0 k1_1 p0_ p1_ p2_
                  have hz_wd51 : wr.heap.size ≤ (wr.drew).heap.size := by simp
                  generalize hgen_wd51 : wr.drew = wd51 at *
                  have HG_wd51 := Lib.hid hgen_wd51
                  clear hgen_wd51
                  (repeat (first | (apply t4_skip rfl (by rfl); try simp only [Act.put, List.setIfInBounds_toArray, List.set_cons_zero, List.set_cons_succ]) | (apply t4_float rfl (by rfl); (· (intro w' hS; go_simp <;> with_reducible rfl)); (try simp only [Act.put, List.setIfInBounds_toArray, List.set_cons_zero, List.set_cons_succ]))))
                  (try (rw [HD4.out]; (repeat (first | (apply t4_skip rfl (by rfl); try simp only [Act.put, List.setIfInBounds_toArray, List.set_cons_zero, List.set_cons_succ]) | (apply t4_float rfl (by rfl); (· (intro w' hS; go_simp <;> with_reducible rfl)); (try simp only [Act.put, List.setIfInBounds_toArray, List.set_cons_zero, List.set_cons_succ]))))))
                  (try (rw [HD5.out]; (repeat (first | (apply t4_skip rfl (by rfl); try simp only [Act.put, List.setIfInBounds_toArray, List.set_cons_zero, List.set_cons_succ]) | (apply t4_float rfl (by rfl); (· (intro w' hS; go_simp <;> with_reducible rfl)); (try simp only [Act.put, List.setIfInBounds_toArray, List.set_cons_zero, List.set_cons_succ]))))))
                  refine t4_hard rfl (by rfl) (fun K hK => ?_)
                  go_wp2_with (go_at_call 62; refine (l00In_c va 0 WB _).mono ?_; rintro e w52 ⟨rfl, rfl, rfl⟩)
                  rw [HE.out]
                  refine ⟨⟨hs49.cellAt 0 rfl 0 rfl, hs49.cellAt 0 rfl 1 rfl, hs49.cellAt 1 rfl 0 rfl, hs49.cellAt 1 rfl 1 rfl, cellL hs49.bel p0, cellL hs49.bel p1, cellL hs49.bel p2⟩, ?_⟩
                  (repeat (first | (apply t4_skip rfl (by rfl); try simp only [Act.put, List.setIfInBounds_toArray, List.set_cons_zero, List.set_cons_succ]) | (apply t4_float rfl (by rfl); (· (intro w' hS; go_simp <;> with_reducible rfl)); (try simp only [Act.put, List.setIfInBounds_toArray, List.set_cons_zero, List.set_cons_succ]))))
                  (try (rw [HD4.out]; (repeat (first | (apply t4_skip rfl (by rfl); try simp only [Act.put, List.setIfInBounds_toArray, List.set_cons_zero, List.set_cons_succ]) | (apply t4_float rfl (by rfl); (· (intro w' hS; go_simp <;> with_reducible rfl)); (try simp only [Act.put, List.setIfInBounds_toArray, List.set_cons_zero, List.set_cons_succ]))))))
                  (try (rw [HD5.out]; (repeat (first | (apply t4_skip rfl (by rfl); try simp only [Act.put, List.setIfInBounds_toArray, List.set_cons_zero, List.set_cons_succ]) | (apply t4_float rfl (by rfl); (· (intro w' hS; go_simp <;> with_reducible rfl)); (try simp only [Act.put, List.setIfInBounds_toArray, List.set_cons_zero, List.set_cons_succ]))))))
                  refine t4_hard rfl (by rfl) (fun K hK => ?_)
                  go_wp2_with (go_at_call 62; refine (l00In_c vb 0 ((V : Int) - 1) _).mono ?_; rintro e w53 ⟨rfl, rfl, rfl⟩)
                  rw [HE2.out]
                  refine ⟨⟨hs49.cellAt 0 rfl 0 rfl, hs49.cellAt 0 rfl 1 rfl, hs49.cellAt 1 rfl 0 rfl, hs49.cellAt 1 rfl 1 rfl, cellL hs49.bel p0, cellL hs49.bel p1, cellL hs49.bel p2⟩, ?_⟩
                  (repeat (first | (apply t4_skip rfl (by rfl); try simp only [Act.put, List.setIfInBounds_toArray, List.set_cons_zero, List.set_cons_succ]) | (apply t4_float rfl (by rfl); (· (intro w' hS; go_simp <;> with_reducible rfl)); (try simp only [Act.put, List.setIfInBounds_toArray, List.set_cons_zero, List.set_cons_succ]))))
                  (try (rw [HD4.out]; (repeat (first | (apply t4_skip rfl (by rfl); try simp only [Act.put, List.setIfInBounds_toArray, List.set_cons_zero, List.set_cons_succ]) | (apply t4_float rfl (by rfl); (· (intro w' hS; go_simp <;> with_reducible rfl)); (try simp only [Act.put, List.setIfInBounds_toArray, List.set_cons_zero, List.set_cons_succ]))))))
                  (try (rw [HD5.out]; (repeat (first | (apply t4_skip rfl (by rfl); try simp only [Act.put, List.setIfInBounds_toArray, List.set_cons_zero, List.set_cons_succ]) | (apply t4_float rfl (by rfl); (· (intro w' hS; go_simp <;> with_reducible rfl)); (try simp only [Act.put, List.setIfInBounds_toArray, List.set_cons_zero, List.set_cons_succ]))))))
                  refine t4_hard rfl (by rfl) (fun K hK => ?_)
                  go_wp2_with (go_at_call 62; refine (l00In_c vc 0 ((V : Int) - 1) _).mono ?_; rintro e w54 ⟨rfl, rfl, rfl⟩)
                  rw [HE3.out]
                  refine ⟨⟨hs49.cellAt 0 rfl 0 rfl, hs49.cellAt 0 rfl 1 rfl, hs49.cellAt 1 rfl 0 rfl, hs49.cellAt 1 rfl 1 rfl, cellL hs49.bel p0, cellL hs49.bel p1, cellL hs49.bel p2⟩, ?_⟩
                  (repeat (first | (apply t4_skip rfl (by rfl); try simp only [Act.put, List.setIfInBounds_toArray, List.set_cons_zero, List.set_cons_succ]) | (apply t4_float rfl (by rfl); (· (intro w' hS; go_simp <;> with_reducible rfl)); (try simp only [Act.put, List.setIfInBounds_toArray, List.set_cons_zero, List.set_cons_succ]))))
                  (try (rw [HD4.out]; (repeat (first | (apply t4_skip rfl (by rfl); try simp only [Act.put, List.setIfInBounds_toArray, List.set_cons_zero, List.set_cons_succ]) | (apply t4_float rfl (by rfl); (· (intro w' hS; go_simp <;> with_reducible rfl)); (try simp only [Act.put, List.setIfInBounds_toArray, List.set_cons_zero, List.set_cons_succ]))))))
                  (try (rw [HD5.out]; (repeat (first | (apply t4_skip rfl (by rfl); try simp only [Act.put, List.setIfInBounds_toArray, List.set_cons_zero, List.set_cons_succ]) | (apply t4_float rfl (by rfl); (· (intro w' hS; go_simp <;> with_reducible rfl)); (try simp only [Act.put, List.setIfInBounds_toArray, List.set_cons_zero, List.set_cons_succ]))))))
                  have k0_0 := hs49.cellAt 0 rfl 0 rfl
                  have k0_1 := hs49.cellAt 0 rfl 1 rfl
                  have k1_0 := hs49.cellAt 1 rfl 0 rfl
                  have k1_1 := hs49.cellAt 1 rfl 1 rfl
                  have p0_ := cellL hs49.bel p0
                  have p1_ := cellL hs49.bel p1
                  have p2_ := cellL hs49.bel p2
                  refine t4_nil (NoPanic.normal ?_)
                  obtain ⟨i, rfl⟩ : ∃ n : Nat, va = (n : Int) := ⟨va.toNat, by omega⟩
                  obtain ⟨j, rfl⟩ : ∃ n : Nat, vb = (n : Int) := ⟨vb.toNat, by omega⟩
                  obtain ⟨q, rfl⟩ : ∃ n : Nat, vc = (n : Int) := ⟨vc.toNat, by omega⟩
                  have hij : i < j := by omega
                  have hjV : j < V := by omega
                  have hqV : q < V := by omega
                  have HQI := Lib.hid (show q ≠ i by omega)
                  have HQJ := Lib.hid (show q ≠ j by omega)
                  have HZL := Lib.hid (show 0 < P.length from by rw [hpk.out.len]; exact tri_posQ hij hjV)
                  have HPO := Lib.hid (show pairOkB size V P ((i : Int), (j : Int), (q : Int)) = goneB size P i j q by unfold pairOkB; rw [HSO.out]; rfl)
                  have HNO := Lib.hid (narrow_ok (k := q) hpk.out hij hjV)
                  clear hg
                  go_upto_region 9 with fail
                  refine wp_region_noPanic (wp_region_tree4 (fun w' => w'.cell? ⟨w.heap.size, 0, none⟩ = some (.int .i64 size) ∧ w'.cell? ⟨w.heap.size, 1, none⟩ = some (.slice at0 rs.length ct0) ∧ w'.cell? ⟨w.heap.size + 1, 0, none⟩ = some (.int .i64 V) ∧ w'.cell? ⟨w.heap.size + 1, 1, none⟩ = some (.slice ax cs.length cx) ∧ w'.cell? ⟨b, o + k * 3, none⟩ = some (.int .i64 (i : Int)) ∧ w'.cell? ⟨b, o + k * 3 + 1, none⟩ = some (.int .i64 (j : Int)) ∧ w'.cell? ⟨b, o + k * 3 + 2, none⟩ = some (.int .i64 (q : Int))) (.float 0 (.float 1 (.float 2 (.float 3 (.float 4 (.float 5 (.float 6 (.float 7 (.float 8 (.float 9 (.float 10 (.float 11 (.float 12 (.float 13 (.float 14 (.float 15 (.float 16 (.float 17 (.hard 18 (.float 19 (.float 20 .nil))))))))))))))))))))) (by kernel_rfl) (by kernel_rfl) (by kernel_rfl) rfl ?_ (fun _ _ _ _ _ h => h) ?_)
                  · exact ⟨(hs49.drew).cellAt 0 rfl 0 rfl, (hs49.drew).cellAt 0 rfl 1 rfl, (hs49.drew).cellAt 1 rfl 0 rfl, (hs49.drew).cellAt 1 rfl 1 rfl, cellL (hs49.drew).bel p0, cellL (hs49.drew).bel p1, cellL (hs49.drew).bel p2⟩
                  have hs55 := hs49.drew
                  have HBX_56 := Lib.hid (HBX_50.out.trans (((belowD _)).mono HBX_50.out.size))
                  clear HBX_50
                  clear k0_0 k0_1 k1_0 k1_1 p0_ p1_ p2_
                  have hz_wd57 : wd51.heap.size ≤ (wd51.drew).heap.size := by simp
                  generalize hgen_wd57 : wd51.drew = wd57 at *
                  have HG_wd57 := Lib.hid hgen_wd57
                  clear hgen_wd57
                  (repeat (first | (apply t4_skip rfl (by rfl); try simp only [Act.put, List.setIfInBounds_toArray, List.set_cons_zero, List.set_cons_succ]) | (apply t4_float rfl (by rfl); (· (intro w' hS; go_simp <;> with_reducible rfl)); (try simp only [Act.put, List.setIfInBounds_toArray, List.set_cons_zero, List.set_cons_succ]))))
                  (try (rw [HD4.out]; (repeat (first | (apply t4_skip rfl (by rfl); try simp only [Act.put, List.setIfInBounds_toArray, List.set_cons_zero, List.set_cons_succ]) | (apply t4_float rfl (by rfl); (· (intro w' hS; go_simp <;> with_reducible rfl)); (try simp only [Act.put, List.setIfInBounds_toArray, List.set_cons_zero, List.set_cons_succ]))))))
                  (try (rw [HD5.out]; (repeat (first | (apply t4_skip rfl (by rfl); try simp only [Act.put, List.setIfInBounds_toArray, List.set_cons_zero, List.set_cons_succ]) | (apply t4_float rfl (by rfl); (· (intro w' hS; go_simp <;> with_reducible rfl)); (try simp only [Act.put, List.setIfInBounds_toArray, List.set_cons_zero, List.set_cons_succ]))))))
                  refine t4_hard rfl (by rfl) (fun K hK => ?_)
                  go_wp2_with (go_at_call 63; refine (l05Through_c size V P i j q vp _ _ (hw.out.step HBX_56.out).dom hpk.out hsz (by omega) hij hjV hqV HQI.out HQJ.out).mono ?_; rintro e w6 ⟨rfl, hI6, hB6⟩)
                  have HW6 := Lib.hid ((hw.out.step HBX_56.out).cut HZL.out hB6 hI6)
                  have hs6 := HW6.out.st
                  clear hI6 hB6
                  clear HBX_56
                  refine ⟨⟨hs6.cellAt 0 rfl 0 rfl, hs6.cellAt 0 rfl 1 rfl, hs6.cellAt 1 rfl 0 rfl, hs6.cellAt 1 rfl 1 rfl, cellL hs6.bel p0, cellL hs6.bel p1, cellL hs6.bel p2⟩, ?_⟩
                  (repeat (first | (apply t4_skip rfl (by rfl); try simp only [Act.put, List.setIfInBounds_toArray, List.set_cons_zero, List.set_cons_succ]) | (apply t4_float rfl (by rfl); (· (intro w' hS; go_simp <;> with_reducible rfl)); (try simp only [Act.put, List.setIfInBounds_toArray, List.set_cons_zero, List.set_cons_succ]))))
                  (try (rw [HD4.out]; (repeat (first | (apply t4_skip rfl (by rfl); try simp only [Act.put, List.setIfInBounds_toArray, List.set_cons_zero, List.set_cons_succ]) | (apply t4_float rfl (by rfl); (· (intro w' hS; go_simp <;> with_reducible rfl)); (try simp only [Act.put, List.setIfInBounds_toArray, List.set_cons_zero, List.set_cons_succ]))))))
                  (try (rw [HD5.out]; (repeat (first | (apply t4_skip rfl (by rfl); try simp only [Act.put, List.setIfInBounds_toArray, List.set_cons_zero, List.set_cons_succ]) | (apply t4_float rfl (by rfl); (· (intro w' hS; go_simp <;> with_reducible rfl)); (try simp only [Act.put, List.setIfInBounds_toArray, List.set_cons_zero, List.set_cons_succ]))))))
                  have k0_0 := hs6.cellAt 0 rfl 0 rfl
                  have k0_1 := hs6.cellAt 0 rfl 1 rfl
                  have k1_0 := hs6.cellAt 1 rfl 0 rfl
                  have k1_1 := hs6.cellAt 1 rfl 1 rfl
                  have p0_ := cellL hs6.bel p0
                  have p1_ := cellL hs6.bel p1
                  have p2_ := cellL hs6.bel p2
                  cases hgb : goneB size P i j q with
                  | false =>
                    have H2 := Lib.hid (HFL.out (by rw [HPO.out, hgb]))
                    have HBF := Lib.hid (hs6.bel.trans ((belowA w6 (.cells #[] 116)).mono hs6.bel.size))
                    clear hgb
                    refine t4_nil (NoPanic.normal ?_)
                    go_wp2_with fail
                    refine bodyPost_ret (v := .tuple #[.slice (some ⟨w6.heap.size, 0, none⟩) 0 0, .int .i64 k, .int .i64 8]) (by simp [results, Tryz.results13, go_sem]) rfl ⟨_, by rw [H2.out], by rw [H2.out]; exact fresh_noneQ (Nat.zero_le _), HBF.out⟩
                  | true =>
                    have HNX := Lib.hid (show replayP size V steps 0 P0 = replayP size V (steps.drop (k + 1)) (k + 1) (narrowP size P i j q) by rw [hrun.out, HDR.out, HPO.out, hgb]; rfl)
                    clear hgb
                    refine t4_nil (NoPanic.normal ?_)
                    go_wp2_with fail
                    go_roundw
                    case rel => exact ⟨k + 1, _, by omega, by go_num, HW6.out, HNO.out, HNX.out⟩
                    case measure => simp [intOf]; omega
      · obtain rfl : k = steps.length := by omega
        have hnl : ¬ ((steps.length : Int) < steps.length) := by omega
        have H2 := Lib.hid (show replayPF (size, rs) ((V : Int), cs) steps = (P, 0, 0) by rw [H1.out, hrun.out, List.drop_length]; rfl)
        have HFR := Lib.hid (show Fresh w.heap.size wr [vp] P from hw.out.dom.fresh (fun z hz => hz.1))
        have HBF := Lib.hid hw.out.st.bel
        go_wp2_with fail
        refine bodyPost_ret (v := .tuple #[vp, .int .i64 0, .int .i64 0]) (by simp [results, Tryz.results13, go_sem]) rfl ⟨_, by rw [H2.out], by rw [H2.out]; exact HFR.out, HBF.out⟩

end Go.Proofs.YtjkjfjpajmjglaaGreat
