import Derived.Test.YtpkdiiagnplpkaaGreatTernQm
import Derived.Laws.Rows
import Derived.Test.YtpkdiiagnplpkaaGreatSemiBQm
set_option linter.unusedSimpArgs false
set_option linter.unusedVariables false
set_option maxHeartbeats 4000000
set_option maxRecDepth 100000
namespace Go.Proofs.YtpkdiiagnplpkaaGreat
open Go.RowKit Go.Shelf Go.IntWalk
open Rep (Rd Own sz)
theorem isTernary_c (size : Int) (f : OpT) (g : Nat) (WT : Int → Int → Int × Int × Int) (v0 v1 : Value) (w : World) (hf : Rd w [v0, v1] f) (hok : opOk size f = true)
 (eg : ∀ args w, (callFunc g args).run Tryz.prog w = .ok (.enter g args) w) (hw : WantC g WT) (hI : ∀ x y, 0 ≤ x → x < size → 0 ≤ y → y < size → I64 (WT x y).1 ∧ I64 (WT x y).2.1 ∧ I64 (WT x y).2.2) :
 Calls Tryz.prog 132 #[.int .i64 size, .agg #[v0, v1], .func (.func g) #[] #[]] w fun e w' => e = .returned (.bool (ternB size f WT)) ∧ Below w.heap.size w w' := by
 have hs := (opOk_get hok).1
 obtain ⟨ar, tb⟩ := f
 have HF := qH hf
 have HOK := qH hok
 have zf := rd_cons rfl hf
 obtain ⟨rfl, _⟩ := rd_i1 zf.1
 obtain ⟨at0, ct0, rfl, _⟩ := rd_list zf.2
 have hN : size ^ 2 = ((size.toNat * size.toNat : Nat) : Int) := by
  rw [Int.natCast_mul, Int.toNat_of_nonneg (by omega), Int.pow_succ, Int.pow_succ, Int.pow_zero, Int.one_mul]
 have hN2 : size.toNat * size.toNat ≤ 1000000 := Nat.le_trans (Nat.mul_le_mul (show size.toNat ≤ 4 by omega) (show size.toNat ≤ 4 by omega)) (by decide)
 have HN := qH hN
 have HN2 := qH hN2
 have HW := qH hw
 have HI9 := qH hI
 have HEG := qH eg
 have eg1 : ∀ args w, (callFunc 174 args).run Tryz.prog w = .ok (.enter 174 args) w := enters_of Tryz.func174 (by kernel_rfl) rfl
 clear hf zf hok hN hN2 hw hI eg
 have hs1 := (St.start w).alloc #[.int .i64 size] 2 (n := w.heap.size) (by simp)
 have k0_0 := hs1.c 0 0
 have hs2 := hs1.alloc #[.int .i64 ar, .slice at0 tb.length ct0] 48 (n := w.heap.size + 1) (by simp)
 clear k0_0
 obtain ⟨k0_0, k1_0, k1_1⟩ := hs2.c3 0 0 1 0 1 1
 have hs3 := hs2.alloc #[.func (.func g) #[] #[]] 161 (n := w.heap.size + 1 + 1) (by simp)
 clear k0_0 k1_0 k1_1
 obtain ⟨k0_0, k1_0, k1_1, k2_0⟩ := hs3.c4 0 0 1 0 1 1 2 0
 go_enter Tryz.func132, Tryz.ntmps132
 by_cases h3 : ar = 3
 · have H3 := qH h3
   have h3b : (ar == 3) = true := by simp [h3]
   clear h3
   go_wp2_with fail
   refine (allLists_c size 2 174 _ _ _ _ (by omega) (by omega) (by omega) HN.out HN2.out eg1 (isTernary1_by size (ar, tb) (w.heap.size + 1) (w.heap.size) (w.heap.size + 1 + 1) g WT _ _ _ (Rd.mono HF.out hs3.bel) HOK.out H3.out (hs3.c 1 0) (hs3.c 1 1) (hs3.c 0 0) (hs3.c 2 0) HEG.out HW.out HI9.out)).mono ?_
   rintro e w5 ⟨rfl, hb5⟩
   have HB := qH (hs3.bel.trans (hb5.mono hs3.bel.size))
   have HQ := qH (show allL size 2 (size.toNat * size.toNat) (fun l => ternQ size (ar, tb) (WT (l.getD 0 0) (l.getD 1 0)) (l.getD 0 0) (l.getD 1 0)) = ternB size (ar, tb) WT by unfold ternB; rw [decide_eq_true (show (ar, tb).1 = 3 from H3.out), Bool.true_and])
   clear hb5
   rw [HQ.out]
   go_wp2_with fail
   go_ret
   exact ⟨rfl, HB.out⟩
 · have h3b : (ar == 3) = false := by simp [h3]
   have HQ := qH (show ternB size (ar, tb) WT = false by unfold ternB; rw [decide_eq_false (show ¬ (ar, tb).1 = 3 from h3), Bool.false_and])
   clear h3
   go_wp2_with fail
   go_ret
   exact ⟨ret_bool HQ.out.symm, hs3.bel⟩
theorem results_arr3 {fn : Func} {a : Tmp} (h : fn.results = #[.cell a 160]) (tmps : Array Value) (w : World) (b : Nat) (t : TypeId) {x y z : Value} {fr : Nat × Nat} (ha : tmps.getD a undef = .pointer (some ⟨b, 0, none⟩)) (hb : w.heap[b]? = some (.cells #[x, y, z] t fr)) :
 (results fn tmps).run Tryz.prog w = .ok (.agg #[x, y, z]) w := by
 have e := run_loadVar_row (P := Tryz.prog) w b t 160 #[x, y, z] fr (.array 3 2) hb (by kernel_rfl) rfl (by kernel_rfl)
 have ha9 : tmps[a]?.getD undef = .pointer (some ⟨b, 0, none⟩) := by simpa using ha
 simp [results, h, ha9, asAddr, e]
theorem isKind4_c : WantC 133 (wantM true false) := by
 intro w x y hx hy
 go_enter Tryz.func133, Tryz.ntmps133
 go_wp2_with fail
 try simp only [Exit.inBlock, Exit.then]
 refine bodyPost_ret (results_arr3 rfl _ _ _ _ rfl (heap_alloc_new _ _)) rfl ⟨rfl, belowA w _⟩
theorem isKindM_c (size : Int) (f : OpT) (v0 v1 : Value) (w : World) (hf : Rd w [v0, v1] f) (hok : opOk size f = true) :
 Calls Tryz.prog 72 #[.int .i64 size, .agg #[v0, v1], .int .i64 7] w fun e w' => e = .returned (.bool (majB size f)) ∧ Below w.heap.size w w' := by
 have hs := (opOk_get hok).1
 obtain ⟨ar, tb⟩ := f
 have HF := qH hf
 have HOK := qH hok
 have zf := rd_cons rfl hf
 obtain ⟨rfl, _⟩ := rd_i1 zf.1
 obtain ⟨at0, ct0, rfl, _⟩ := rd_list zf.2
 have eg1 : ∀ args w, (callFunc 133 args).run Tryz.prog w = .ok (.enter 133 args) w := enters_of Tryz.func133 (by kernel_rfl) rfl
 have HI9 := qH (show ∀ x y, 0 ≤ x → x < size → 0 ≤ y → y < size → I64 (wantM true false x y).1 ∧ I64 (wantM true false x y).2.1 ∧ I64 (wantM true false x y).2.2 from fun x y h1 h2 h3 h4 => by
  have : I64 x := by unfold I64; omega
  exact ⟨this, this, this⟩)
 have HT := qH (tern_third hs.1 (ar, tb) true false)
 clear hf zf hok
 have hs4 := (St.start w).alloc #[.int .i64 size] 2 (n := w.heap.size) (by simp)
 have k0_0 := hs4.c 0 0
 have hs5 := hs4.alloc #[.int .i64 ar, .slice at0 tb.length ct0] 48 (n := w.heap.size + 1) (by simp)
 clear k0_0
 obtain ⟨k0_0, k1_0, k1_1⟩ := hs5.c3 0 0 1 0 1 1
 go_enter Tryz.func72, Tryz.ntmps72
 go_wp2_with fail
 refine (isTernary_c size (ar, tb) 133 (wantM true false) _ _ _ (Rd.mono HF.out hs5.bel) HOK.out eg1 isKind4_c HI9.out).mono ?_
 rintro e w6 ⟨rfl, hbw6⟩
 have hz_w6 : w.heap.size + 1 + 1 ≤ w6.heap.size := by have h9 := hbw6.size; (try simp at h9); omega
 have hs7 := hs5.step hbw6
 clear k0_0 k1_0 k1_1
 obtain ⟨k0_0, k1_0, k1_1⟩ := hs7.c3 0 0 1 0 1 1
 go_wp2_with fail
 go_ret
 exact ⟨ret_bool HT.out, hs7.bel⟩
theorem solverFaultM_c (t : Tmpl) (x : Inst) (f : OpT) (t0 t1 x0 x1 f0 f1 : Value) (w : World) (ht : Rd w [t0, t1] t) (hx : Rd w [x0, x1] x) (hf : Rd w [f0, f1] f) :
 Calls Tryz.prog 35 #[.agg #[t0, t1], .agg #[x0, x1], .agg #[f0, f1], .int .i64 7] w fun e w' => e = .returned (.int .i64 (wayF (majB t.1 f) t x f)) ∧ Below w.heap.size w w' := by
 obtain ⟨size, rs⟩ := t
 obtain ⟨vars, cs⟩ := x
 obtain ⟨fa, ft⟩ := f
 have HT := qH ht
 have HX := qH hx
 have HF := qH hf
 have zt := rd_cons rfl ht
 obtain ⟨rfl, _⟩ := rd_i1 zt.1
 obtain ⟨at0, ct0, rfl, _⟩ := rd_list zt.2
 have zx := rd_cons rfl hx
 obtain ⟨rfl, _⟩ := rd_i1 zx.1
 obtain ⟨ax, cx, rfl, _⟩ := rd_list zx.2
 have zf := rd_cons rfl hf
 obtain ⟨rfl, _⟩ := rd_i1 zf.1
 obtain ⟨af, cf, rfl, _⟩ := rd_list zf.2
 clear ht hx hf zt zx zf
 have hs8 := (St.start w).alloc #[.int .i64 size, .slice at0 rs.length ct0] 42 (n := w.heap.size) (by simp)
 obtain ⟨k0_0, k0_1⟩ := hs8.c2 0 0 0 1
 have hs9 := hs8.alloc #[.int .i64 vars, .slice ax cs.length cx] 46 (n := w.heap.size + 1) (by simp)
 clear k0_0 k0_1
 obtain ⟨k0_0, k0_1, k1_0, k1_1⟩ := hs9.c4 0 0 0 1 1 0 1 1
 have hs10 := hs9.alloc #[.int .i64 fa, .slice af ft.length cf] 48 (n := w.heap.size + 1 + 1) (by simp)
 clear k0_0 k0_1 k1_0 k1_1
 obtain ⟨k0_0, k0_1, k1_0, k1_1, k2_0, k2_1⟩ := hs10.c6 0 0 0 1 1 0 1 1 2 0 2 1
 go_enter Tryz.func35, Tryz.ntmps35
 go_wp2_with fail
 refine (ValidInstance_c (size, rs) (vars, cs) _ _ _ _ _ (Rd.mono HT.out hs10.bel) (Rd.mono HX.out hs10.bel)).mono ?_
 rintro e w11 ⟨rfl, hbw11⟩
 have hz_w11 : w.heap.size + 1 + 1 + 1 ≤ w11.heap.size := by have h9 := hbw11.size; (try simp at h9); omega
 have hs12 := hs10.step hbw11
 clear k0_0 k0_1 k1_0 k1_1 k2_0 k2_1
 obtain ⟨k0_0, k0_1, k1_0, k1_1, k2_0, k2_1⟩ := hs12.c6 0 0 0 1 1 0 1 1 2 0 2 1
 cases h1 : instOk (size, rs) (vars, cs) with
 | false =>
  have H9 := qH (show wayF (majB size (fa, ft)) (size, rs) (vars, cs) (fa, ft) = 1 by unfold wayF; rw [h1]; rfl)
  clear h1
  go_wp2_with fail
  go_ret
  exact ⟨ret_int H9.out.symm, hs12.bel⟩
 | true =>
  have H1 := qH h1
  clear h1
  go_wp2_with fail
  refine (ValidOp_c size (fa, ft) _ _ _ (Rd.mono HF.out hs12.bel)).mono ?_
  rintro e w13 ⟨rfl, hbw13⟩
  have hz_w13 : w11.heap.size ≤ w13.heap.size := by have h9 := hbw13.size; (try simp at h9); omega
  have hs14 := hs12.step hbw13
  clear k0_0 k0_1 k1_0 k1_1 k2_0 k2_1
  obtain ⟨k0_0, k0_1, k1_0, k1_1, k2_0, k2_1⟩ := hs14.c6 0 0 0 1 1 0 1 1 2 0 2 1
  cases h2 : opOk size (fa, ft) with
  | false =>
   have H9 := qH (show wayF (majB size (fa, ft)) (size, rs) (vars, cs) (fa, ft) = 1 by unfold wayF; rw [H1.out, h2]; rfl)
   clear h2
   go_wp2_with fail
   go_ret
   exact ⟨ret_int H9.out.symm, hs14.bel⟩
  | true =>
   have H2 := qH h2
   clear h2
   go_wp2_with fail
   refine (isKindM_c size (fa, ft) _ _ _ (Rd.mono HF.out hs14.bel) H2.out).mono ?_
   rintro e w15 ⟨rfl, hbw15⟩
   have hz_w15 : w13.heap.size ≤ w15.heap.size := by have h9 := hbw15.size; (try simp at h9); omega
   have hs16 := hs14.step hbw15
   clear k0_0 k0_1 k1_0 k1_1 k2_0 k2_1
   obtain ⟨k0_0, k0_1, k1_0, k1_1, k2_0, k2_1⟩ := hs16.c6 0 0 0 1 1 0 1 1 2 0 2 1
   cases h3 : majB size (fa, ft) with
   | false =>
    have H9 := qH (show wayF (majB size (fa, ft)) (size, rs) (vars, cs) (fa, ft) = 4 by unfold wayF; rw [H1.out, H2.out, h3]; rfl)
    clear h3
    go_wp2_with fail
    go_ret
    exact ⟨ret_int H9.out.symm, hs16.bel⟩
   | true =>
    have H3 := qH h3
    clear h3
    go_wp2_with fail
    refine (isKept_c (size, rs) (fa, ft) _ _ _ _ _ (Rd.mono HT.out hs16.bel) (Rd.mono HF.out hs16.bel) H2.out (tmplOk_get (instOk_get H1.out).1).2.2).mono ?_
    rintro e w17 ⟨rfl, hbw17⟩
    have hz_w17 : w15.heap.size ≤ w17.heap.size := by have h9 := hbw17.size; (try simp at h9); omega
    have hs18 := hs16.step hbw17
    clear k0_0 k0_1 k1_0 k1_1 k2_0 k2_1
    obtain ⟨k0_0, k0_1, k1_0, k1_1, k2_0, k2_1⟩ := hs18.c6 0 0 0 1 1 0 1 1 2 0 2 1
    cases h4 : decide (brokenF (size, rs) (fa, ft) < 0) with
    | false =>
     have H9 := qH (show wayF (majB size (fa, ft)) (size, rs) (vars, cs) (fa, ft) = 4 by unfold wayF; rw [H1.out, H2.out, H3.out, h4]; rfl)
     clear h4
     go_wp2_with fail
     go_ret
     exact ⟨ret_int H9.out.symm, hs18.bel⟩
    | true =>
     have H9 := qH (show wayF (majB size (fa, ft)) (size, rs) (vars, cs) (fa, ft) = 0 by unfold wayF; rw [H1.out, H2.out, H3.out, h4]; rfl)
     clear h4
     go_wp2_with fail
     go_ret
     exact ⟨ret_int H9.out.symm, hs18.bel⟩
end Go.Proofs.YtpkdiiagnplpkaaGreat
