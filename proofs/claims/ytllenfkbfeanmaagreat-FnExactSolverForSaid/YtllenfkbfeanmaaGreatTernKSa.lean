/-
  CONTRACTS: operations of three places: isTernary, isKind at 7; the code of a template, an instance and an operation; the program's side.
-/
import Derived.Test.YtllenfkbfeanmaaGreatTernSa
import Derived.Laws.Rows
import Derived.Test.YtllenfkbfeanmaaGreatSemiBSa
namespace Go.Proofs.YtllenfkbfeanmaaGreat
open Go.RowKit Go.Shelf Go.IntWalk
open Rep (Rd Own sz)
set_option linter.unusedSimpArgs false
set_option linter.unusedVariables false

set_option maxRecDepth 100000 in
set_option maxHeartbeats 4000000 in
theorem isTernary_c (size : Int) (f : OpT) (g : Nat) (WT : Int → Int → Int × Int × Int) (v0 v1 : Value) (w : World) (hf : Rd w [v0, v1] f) (hok : opOk size f = true)
    (eg : ∀ args w, (callFunc g args).run Tryz.prog w = .ok (.enter g args) w) (hw : WantC g WT) (hI : ∀ x y, 0 ≤ x → x < size → 0 ≤ y → y < size → I64 (WT x y).1 ∧ I64 (WT x y).2.1 ∧ I64 (WT x y).2.2) :
    Calls Tryz.prog 171 #[.int .i64 size, .agg #[v0, v1], .func (.func g) #[] #[]] w fun e w' => e = .returned (.bool (ternB size f WT)) ∧ Below w.heap.size w w' := by
  have hs := (opOk_get hok).1
  obtain ⟨ar, tb⟩ := f
  have HF := Lib.hid hf
  have HOK := Lib.hid hok
  have zf := rd_cons rfl hf
  obtain ⟨rfl, _⟩ := rd_i1 zf.1
  obtain ⟨at0, ct0, rfl, _⟩ := rd_list zf.2
  have hN : size ^ 2 = ((size.toNat * size.toNat : Nat) : Int) := by
    rw [Int.natCast_mul, Int.toNat_of_nonneg (by omega), Int.pow_succ, Int.pow_succ, Int.pow_zero, Int.one_mul]
  have hN2 : size.toNat * size.toNat ≤ 1000000 := Nat.le_trans (Nat.mul_le_mul (show size.toNat ≤ 4 by omega) (show size.toNat ≤ 4 by omega)) (by decide)
  have HN := Lib.hid hN
  have HN2 := Lib.hid hN2
  have HW := Lib.hid hw
  have HI9 := Lib.hid hI
  have HEG := Lib.hid eg
  have eg1 : ∀ args w, (callFunc 194 args).run Tryz.prog w = .ok (.enter 194 args) w := enters_of Tryz.func194 (by kernel_rfl) rfl
  clear hf zf hok hN hN2 hw hI eg
  have hs1 := (St.start w).alloc #[.int .i64 size] 2 (n := w.heap.size) (by simp)
  have k0_0 := hs1.cellAt 0 rfl 0 rfl
  have hs2 := hs1.alloc #[.int .i64 ar, .slice at0 tb.length ct0] 34 (n := w.heap.size + 1) (by simp)
  clear k0_0
  have k0_0 := hs2.cellAt 0 rfl 0 rfl
  have k1_0 := hs2.cellAt 1 rfl 0 rfl
  have k1_1 := hs2.cellAt 1 rfl 1 rfl
  have hs3 := hs2.alloc #[.func (.func g) #[] #[]] 191 (n := w.heap.size + 1 + 1) (by simp)
  clear k0_0 k1_0 k1_1
  have k0_0 := hs3.cellAt 0 rfl 0 rfl
  have k1_0 := hs3.cellAt 1 rfl 0 rfl
  have k1_1 := hs3.cellAt 1 rfl 1 rfl
  have k2_0 := hs3.cellAt 2 rfl 0 rfl
  go_enter Tryz.func171, Tryz.ntmps171
  by_cases h3 : ar = 3
  · have H3 := Lib.hid h3
    have h3b : (ar == 3) = true := by simp [h3]
    clear h3
    go_wp2_with fail
    refine (allLists_c size 2 194 _ _ _ _ (by omega) (by omega) (by omega) HN.out HN2.out eg1 (isTernary1_by size (ar, tb) (w.heap.size + 1) (w.heap.size) (w.heap.size + 1 + 1) g WT _ _ _ (Rd.mono HF.out hs3.bel) HOK.out H3.out (hs3.cellAt 1 rfl 0 rfl) (hs3.cellAt 1 rfl 1 rfl) (hs3.cellAt 0 rfl 0 rfl) (hs3.cellAt 2 rfl 0 rfl) HEG.out HW.out HI9.out)).mono ?_
    rintro e w5 ⟨rfl, hb5⟩
    have HB := Lib.hid (hs3.bel.trans (hb5.mono hs3.bel.size))
    have HQ := Lib.hid (show allL size 2 (size.toNat * size.toNat) (fun l => ternQ size (ar, tb) (WT (l.getD 0 0) (l.getD 1 0)) (l.getD 0 0) (l.getD 1 0)) = ternB size (ar, tb) WT by unfold ternB; rw [decide_eq_true (show (ar, tb).1 = 3 from H3.out), Bool.true_and])
    clear hb5
    rw [HQ.out]
    go_wp2_with fail
    go_ret
    exact ⟨rfl, HB.out⟩
  · have h3b : (ar == 3) = false := by simp [h3]
    have HQ := Lib.hid (show ternB size (ar, tb) WT = false by unfold ternB; rw [decide_eq_false (show ¬ (ar, tb).1 = 3 from h3), Bool.false_and])
    clear h3
    go_wp2_with fail
    go_ret
    exact ⟨ret_bool HQ.out.symm, hs3.bel⟩
theorem results_arr3 {fn : Func} {a : Tmp} (h : fn.results = #[.cell a 190]) (tmps : Array Value) (w : World) (b : Nat) (t : TypeId) {x y z : Value} {fr : Nat × Nat} (ha : tmps.getD a undef = .pointer (some ⟨b, 0, none⟩)) (hb : w.heap[b]? = some (.cells #[x, y, z] t fr)) :
    (results fn tmps).run Tryz.prog w = .ok (.agg #[x, y, z]) w := by
  have e := run_loadVar_row (P := Tryz.prog) w b t 190 #[x, y, z] fr (.array 3 2) hb (by kernel_rfl) rfl (by kernel_rfl)
  have ha9 : tmps[a]?.getD undef = .pointer (some ⟨b, 0, none⟩) := by simpa using ha
  simp [results, h, ha9, asAddr, e]
set_option maxRecDepth 100000 in
set_option maxHeartbeats 4000000 in
theorem isKind4_c : WantC 172 (wantM true false) := by
  intro w x y hx hy
  go_enter Tryz.func172, Tryz.ntmps172
  go_wp2_with fail
  try simp only [Exit.inBlock, Exit.then]
  refine bodyPost_ret (results_arr3 rfl _ _ _ _ rfl (heap_alloc_new _ _)) rfl ⟨rfl, belowA w _⟩
set_option maxRecDepth 100000 in
set_option maxHeartbeats 4000000 in
theorem isKindM_c (size : Int) (f : OpT) (v0 v1 : Value) (w : World) (hf : Rd w [v0, v1] f) (hok : opOk size f = true) :
    Calls Tryz.prog 132 #[.int .i64 size, .agg #[v0, v1], .int .i64 7] w fun e w' => e = .returned (.bool (majB size f)) ∧ Below w.heap.size w w' := by
  have hs := (opOk_get hok).1
  obtain ⟨ar, tb⟩ := f
  have HF := Lib.hid hf
  have HOK := Lib.hid hok
  have zf := rd_cons rfl hf
  obtain ⟨rfl, _⟩ := rd_i1 zf.1
  obtain ⟨at0, ct0, rfl, _⟩ := rd_list zf.2
  have eg1 : ∀ args w, (callFunc 172 args).run Tryz.prog w = .ok (.enter 172 args) w := enters_of Tryz.func172 (by kernel_rfl) rfl
  have HI9 := Lib.hid (show ∀ x y, 0 ≤ x → x < size → 0 ≤ y → y < size → I64 (wantM true false x y).1 ∧ I64 (wantM true false x y).2.1 ∧ I64 (wantM true false x y).2.2 from fun x y h1 h2 h3 h4 => by
    have : I64 x := by unfold I64; omega
    exact ⟨this, this, this⟩)
  have HT := Lib.hid (tern_third hs.1 (ar, tb) true false)
  clear hf zf hok
  have hs4 := (St.start w).alloc #[.int .i64 size] 2 (n := w.heap.size) (by simp)
  have k0_0 := hs4.cellAt 0 rfl 0 rfl
  have hs5 := hs4.alloc #[.int .i64 ar, .slice at0 tb.length ct0] 34 (n := w.heap.size + 1) (by simp)
  clear k0_0
  have k0_0 := hs5.cellAt 0 rfl 0 rfl
  have k1_0 := hs5.cellAt 1 rfl 0 rfl
  have k1_1 := hs5.cellAt 1 rfl 1 rfl
  go_enter Tryz.func132, Tryz.ntmps132
  go_wp2_with fail
  refine (isTernary_c size (ar, tb) 172 (wantM true false) _ _ _ (Rd.mono HF.out hs5.bel) HOK.out eg1 isKind4_c HI9.out).mono ?_
  rintro e w6 ⟨rfl, hbw6⟩
  have hz_w6 : w.heap.size + 1 + 1 ≤ w6.heap.size := by have h9 := hbw6.size; (try simp at h9); omega
  have hs7 := hs5.step hbw6
  clear k0_0 k1_0 k1_1
  have k0_0 := hs7.cellAt 0 rfl 0 rfl
  have k1_0 := hs7.cellAt 1 rfl 0 rfl
  have k1_1 := hs7.cellAt 1 rfl 1 rfl
  go_wp2_with fail
  go_ret
  exact ⟨ret_bool HT.out, hs7.bel⟩

end Go.Proofs.YtllenfkbfeanmaaGreat

