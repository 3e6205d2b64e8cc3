/-
  CONTRACTS: SolveByConstant, both sides. (Printed by wip/gensolve.py.)
-/
import Derived.Test.YtjkjfjpajmjglaaGreatFail
import Derived.Test.YtjkjfjpajmjglaaGreatRepeat
import Derived.Test.YtjkjfjpajmjglaaGreatOp
namespace Go.Proofs.YtjkjfjpajmjglaaGreat
open Go.RowKit Go.Shelf Go.IntWalk
open Rep (Rd Own sz)
set_option linter.unusedSimpArgs false
set_option linter.unusedVariables false

def vd0 : Vdct := (0, [], [], [], [])
theorem fresh_vd {lo : Nat} {w : World} {k : Int} {v : Value} {l : List Int} (hI : I64 k) (h : Fresh lo w [v] l) : Fresh lo w [.int .i64 k, v, .slice none 0 0, .slice none 0 0, .slice none 0 0] ((k, l, [], [], []) : Vdct) := by
  obtain ⟨ps, h1, h2, h3⟩ := h
  have e : ∀ {α : Type} [Rep α], Own [] w [.slice none 0 0] ([] : List α) := ⟨_, rfl, .inl ⟨rfl, rfl, none, 0, rfl, Nat.zero_le _⟩⟩
  exact ⟨[] ++ (ps ++ ([] ++ ([] ++ []))), mk_own ⟨rfl, rfl, hI⟩ (mk_own h1 (mk_own e (mk_own e e))), by simpa using h2, fun k hk => h3 k (by simpa using hk)⟩
theorem rd_cons_mk {α : Type} [Rep α] {w : World} {k : Int} {vs : List Value} {x : α} (hI : I64 k) (h : Rd w vs x) : Rd w (.int .i64 k :: vs) (k, x) := ⟨[_], vs, rfl, ⟨rfl, hI⟩, h⟩
theorem rd_single {w : World} {b : Nat} {a : Int} (hI : I64 a) (h : w.cell? ⟨b, 0, none⟩ = some (.int .i64 a)) : Rd w [.slice (some ⟨b, 0, none⟩) 1 1] [a] := by
  refine mk_rd (l := [a]) ⟨Nat.le_refl _, by decide, fun i hi => ?_⟩
  obtain rfl : i = 0 := by simp at hi; omega
  refine ⟨b, 0, [.int .i64 a], rfl, ⟨rfl, hI⟩, fun k hk => ?_⟩
  obtain rfl : k = 0 := by simp at hk; omega
  simpa using h
def constOp (size a : Int) : OpT := (1, List.replicate size.toNat a)
def constV (x : Inst) (a : Int) : List Int := List.replicate x.1.toNat a
def brokenF (t : Tmpl) (f : OpT) : Int := firstI (fun r => !keepsP t.1 f r) t.2
def solveConstF (t : Tmpl) (x : Inst) (a : Int) : Vdct × Int :=
  if instOk t x then (if inB a 0 (t.1 - 1) then (if brokenF t (constOp t.1 a) < 0 then (if failF t x (constV x a) < 0 then ((0, constV x a, [], [], []), 0) else (vd0, 6)) else (vd0, 4)) else (vd0, 2)) else (vd0, 1)
theorem solveConstF_le (t : Tmpl) (x : Inst) (a : Int) : (solveConstF t x a).1.2.1.length ≤ 10 ∧ (solveConstF t x a).1.2.2 = ([], [], []) := by
  unfold solveConstF
  by_cases h : instOk t x = true
  · rw [if_pos h]
    have := (instOk_get h).2.1
    split
    · split
      · split
        · simp [constV]; omega
        · simp [vd0]
      · simp [vd0]
    · simp [vd0]
  · rw [if_neg h]; simp [vd0]
theorem pow_one0 (z : Int) : z ^ (1 : Int).toNat = z := by show z ^ 1 = z; simp [Int.pow_succ]
theorem const_ok {size a : Int} (hs : 1 ≤ size ∧ size ≤ 4) (ha : 0 ≤ a ∧ a ≤ size - 1) : opOk size (constOp size a) = true := by
  obtain ⟨n, rfl⟩ : ∃ n : Nat, size = (n : Int) := ⟨size.toNat, by omega⟩
  simp only [opOk, constOp, Bool.and_eq_true, valsOk, decide_eq_true_eq, List.all_eq_true, Int.toNat_natCast]
  refine ⟨⟨inB_mk hs, inB_mk (by omega)⟩, ?_, fun b hb => ?_⟩
  · simp
    exact (pow_one0 (n : Int)).symm
  · obtain ⟨_, rfl⟩ := List.mem_replicate.1 hb
    exact inB_mk ha
theorem constant1_by (size : Int) (m : Nat) (a : Int) (b : Nat) (w : World) (hI : I64 a) (hc : w.cell? ⟨b, 0, none⟩ = some (.int .i64 a)) : ByC 144 #[.pointer (some ⟨b, 0, none⟩)] w size m (fun _ => a) := by
  intro W l v hb _ _ _
  have g := cellL hb hc
  show Calls Tryz.prog 144 #[v, .pointer (some ⟨b, 0, none⟩)] W _
  go_enter Tryz.func144, Tryz.ntmps144
  go_wp2_with fail
  go_ret
  exact ⟨rfl, hI, Below.refl _ _⟩
theorem table_const (a size : Int) (m k : Nat) : tableTo (fun _ => a) size m k = List.replicate k a := by
  unfold tableTo
  induction k with
  | zero => rfl
  | succ k ih => rw [List.range_succ, List.map_append, ih, List.replicate_succ']; rfl
set_option maxRecDepth 100000 in
set_option maxHeartbeats 2000000 in
theorem constant_c (size a : Int) (w : World) (hs : 1 ≤ size ∧ size ≤ 4) (hI : I64 a) : Calls Tryz.prog 82 #[.int .i64 size, .int .i64 1, .int .i64 a] w fun e w' => ∃ v, e = .returned (.agg #[.int .i64 1, v]) ∧ Fresh w.heap.size w' [v] (constOp size a).2 ∧ Below w.heap.size w w' := by
  have eg : ∀ args w, (callFunc 144 args).run Tryz.prog w = .ok (.enter 144 args) w := enters_of Tryz.func144 (by kernel_rfl) rfl
  have HI := Lib.hid hI
  clear hI
  have HTC := Lib.hid (show tableTo (fun _ => a) size (1 : Int).toNat (size ^ (1 : Int).toNat).toNat = (constOp size a).2 by rw [table_const, pow_one0]; rfl)
  have hs1 := (St.start w).alloc #[.int .i64 a] 2 (n := w.heap.size) (by simp)
  have k0_0 := hs1.cellAt 0 rfl 0 rfl
  have hs2 := hs1.alloc #[.int .i64 0, .slice none 0 0] 124 (n := w.heap.size + 1) (by simp)
  clear k0_0
  have k0_0 := hs2.cellAt 0 rfl 0 rfl
  have k1_0 := hs2.cellAt 1 rfl 0 rfl
  have k1_1 := hs2.cellAt 1 rfl 1 rfl
  go_enter Tryz.func82, Tryz.ntmps82
  go_wp2_with fail
  refine (opOf_c size 1 144 _ (fun _ => a) _ (by omega) (by omega) (by omega) (by omega) (by rw [pow_one0]; omega) eg (constant1_by _ _ _ _ _ HI.out (hs2.cellAt 0 rfl 0 rfl))).mono ?_
  rintro e w3 ⟨v9, rfl, fr9, hbw3⟩
  have hz_w3 : w.heap.size + 1 + 1 ≤ w3.heap.size := by have h9 := hbw3.size; (try simp at h9); omega
  have hs4 := hs2.step hbw3
  clear k0_0 k1_0 k1_1
  have k0_0 := hs4.cellAt 0 rfl 0 rfl
  have k1_0 := hs4.cellAt 1 rfl 0 rfl
  have k1_1 := hs4.cellAt 1 rfl 1 rfl
  rw [HTC.out] at fr9
  obtain ⟨a9, c9, rfl, _⟩ := rd_list fr9.rd
  have g0 := (hs4.freeAt 1 rfl 0)
  have g1 := (hs4.freeAt 1 rfl 1)
  have hz9 := hbw3.size
  have hs9 := ((hs4.set (p := [_]) (by simp <;> omega) 0 (.int .i64 1)).set (p := [_]) (by simp <;> omega) 1 (.slice a9 (constOp size a).2.length c9))
  have HF := Lib.hid (show Fresh w.heap.size ((w3.setCell ⟨w.heap.size + 1, 0, none⟩ (.int .i64 1)).setCell ⟨w.heap.size + 1, 1, none⟩ (.slice a9 (constOp size a).2.length c9)) [.slice a9 (constOp size a).2.length c9] (constOp size a).2 from
    ((fr9.setCell (a := ⟨w.heap.size + 1, 0, none⟩) (by simp <;> omega) (.int .i64 1)).setCell (a := ⟨w.heap.size + 1, 1, none⟩) (by simp <;> omega) (.slice a9 (constOp size a).2.length c9)).lower (by (try simp); omega))
  have HB9 := Lib.hid hs9.bel
  have y0 := hs9.cellAt 1 rfl 0 rfl
  have y1 := hs9.cellAt 1 rfl 1 rfl
  clear hs9 fr9
  go_wp2_with fail
  refine bodyPost_ret (v := .agg #[.int .i64 1, .slice a9 (constOp size a).2.length c9]) (by simp [results, Tryz.results82, go_sem, y0, y1]) rfl ⟨_, rfl, HF.out, HB9.out⟩
set_option maxHeartbeats 2000000 in
theorem firstBroken1_by (size : Int) (f : OpT) (tb fb : Nat) (f0 f1 : Value) (rs : List RelT) (w : World) (hok : opOk size f = true) (hrs : ∀ r, r ∈ rs → relOk size r = true) (hf : Rd w [f0, f1] f) (hc0 : w.cell? ⟨tb, 0, none⟩ = some (.int .i64 size)) (d0 : w.cell? ⟨fb, 0, none⟩ = some f0) (d1 : w.cell? ⟨fb, 1, none⟩ = some f1) :
    PredRl 212 #[.pointer (some ⟨tb, 0, none⟩), .pointer (some ⟨fb, 0, none⟩)] w rs (fun r => !keepsP size f r) := by
  intro W r u0 u1 hb hr hmem
  have g0 := cellL hb hc0
  have e0 := cellL hb d0
  have e1 := cellL hb d1
  have HF := Lib.hid (Rd.mono hf hb)
  have HR := Lib.hid hr
  have HRK := Lib.hid (hrs r hmem)
  have HOK := Lib.hid hok
  obtain ⟨fa, ft⟩ := f
  obtain ⟨ra, rt⟩ := r
  have zf := rd_cons rfl hf
  obtain ⟨rfl, _⟩ := rd_i1 zf.1
  obtain ⟨af, cf, rfl, _⟩ := rd_list zf.2
  have zr := rd_cons rfl hr
  obtain ⟨rfl, _⟩ := rd_i1 zr.1
  obtain ⟨ar, cr, rfl, _⟩ := rd_list zr.2
  clear hf hr zf zr hc0 d0 d1 hb hmem hrs hok
  show Calls Tryz.prog 212 #[_, .pointer (some ⟨tb, 0, none⟩), .pointer (some ⟨fb, 0, none⟩)] W _
  have g0_ := cellL (St.start W).bel g0
  clear g0_
  have g0_ := cellL (St.start W).bel g0
  have e0_ := cellL (St.start W).bel e0
  clear g0_ e0_
  have g0_ := cellL (St.start W).bel g0
  have e0_ := cellL (St.start W).bel e0
  have e1_ := cellL (St.start W).bel e1
  have hs5 := (St.start W).alloc #[.int .i64 ra, .slice ar rt.length cr] 116 (n := W.heap.size) (by simp)
  clear g0_ e0_ e1_
  have k0_0 := hs5.cellAt 0 rfl 0 rfl
  have k0_1 := hs5.cellAt 0 rfl 1 rfl
  have g0_ := cellL hs5.bel g0
  have e0_ := cellL hs5.bel e0
  have e1_ := cellL hs5.bel e1
  go_enter Tryz.func212, Tryz.ntmps212
  go_wp2_with fail
  refine (keeps_c size (fa, ft) (ra, rt) _ _ _ _ _ (Rd.mono HF.out hs5.bel) (Rd.mono HR.out hs5.bel) HOK.out HRK.out).mono ?_
  rintro e w6 ⟨rfl, hbw6⟩
  have hz_w6 : W.heap.size + 1 ≤ w6.heap.size := by have h9 := hbw6.size; (try simp at h9); omega
  have hs7 := hs5.step hbw6
  clear k0_0 k0_1 g0_ e0_ e1_
  have k0_0 := hs7.cellAt 0 rfl 0 rfl
  have k0_1 := hs7.cellAt 0 rfl 1 rfl
  have g0_ := cellL hs7.bel g0
  have e0_ := cellL hs7.bel e0
  have e1_ := cellL hs7.bel e1
  go_wp2_with fail
  go_ret
  exact ⟨rfl, hs7.bel⟩
set_option maxHeartbeats 2000000 in
theorem isKept_c (t : Tmpl) (f : OpT) (t0 t1 f0 f1 : Value) (w : World) (ht : Rd w [t0, t1] t) (hf : Rd w [f0, f1] f) (hok : opOk t.1 f = true) (hrs : ∀ r, r ∈ t.2 → relOk t.1 r = true) :
    Calls Tryz.prog 81 #[.agg #[t0, t1], .agg #[f0, f1]] w fun e w' => e = .returned (.bool (decide (brokenF t f < 0))) ∧ Below w.heap.size w w' := by
  obtain ⟨size, rs⟩ := t
  obtain ⟨fa, ft⟩ := f
  have zt := rd_cons rfl ht
  obtain ⟨rfl, _⟩ := rd_i1 zt.1
  obtain ⟨at0, ct0, rfl, _⟩ := rd_list zt.2
  have zf := rd_cons rfl hf
  obtain ⟨rfl, _⟩ := rd_i1 zf.1
  obtain ⟨af, cf, rfl, _⟩ := rd_list zf.2
  have HR := Lib.hid zt.2
  have HF := Lib.hid hf
  have HOK := Lib.hid hok
  have HRS := Lib.hid hrs
  clear ht hf zt zf hok hrs
  have eg : ∀ args w, (callFunc 212 args).run Tryz.prog w = .ok (.enter 212 args) w := enters_of Tryz.func212 (by kernel_rfl) rfl
  have inner : ∀ (W : World), Rd W [.slice at0 rs.length ct0] rs → Rd W [.int .i64 fa, .slice af ft.length cf] (fa, ft) → Calls Tryz.prog 142 #[.agg #[.int .i64 size, .slice at0 rs.length ct0], .agg #[.int .i64 fa, .slice af ft.length cf]] W fun e w' => e = .returned (.int .i64 (brokenF (size, rs) (fa, ft))) ∧ Below W.heap.size W w' := by
    intro W h1 h2
    have HR1 := Lib.hid h1
    have HF1 := Lib.hid h2
    clear h1 h2
    have hs8 := (St.start W).alloc #[.int .i64 size, .slice at0 rs.length ct0] 36 (n := W.heap.size) (by simp)
    have k0_0 := hs8.cellAt 0 rfl 0 rfl
    have k0_1 := hs8.cellAt 0 rfl 1 rfl
    have hs9 := hs8.alloc #[.int .i64 fa, .slice af ft.length cf] 124 (n := W.heap.size + 1) (by simp)
    clear k0_0 k0_1
    have k0_0 := hs9.cellAt 0 rfl 0 rfl
    have k0_1 := hs9.cellAt 0 rfl 1 rfl
    have k1_0 := hs9.cellAt 1 rfl 0 rfl
    have k1_1 := hs9.cellAt 1 rfl 1 rfl
    go_enter Tryz.func142, Tryz.ntmps142
    go_wp2_with fail
    refine (indexRels_c rs _ 212 _ _ _ (Rd.mono HR1.out hs9.bel) eg (firstBroken1_by size (fa, ft) (W.heap.size) (W.heap.size + 1) _ _ rs _ HOK.out HRS.out (Rd.mono HF1.out hs9.bel) (hs9.cellAt 0 rfl 0 rfl) (hs9.cellAt 1 rfl 0 rfl) (hs9.cellAt 1 rfl 1 rfl))).mono ?_
    rintro e w10 ⟨rfl, hbw10⟩
    have hz_w10 : W.heap.size + 1 + 1 ≤ w10.heap.size := by have h9 := hbw10.size; (try simp at h9); omega
    have hs11 := hs9.step hbw10
    clear k0_0 k0_1 k1_0 k1_1
    have k0_0 := hs11.cellAt 0 rfl 0 rfl
    have k0_1 := hs11.cellAt 0 rfl 1 rfl
    have k1_0 := hs11.cellAt 1 rfl 0 rfl
    have k1_1 := hs11.cellAt 1 rfl 1 rfl
    go_wp2_with fail
    go_ret
    exact ⟨rfl, hs11.bel⟩
  have hs12 := (St.start w).alloc #[.int .i64 size, .slice at0 rs.length ct0] 36 (n := w.heap.size) (by simp)
  have k0_0 := hs12.cellAt 0 rfl 0 rfl
  have k0_1 := hs12.cellAt 0 rfl 1 rfl
  have hs13 := hs12.alloc #[.int .i64 fa, .slice af ft.length cf] 124 (n := w.heap.size + 1) (by simp)
  clear k0_0 k0_1
  have k0_0 := hs13.cellAt 0 rfl 0 rfl
  have k0_1 := hs13.cellAt 0 rfl 1 rfl
  have k1_0 := hs13.cellAt 1 rfl 0 rfl
  have k1_1 := hs13.cellAt 1 rfl 1 rfl
  go_enter Tryz.func81, Tryz.ntmps81
  go_wp2_with fail
  refine (inner _ (Rd.mono HR.out hs13.bel) (Rd.mono HF.out hs13.bel)).mono ?_
  rintro e w14 ⟨rfl, hbw14⟩
  have hz_w14 : w.heap.size + 1 + 1 ≤ w14.heap.size := by have h9 := hbw14.size; (try simp at h9); omega
  have hs15 := hs13.step hbw14
  clear k0_0 k0_1 k1_0 k1_1
  have k0_0 := hs15.cellAt 0 rfl 0 rfl
  have k0_1 := hs15.cellAt 0 rfl 1 rfl
  have k1_0 := hs15.cellAt 1 rfl 0 rfl
  have k1_1 := hs15.cellAt 1 rfl 1 rfl
  go_wp2_with fail
  go_ret
  exact ⟨rfl, hs15.bel⟩
set_option maxHeartbeats 2000000 in
theorem solution_c (ao : Option Addr) (n c : Nat) (w : World) : Calls Tryz.prog 85 #[.slice ao n c] w fun e w' => e = .returned (.agg #[.int .i64 0, .slice ao n c, .slice none 0 0, .slice none 0 0, .slice none 0 0]) ∧ Below w.heap.size w w' := by
  have hs16 := (St.start w).alloc #[.int .i64 0, .slice none 0 0, .slice none 0 0, .slice none 0 0, .slice none 0 0] 59 (n := w.heap.size) (by simp)
  have k0_0 := hs16.cellAt 0 rfl 0 rfl
  have k0_1 := hs16.cellAt 0 rfl 1 rfl
  have k0_2 := hs16.cellAt 0 rfl 2 rfl
  have k0_3 := hs16.cellAt 0 rfl 3 rfl
  have k0_4 := hs16.cellAt 0 rfl 4 rfl
  go_enter Tryz.func85, Tryz.ntmps85
  have g0 := (hs16.freeAt 0 rfl 0)
  have g1 := (hs16.freeAt 0 rfl 1)
  have g2 := (hs16.freeAt 0 rfl 2)
  have g3 := (hs16.freeAt 0 rfl 3)
  have g4 := (hs16.freeAt 0 rfl 4)
  have hs9 := (((((hs16.set (p := []) (by simp) 0 (.int .i64 0)).set (p := []) (by simp) 1 (.slice ao n c)).set (p := []) (by simp) 2 (.slice none 0 0)).set (p := []) (by simp) 3 (.slice none 0 0)).set (p := []) (by simp) 4 (.slice none 0 0))
  have HB9 := Lib.hid hs9.bel
  have y0 := hs9.cellAt 0 rfl 0 rfl
  have y1 := hs9.cellAt 0 rfl 1 rfl
  have y2 := hs9.cellAt 0 rfl 2 rfl
  have y3 := hs9.cellAt 0 rfl 3 rfl
  have y4 := hs9.cellAt 0 rfl 4 rfl
  clear hs9
  go_wp2_with fail
  refine bodyPost_ret (v := .agg #[.int .i64 0, .slice ao n c, .slice none 0 0, .slice none 0 0, .slice none 0 0]) (by simp [results, Tryz.results85, go_sem, y0, y1, y2, y3, y4]) rfl ⟨rfl, belowA _ _⟩
set_option maxRecDepth 100000 in
set_option maxHeartbeats 8000000 in
theorem SolveByConstant_c (t : Tmpl) (t0 t1 : Value) (x : Inst) (x0 x1 : Value) (a : Int) (w : World) (ht : Rd w [t0, t1] t) (hx : Rd w [x0, x1] x) (hI : I64 a) :
    Calls Tryz.prog 31 #[.agg #[t0, t1], .agg #[x0, x1], .int .i64 a] w fun e w' => ∃ u0 u1 u2 u3 u4, e = .returned (.tuple #[.agg #[u0, u1, u2, u3, u4], .int .i64 (solveConstF t x a).2]) ∧ Fresh w.heap.size w' [u0, u1, u2, u3, u4] (solveConstF t x a).1 ∧ Below w.heap.size w w' := by
  obtain ⟨size, rs⟩ := t
  obtain ⟨vars, cs⟩ := x
  have HT := Lib.hid ht
  have HX := Lib.hid hx
  have HI := Lib.hid hI
  have zt := rd_cons rfl ht
  obtain ⟨rfl, _⟩ := rd_i1 zt.1
  obtain ⟨at0, ct0, rfl, _⟩ := rd_list zt.2
  have zx := rd_cons rfl hx
  obtain ⟨rfl, _⟩ := rd_i1 zx.1
  obtain ⟨ax, cx, rfl, _⟩ := rd_list zx.2
  clear ht hx hI zt zx
  have hs17 := (St.start w).alloc #[.int .i64 size, .slice at0 rs.length ct0] 36 (n := w.heap.size) (by simp)
  have k0_0 := hs17.cellAt 0 rfl 0 rfl
  have k0_1 := hs17.cellAt 0 rfl 1 rfl
  have hs18 := hs17.alloc #[.int .i64 vars, .slice ax cs.length cx] 40 (n := w.heap.size + 1) (by simp)
  clear k0_0 k0_1
  have k0_0 := hs18.cellAt 0 rfl 0 rfl
  have k0_1 := hs18.cellAt 0 rfl 1 rfl
  have k1_0 := hs18.cellAt 1 rfl 0 rfl
  have k1_1 := hs18.cellAt 1 rfl 1 rfl
  have hs19 := hs18.alloc #[.int .i64 0, .slice none 0 0, .slice none 0 0, .slice none 0 0, .slice none 0 0] 59 (n := w.heap.size + 1 + 1) (by simp)
  clear k0_0 k0_1 k1_0 k1_1
  have k0_0 := hs19.cellAt 0 rfl 0 rfl
  have k0_1 := hs19.cellAt 0 rfl 1 rfl
  have k1_0 := hs19.cellAt 1 rfl 0 rfl
  have k1_1 := hs19.cellAt 1 rfl 1 rfl
  have k2_0 := hs19.cellAt 2 rfl 0 rfl
  have k2_1 := hs19.cellAt 2 rfl 1 rfl
  have k2_2 := hs19.cellAt 2 rfl 2 rfl
  have k2_3 := hs19.cellAt 2 rfl 3 rfl
  have k2_4 := hs19.cellAt 2 rfl 4 rfl
  go_enter Tryz.func31, Tryz.ntmps31
  go_wp2_with fail
  refine (ValidInstance_c (size, rs) (vars, cs) _ _ _ _ _ (Rd.mono HT.out hs19.bel) (Rd.mono HX.out hs19.bel)).mono ?_
  rintro e w20 ⟨rfl, hbw20⟩
  have hz_w20 : w.heap.size + 1 + 1 + 1 ≤ w20.heap.size := by have h9 := hbw20.size; (try simp at h9); omega
  have hs21 := hs19.step hbw20
  clear k0_0 k0_1 k1_0 k1_1 k2_0 k2_1 k2_2 k2_3 k2_4
  have k0_0 := hs21.cellAt 0 rfl 0 rfl
  have k0_1 := hs21.cellAt 0 rfl 1 rfl
  have k1_0 := hs21.cellAt 1 rfl 0 rfl
  have k1_1 := hs21.cellAt 1 rfl 1 rfl
  have k2_0 := hs21.cellAt 2 rfl 0 rfl
  have k2_1 := hs21.cellAt 2 rfl 1 rfl
  have k2_2 := hs21.cellAt 2 rfl 2 rfl
  have k2_3 := hs21.cellAt 2 rfl 3 rfl
  have k2_4 := hs21.cellAt 2 rfl 4 rfl
  cases h1 : instOk (size, rs) (vars, cs) with
  | false =>
    have H1 := Lib.hid (show solveConstF (size, rs) (vars, cs) a = (vd0, 1) by unfold solveConstF; rw [h1]; rfl)
    clear h1
    have g0 := (hs21.freeAt 2 rfl 0)
    have g1 := (hs21.freeAt 2 rfl 1)
    have g2 := (hs21.freeAt 2 rfl 2)
    have g3 := (hs21.freeAt 2 rfl 3)
    have g4 := (hs21.freeAt 2 rfl 4)
    have hs9 := (((((hs21.set (p := [_, _]) (by simp <;> omega) 0 (.int .i64 0)).set (p := [_, _]) (by simp <;> omega) 1 (.slice none 0 0)).set (p := [_, _]) (by simp <;> omega) 2 (.slice none 0 0)).set (p := [_, _]) (by simp <;> omega) 3 (.slice none 0 0)).set (p := [_, _]) (by simp <;> omega) 4 (.slice none 0 0))
    have HB9 := Lib.hid hs9.bel
    have y0 := hs9.cellAt 2 rfl 0 rfl
    have y1 := hs9.cellAt 2 rfl 1 rfl
    have y2 := hs9.cellAt 2 rfl 2 rfl
    have y3 := hs9.cellAt 2 rfl 3 rfl
    have y4 := hs9.cellAt 2 rfl 4 rfl
    clear hs9
    go_wp2_with fail
    refine bodyPost_ret (v := .tuple #[.agg #[.int .i64 0, .slice none 0 0, .slice none 0 0, .slice none 0 0, .slice none 0 0], .int .i64 1]) (by simp [results, Tryz.results31, go_sem, y0, y1, y2, y3, y4]) rfl ⟨_, _, _, _, _, by rw [H1.out], ?_, HB9.out⟩
    rw [H1.out]; exact fresh_vd ⟨by decide, by decide⟩ fresh_nil_list
  | true =>
    have hs := (tmplOk_get (instOk_get h1).1).1
    have hv := (instOk_get h1).2.1
    have HRS := Lib.hid (tmplOk_get (instOk_get h1).1).2.2
    have HOK := Lib.hid h1
    simp only at hs hv
    have H0 := Lib.hid (show solveConstF (size, rs) (vars, cs) a = if inB a 0 (size - 1) then (if brokenF (size, rs) (constOp size a) < 0 then (if failF (size, rs) (vars, cs) (constV (vars, cs) a) < 0 then ((0, constV (vars, cs) a, [], [], []), 0) else (vd0, 6)) else (vd0, 4)) else (vd0, 2) by unfold solveConstF; rw [if_pos h1])
    clear h1
    go_wp2_with fail
    refine (isValue_c size a _ (by omega) (by omega)).mono ?_
    rintro e wv ⟨rfl, rfl⟩
    cases h2 : inB a 0 (size - 1) with
    | false =>
      have H1 := Lib.hid (show solveConstF (size, rs) (vars, cs) a = (vd0, 2) by rw [H0.out, h2]; rfl)
      clear h2
      have g0 := (hs21.freeAt 2 rfl 0)
      have g1 := (hs21.freeAt 2 rfl 1)
      have g2 := (hs21.freeAt 2 rfl 2)
      have g3 := (hs21.freeAt 2 rfl 3)
      have g4 := (hs21.freeAt 2 rfl 4)
      have hs9 := (((((hs21.set (p := [_, _]) (by simp <;> omega) 0 (.int .i64 0)).set (p := [_, _]) (by simp <;> omega) 1 (.slice none 0 0)).set (p := [_, _]) (by simp <;> omega) 2 (.slice none 0 0)).set (p := [_, _]) (by simp <;> omega) 3 (.slice none 0 0)).set (p := [_, _]) (by simp <;> omega) 4 (.slice none 0 0))
      have HB9 := Lib.hid hs9.bel
      have y0 := hs9.cellAt 2 rfl 0 rfl
      have y1 := hs9.cellAt 2 rfl 1 rfl
      have y2 := hs9.cellAt 2 rfl 2 rfl
      have y3 := hs9.cellAt 2 rfl 3 rfl
      have y4 := hs9.cellAt 2 rfl 4 rfl
      clear hs9
      go_wp2_with fail
      refine bodyPost_ret (v := .tuple #[.agg #[.int .i64 0, .slice none 0 0, .slice none 0 0, .slice none 0 0, .slice none 0 0], .int .i64 2]) (by simp [results, Tryz.results31, go_sem, y0, y1, y2, y3, y4]) rfl ⟨_, _, _, _, _, by rw [H1.out], ?_, HB9.out⟩
      rw [H1.out]; exact fresh_vd ⟨by decide, by decide⟩ fresh_nil_list
    | true =>
      have ha := inB_true h2
      have HCO := Lib.hid (const_ok hs ha)
      have H3 := Lib.hid (show solveConstF (size, rs) (vars, cs) a = if brokenF (size, rs) (constOp size a) < 0 then (if failF (size, rs) (vars, cs) (constV (vars, cs) a) < 0 then ((0, constV (vars, cs) a, [], [], []), 0) else (vd0, 6)) else (vd0, 4) by rw [H0.out, if_pos h2])
      clear h2
      obtain ⟨V, hV⟩ : ∃ V : Nat, vars = (V : Int) := ⟨vars.toNat, by omega⟩
      subst hV
      have HCV := Lib.hid (show constV ((V : Int), cs) a = List.replicate V a by simp [constV])
      cases h4 : decide (brokenF (size, rs) (constOp size a) < 0) with
      | false =>
        have H1 := Lib.hid (show solveConstF (size, rs) ((V : Int), cs) a = (vd0, 4) by rw [H3.out, if_neg (of_decide_eq_false h4)])
        have HE := Lib.hid h4
        clear h4
        go_upto_region 5 with fail
        refine wp_region_noPanic (wp_region_tree4 (fun w' => w'.cell? ⟨w.heap.size, 0, none⟩ = some (.int .i64 size) ∧ w'.cell? ⟨w.heap.size, 1, none⟩ = some (.slice at0 rs.length ct0) ∧ w'.cell? ⟨w.heap.size + 1, 0, none⟩ = some (.int .i64 (V : Int)) ∧ w'.cell? ⟨w.heap.size + 1, 1, none⟩ = some (.slice ax cs.length cx) ∧ w'.cell? ⟨w.heap.size + 1 + 1, 0, none⟩ = some (.int .i64 0) ∧ w'.cell? ⟨w.heap.size + 1 + 1, 1, none⟩ = some (.slice none 0 0) ∧ w'.cell? ⟨w.heap.size + 1 + 1, 2, none⟩ = some (.slice none 0 0) ∧ w'.cell? ⟨w.heap.size + 1 + 1, 3, none⟩ = some (.slice none 0 0) ∧ w'.cell? ⟨w.heap.size + 1 + 1, 4, none⟩ = some (.slice none 0 0)) (.float 0 (.float 1 (.float 2 (.float 3 (.hard 4 (.hard 5 (.float 6 (.float 7 .nil)))))))) (by kernel_rfl) (by kernel_rfl) (by kernel_rfl) rfl ?_ (fun _ _ _ _ _ h => h) ?_)
        · exact ⟨(hs21.drew).cellAt 0 rfl 0 rfl, (hs21.drew).cellAt 0 rfl 1 rfl, (hs21.drew).cellAt 1 rfl 0 rfl, (hs21.drew).cellAt 1 rfl 1 rfl, (hs21.drew).cellAt 2 rfl 0 rfl, (hs21.drew).cellAt 2 rfl 1 rfl, (hs21.drew).cellAt 2 rfl 2 rfl, (hs21.drew).cellAt 2 rfl 3 rfl, (hs21.drew).cellAt 2 rfl 4 rfl⟩
        have hs22 := hs21.drew
        clear k0_0 k0_1 k1_0 k1_1 k2_0 k2_1 k2_2 k2_3 k2_4
        have hz_wd23 : w20.heap.size ≤ (w20.drew).heap.size := by simp
        generalize hgen_wd23 : w20.drew = wd23 at *
        have HG_wd23 := Lib.hid hgen_wd23
        clear hgen_wd23
        (repeat (first | (apply t4_skip rfl (by rfl); try simp only [Act.put, List.setIfInBounds_toArray, List.set_cons_zero, List.set_cons_succ]) | (apply t4_float rfl (by rfl); (· (intro w' hS; go_simp <;> with_reducible rfl)); (try simp only [Act.put, List.setIfInBounds_toArray, List.set_cons_zero, List.set_cons_succ]))))
        refine t4_hard rfl (by rfl) (fun K hK => ?_)
        go_wp2_with (go_at_call 82; refine (constant_c size a _ hs HI.out).mono ?_; rintro e w24 ⟨v9, rfl, fr9, hbw24⟩)
        have hz_w24 : wd23.heap.size ≤ w24.heap.size := by have h9 := hbw24.size; (try simp at h9); omega
        have hs25 := hs22.step hbw24
        obtain ⟨a9, c9, rfl, _⟩ := rd_list fr9.rd
        have HC9 := Lib.hid fr9
        clear fr9
        refine ⟨⟨hs25.cellAt 0 rfl 0 rfl, hs25.cellAt 0 rfl 1 rfl, hs25.cellAt 1 rfl 0 rfl, hs25.cellAt 1 rfl 1 rfl, hs25.cellAt 2 rfl 0 rfl, hs25.cellAt 2 rfl 1 rfl, hs25.cellAt 2 rfl 2 rfl, hs25.cellAt 2 rfl 3 rfl, hs25.cellAt 2 rfl 4 rfl⟩, ?_⟩
        (repeat (first | (apply t4_skip rfl (by rfl); try simp only [Act.put, List.setIfInBounds_toArray, List.set_cons_zero, List.set_cons_succ]) | (apply t4_float rfl (by rfl); (· (intro w' hS; go_simp <;> with_reducible rfl)); (try simp only [Act.put, List.setIfInBounds_toArray, List.set_cons_zero, List.set_cons_succ]))))
        refine t4_hard rfl (by rfl) (fun K hK => ?_)
        go_wp2_with (go_at_call 81; refine (isKept_c (size, rs) (constOp size a) _ _ _ _ _ (Rd.mono HT.out hs25.bel) (rd_cons_mk ⟨by decide, by decide⟩ (Fresh.rd HC9.out)) HCO.out HRS.out).mono ?_; rintro e w26 ⟨rfl, hbw26⟩)
        have hz_w26 : w24.heap.size ≤ w26.heap.size := by have h9 := hbw26.size; (try simp at h9); omega
        have hs27 := hs25.step hbw26
        have HC9_28 := Lib.hid (Fresh.mono HC9.out hbw26)
        clear HC9
        rw [HE.out]
        refine ⟨⟨hs27.cellAt 0 rfl 0 rfl, hs27.cellAt 0 rfl 1 rfl, hs27.cellAt 1 rfl 0 rfl, hs27.cellAt 1 rfl 1 rfl, hs27.cellAt 2 rfl 0 rfl, hs27.cellAt 2 rfl 1 rfl, hs27.cellAt 2 rfl 2 rfl, hs27.cellAt 2 rfl 3 rfl, hs27.cellAt 2 rfl 4 rfl⟩, ?_⟩
        (repeat (first | (apply t4_skip rfl (by rfl); try simp only [Act.put, List.setIfInBounds_toArray, List.set_cons_zero, List.set_cons_succ]) | (apply t4_float rfl (by rfl); (· (intro w' hS; go_simp <;> with_reducible rfl)); (try simp only [Act.put, List.setIfInBounds_toArray, List.set_cons_zero, List.set_cons_succ]))))
        have k0_0 := hs27.cellAt 0 rfl 0 rfl
        have k0_1 := hs27.cellAt 0 rfl 1 rfl
        have k1_0 := hs27.cellAt 1 rfl 0 rfl
        have k1_1 := hs27.cellAt 1 rfl 1 rfl
        have k2_0 := hs27.cellAt 2 rfl 0 rfl
        have k2_1 := hs27.cellAt 2 rfl 1 rfl
        have k2_2 := hs27.cellAt 2 rfl 2 rfl
        have k2_3 := hs27.cellAt 2 rfl 3 rfl
        have k2_4 := hs27.cellAt 2 rfl 4 rfl
        refine t4_nil (NoPanic.normal ?_)
        have g0 := (hs27.freeAt 2 rfl 0)
        have g1 := (hs27.freeAt 2 rfl 1)
        have g2 := (hs27.freeAt 2 rfl 2)
        have g3 := (hs27.freeAt 2 rfl 3)
        have g4 := (hs27.freeAt 2 rfl 4)
        have hs9 := (((((hs27.set (p := [_, _]) (by simp <;> omega) 0 (.int .i64 0)).set (p := [_, _]) (by simp <;> omega) 1 (.slice none 0 0)).set (p := [_, _]) (by simp <;> omega) 2 (.slice none 0 0)).set (p := [_, _]) (by simp <;> omega) 3 (.slice none 0 0)).set (p := [_, _]) (by simp <;> omega) 4 (.slice none 0 0))
        have HB9 := Lib.hid hs9.bel
        have y0 := hs9.cellAt 2 rfl 0 rfl
        have y1 := hs9.cellAt 2 rfl 1 rfl
        have y2 := hs9.cellAt 2 rfl 2 rfl
        have y3 := hs9.cellAt 2 rfl 3 rfl
        have y4 := hs9.cellAt 2 rfl 4 rfl
        clear hs9
        go_wp2_with fail
        refine bodyPost_ret (v := .tuple #[.agg #[.int .i64 0, .slice none 0 0, .slice none 0 0, .slice none 0 0, .slice none 0 0], .int .i64 4]) (by simp [results, Tryz.results31, go_sem, y0, y1, y2, y3, y4]) rfl ⟨_, _, _, _, _, by rw [H1.out], ?_, HB9.out⟩
        rw [H1.out]; exact fresh_vd ⟨by decide, by decide⟩ fresh_nil_list
      | true =>
        have H4 := Lib.hid (show solveConstF (size, rs) ((V : Int), cs) a = if failF (size, rs) ((V : Int), cs) (constV ((V : Int), cs) a) < 0 then ((0, constV ((V : Int), cs) a, [], [], []), 0) else (vd0, 6) by rw [H3.out, if_pos (of_decide_eq_true h4)])
        have HE := Lib.hid h4
        clear h4
        go_upto_region 5 with fail
        refine wp_region_noPanic (wp_region_tree4 (fun w' => w'.cell? ⟨w.heap.size, 0, none⟩ = some (.int .i64 size) ∧ w'.cell? ⟨w.heap.size, 1, none⟩ = some (.slice at0 rs.length ct0) ∧ w'.cell? ⟨w.heap.size + 1, 0, none⟩ = some (.int .i64 (V : Int)) ∧ w'.cell? ⟨w.heap.size + 1, 1, none⟩ = some (.slice ax cs.length cx) ∧ w'.cell? ⟨w.heap.size + 1 + 1, 0, none⟩ = some (.int .i64 0) ∧ w'.cell? ⟨w.heap.size + 1 + 1, 1, none⟩ = some (.slice none 0 0) ∧ w'.cell? ⟨w.heap.size + 1 + 1, 2, none⟩ = some (.slice none 0 0) ∧ w'.cell? ⟨w.heap.size + 1 + 1, 3, none⟩ = some (.slice none 0 0) ∧ w'.cell? ⟨w.heap.size + 1 + 1, 4, none⟩ = some (.slice none 0 0)) (.float 0 (.float 1 (.float 2 (.float 3 (.hard 4 (.hard 5 (.float 6 (.float 7 .nil)))))))) (by kernel_rfl) (by kernel_rfl) (by kernel_rfl) rfl ?_ (fun _ _ _ _ _ h => h) ?_)
        · exact ⟨(hs21.drew).cellAt 0 rfl 0 rfl, (hs21.drew).cellAt 0 rfl 1 rfl, (hs21.drew).cellAt 1 rfl 0 rfl, (hs21.drew).cellAt 1 rfl 1 rfl, (hs21.drew).cellAt 2 rfl 0 rfl, (hs21.drew).cellAt 2 rfl 1 rfl, (hs21.drew).cellAt 2 rfl 2 rfl, (hs21.drew).cellAt 2 rfl 3 rfl, (hs21.drew).cellAt 2 rfl 4 rfl⟩
        have hs29 := hs21.drew
        clear k0_0 k0_1 k1_0 k1_1 k2_0 k2_1 k2_2 k2_3 k2_4
        have hz_wd30 : w20.heap.size ≤ (w20.drew).heap.size := by simp
        generalize hgen_wd30 : w20.drew = wd30 at *
        have HG_wd30 := Lib.hid hgen_wd30
        clear hgen_wd30
        (repeat (first | (apply t4_skip rfl (by rfl); try simp only [Act.put, List.setIfInBounds_toArray, List.set_cons_zero, List.set_cons_succ]) | (apply t4_float rfl (by rfl); (· (intro w' hS; go_simp <;> with_reducible rfl)); (try simp only [Act.put, List.setIfInBounds_toArray, List.set_cons_zero, List.set_cons_succ]))))
        refine t4_hard rfl (by rfl) (fun K hK => ?_)
        go_wp2_with (go_at_call 82; refine (constant_c size a _ hs HI.out).mono ?_; rintro e w31 ⟨v9, rfl, fr9, hbw31⟩)
        have hz_w31 : wd30.heap.size ≤ w31.heap.size := by have h9 := hbw31.size; (try simp at h9); omega
        have hs32 := hs29.step hbw31
        obtain ⟨a9, c9, rfl, _⟩ := rd_list fr9.rd
        have HC9 := Lib.hid fr9
        clear fr9
        refine ⟨⟨hs32.cellAt 0 rfl 0 rfl, hs32.cellAt 0 rfl 1 rfl, hs32.cellAt 1 rfl 0 rfl, hs32.cellAt 1 rfl 1 rfl, hs32.cellAt 2 rfl 0 rfl, hs32.cellAt 2 rfl 1 rfl, hs32.cellAt 2 rfl 2 rfl, hs32.cellAt 2 rfl 3 rfl, hs32.cellAt 2 rfl 4 rfl⟩, ?_⟩
        (repeat (first | (apply t4_skip rfl (by rfl); try simp only [Act.put, List.setIfInBounds_toArray, List.set_cons_zero, List.set_cons_succ]) | (apply t4_float rfl (by rfl); (· (intro w' hS; go_simp <;> with_reducible rfl)); (try simp only [Act.put, List.setIfInBounds_toArray, List.set_cons_zero, List.set_cons_succ]))))
        refine t4_hard rfl (by rfl) (fun K hK => ?_)
        go_wp2_with (go_at_call 81; refine (isKept_c (size, rs) (constOp size a) _ _ _ _ _ (Rd.mono HT.out hs32.bel) (rd_cons_mk ⟨by decide, by decide⟩ (Fresh.rd HC9.out)) HCO.out HRS.out).mono ?_; rintro e w33 ⟨rfl, hbw33⟩)
        have hz_w33 : w31.heap.size ≤ w33.heap.size := by have h9 := hbw33.size; (try simp at h9); omega
        have hs34 := hs32.step hbw33
        have HC9_35 := Lib.hid (Fresh.mono HC9.out hbw33)
        clear HC9
        rw [HE.out]
        refine ⟨⟨hs34.cellAt 0 rfl 0 rfl, hs34.cellAt 0 rfl 1 rfl, hs34.cellAt 1 rfl 0 rfl, hs34.cellAt 1 rfl 1 rfl, hs34.cellAt 2 rfl 0 rfl, hs34.cellAt 2 rfl 1 rfl, hs34.cellAt 2 rfl 2 rfl, hs34.cellAt 2 rfl 3 rfl, hs34.cellAt 2 rfl 4 rfl⟩, ?_⟩
        (repeat (first | (apply t4_skip rfl (by rfl); try simp only [Act.put, List.setIfInBounds_toArray, List.set_cons_zero, List.set_cons_succ]) | (apply t4_float rfl (by rfl); (· (intro w' hS; go_simp <;> with_reducible rfl)); (try simp only [Act.put, List.setIfInBounds_toArray, List.set_cons_zero, List.set_cons_succ]))))
        have k0_0 := hs34.cellAt 0 rfl 0 rfl
        have k0_1 := hs34.cellAt 0 rfl 1 rfl
        have k1_0 := hs34.cellAt 1 rfl 0 rfl
        have k1_1 := hs34.cellAt 1 rfl 1 rfl
        have k2_0 := hs34.cellAt 2 rfl 0 rfl
        have k2_1 := hs34.cellAt 2 rfl 1 rfl
        have k2_2 := hs34.cellAt 2 rfl 2 rfl
        have k2_3 := hs34.cellAt 2 rfl 3 rfl
        have k2_4 := hs34.cellAt 2 rfl 4 rfl
        refine t4_nil (NoPanic.normal ?_)
        clear HC9_35
        rw [HCV.out] at H4
        have hs36 := hs34.alloc #[.int .i64 a] 2 (n := w33.heap.size) (by simp)
        clear k0_0 k0_1 k1_0 k1_1 k2_0 k2_1 k2_2 k2_3 k2_4
        have k0_0 := hs36.cellAt 0 rfl 0 rfl
        have k0_1 := hs36.cellAt 0 rfl 1 rfl
        have k1_0 := hs36.cellAt 1 rfl 0 rfl
        have k1_1 := hs36.cellAt 1 rfl 1 rfl
        have k2_0 := hs36.cellAt 2 rfl 0 rfl
        have k2_1 := hs36.cellAt 2 rfl 1 rfl
        have k2_2 := hs36.cellAt 2 rfl 2 rfl
        have k2_3 := hs36.cellAt 2 rfl 3 rfl
        have k2_4 := hs36.cellAt 2 rfl 4 rfl
        have k3_0 := hs36.cellAt 3 rfl 0 rfl
        have HAR := Lib.hid (rd_single HI.out (hs36.cellAt 3 rfl 0 rfl))
        go_wp2_with fail
        refine (repeatInts_c a V _ _ HAR.out (by omega) (by omega)).mono ?_
        rintro e w37 ⟨v8, rfl, fr8, hbw37⟩
        have hz_w37 : w33.heap.size + 1 ≤ w37.heap.size := by have h9 := hbw37.size; (try simp at h9); omega
        have hs38 := hs36.step hbw37
        clear k0_0 k0_1 k1_0 k1_1 k2_0 k2_1 k2_2 k2_3 k2_4 k3_0
        have k0_0 := hs38.cellAt 0 rfl 0 rfl
        have k0_1 := hs38.cellAt 0 rfl 1 rfl
        have k1_0 := hs38.cellAt 1 rfl 0 rfl
        have k1_1 := hs38.cellAt 1 rfl 1 rfl
        have k2_0 := hs38.cellAt 2 rfl 0 rfl
        have k2_1 := hs38.cellAt 2 rfl 1 rfl
        have k2_2 := hs38.cellAt 2 rfl 2 rfl
        have k2_3 := hs38.cellAt 2 rfl 3 rfl
        have k2_4 := hs38.cellAt 2 rfl 4 rfl
        have k3_0 := hs38.cellAt 3 rfl 0 rfl
        obtain ⟨a8, c8, e8, _⟩ := rd_list fr8.rd
        rw [List.length_replicate] at e8
        subst e8
        have HF8 := Lib.hid fr8
        clear fr8
        go_wp2_with fail
        refine (failing_c (size, rs) ((V : Int), cs) (List.replicate V a) _ _ _ _ _ _ (Rd.mono HT.out hs38.bel) (Rd.mono HX.out hs38.bel) (Fresh.rd HF8.out) HOK.out (by simp)).mono ?_
        rintro e w39 ⟨rfl, hbw39⟩
        have hz_w39 : w37.heap.size ≤ w39.heap.size := by have h9 := hbw39.size; (try simp at h9); omega
        have hs40 := hs38.step hbw39
        have HF8_41 := Lib.hid (Fresh.mono HF8.out hbw39)
        clear HF8
        clear k0_0 k0_1 k1_0 k1_1 k2_0 k2_1 k2_2 k2_3 k2_4 k3_0
        have k0_0 := hs40.cellAt 0 rfl 0 rfl
        have k0_1 := hs40.cellAt 0 rfl 1 rfl
        have k1_0 := hs40.cellAt 1 rfl 0 rfl
        have k1_1 := hs40.cellAt 1 rfl 1 rfl
        have k2_0 := hs40.cellAt 2 rfl 0 rfl
        have k2_1 := hs40.cellAt 2 rfl 1 rfl
        have k2_2 := hs40.cellAt 2 rfl 2 rfl
        have k2_3 := hs40.cellAt 2 rfl 3 rfl
        have k2_4 := hs40.cellAt 2 rfl 4 rfl
        have k3_0 := hs40.cellAt 3 rfl 0 rfl
        generalize failF (size, rs) ((V : Int), cs) (List.replicate V a) = FI at *
        by_cases hf : FI < 0
        · have H5 := Lib.hid (show solveConstF (size, rs) ((V : Int), cs) a = ((0, List.replicate V a, [], [], []), 0) by rw [H4.out, if_pos hf])
          have hf0 : ¬ 0 ≤ FI := by omega
          go_wp2_with fail
          refine (solution_c _ _ _ _).mono ?_
          rintro e w42 ⟨rfl, hbw42⟩
          have hz_w42 : w39.heap.size ≤ w42.heap.size := by have h9 := hbw42.size; (try simp at h9); omega
          have hs43 := hs40.step hbw42
          have HF8_44 := Lib.hid (Fresh.mono HF8_41.out hbw42)
          clear HF8_41
          clear k0_0 k0_1 k1_0 k1_1 k2_0 k2_1 k2_2 k2_3 k2_4 k3_0
          have k0_0 := hs43.cellAt 0 rfl 0 rfl
          have k0_1 := hs43.cellAt 0 rfl 1 rfl
          have k1_0 := hs43.cellAt 1 rfl 0 rfl
          have k1_1 := hs43.cellAt 1 rfl 1 rfl
          have k2_0 := hs43.cellAt 2 rfl 0 rfl
          have k2_1 := hs43.cellAt 2 rfl 1 rfl
          have k2_2 := hs43.cellAt 2 rfl 2 rfl
          have k2_3 := hs43.cellAt 2 rfl 3 rfl
          have k2_4 := hs43.cellAt 2 rfl 4 rfl
          have k3_0 := hs43.cellAt 3 rfl 0 rfl
          have g0 := (hs43.freeAt 2 rfl 0)
          have g1 := (hs43.freeAt 2 rfl 1)
          have g2 := (hs43.freeAt 2 rfl 2)
          have g3 := (hs43.freeAt 2 rfl 3)
          have g4 := (hs43.freeAt 2 rfl 4)
          have hs9 := (((((hs43.set (p := [_, _]) (by simp <;> omega) 0 (.int .i64 0)).set (p := [_, _]) (by simp <;> omega) 1 (.slice a8 V c8)).set (p := [_, _]) (by simp <;> omega) 2 (.slice none 0 0)).set (p := [_, _]) (by simp <;> omega) 3 (.slice none 0 0)).set (p := [_, _]) (by simp <;> omega) 4 (.slice none 0 0))
          have HB9 := Lib.hid hs9.bel
          have y0 := hs9.cellAt 2 rfl 0 rfl
          have y1 := hs9.cellAt 2 rfl 1 rfl
          have y2 := hs9.cellAt 2 rfl 2 rfl
          have y3 := hs9.cellAt 2 rfl 3 rfl
          have y4 := hs9.cellAt 2 rfl 4 rfl
          have HFR := Lib.hid (show Fresh w.heap.size (((((w42.setCell ⟨w.heap.size + 1 + 1, 0, none⟩ (.int .i64 0)).setCell ⟨w.heap.size + 1 + 1, 1, none⟩ (.slice a8 V c8)).setCell ⟨w.heap.size + 1 + 1, 2, none⟩ (.slice none 0 0)).setCell ⟨w.heap.size + 1 + 1, 3, none⟩ (.slice none 0 0)).setCell ⟨w.heap.size + 1 + 1, 4, none⟩ (.slice none 0 0)) [.int .i64 0, .slice a8 V c8, .slice none 0 0, .slice none 0 0, .slice none 0 0] _ from (fresh_vd ⟨by decide, by decide⟩ ((((((HF8_44.out.setCell (a := ⟨w.heap.size + 1 + 1, 0, none⟩) (by simp <;> omega) (.int .i64 0)).setCell (a := ⟨w.heap.size + 1 + 1, 1, none⟩) (by simp <;> omega) (.slice a8 V c8)).setCell (a := ⟨w.heap.size + 1 + 1, 2, none⟩) (by simp <;> omega) (.slice none 0 0)).setCell (a := ⟨w.heap.size + 1 + 1, 3, none⟩) (by simp <;> omega) (.slice none 0 0)).setCell (a := ⟨w.heap.size + 1 + 1, 4, none⟩) (by simp <;> omega) (.slice none 0 0)))).lower (by (try simp); omega))
          clear hs9
          go_wp2_with fail
          refine bodyPost_ret (v := .tuple #[.agg #[.int .i64 0, .slice a8 V c8, .slice none 0 0, .slice none 0 0, .slice none 0 0], .int .i64 0]) (by simp [results, Tryz.results31, go_sem, y0, y1, y2, y3, y4]) rfl ⟨_, _, _, _, _, by rw [H5.out], ?_, HB9.out⟩
          rw [H5.out]; exact HFR.out
        · have H5 := Lib.hid (show solveConstF (size, rs) ((V : Int), cs) a = (vd0, 6) by rw [H4.out, if_neg hf])
          have hf0 : 0 ≤ FI := by omega
          have g0 := (hs40.freeAt 2 rfl 0)
          have g1 := (hs40.freeAt 2 rfl 1)
          have g2 := (hs40.freeAt 2 rfl 2)
          have g3 := (hs40.freeAt 2 rfl 3)
          have g4 := (hs40.freeAt 2 rfl 4)
          have hs9 := (((((hs40.set (p := [_, _]) (by simp <;> omega) 0 (.int .i64 0)).set (p := [_, _]) (by simp <;> omega) 1 (.slice none 0 0)).set (p := [_, _]) (by simp <;> omega) 2 (.slice none 0 0)).set (p := [_, _]) (by simp <;> omega) 3 (.slice none 0 0)).set (p := [_, _]) (by simp <;> omega) 4 (.slice none 0 0))
          have HB9 := Lib.hid hs9.bel
          have y0 := hs9.cellAt 2 rfl 0 rfl
          have y1 := hs9.cellAt 2 rfl 1 rfl
          have y2 := hs9.cellAt 2 rfl 2 rfl
          have y3 := hs9.cellAt 2 rfl 3 rfl
          have y4 := hs9.cellAt 2 rfl 4 rfl
          clear hs9
          go_wp2_with fail
          refine bodyPost_ret (v := .tuple #[.agg #[.int .i64 0, .slice none 0 0, .slice none 0 0, .slice none 0 0, .slice none 0 0], .int .i64 6]) (by simp [results, Tryz.results31, go_sem, y0, y1, y2, y3, y4]) rfl ⟨_, _, _, _, _, by rw [H5.out], ?_, HB9.out⟩
          rw [H5.out]; exact fresh_vd ⟨by decide, by decide⟩ fresh_nil_list

end Go.Proofs.YtjkjfjpajmjglaaGreat
