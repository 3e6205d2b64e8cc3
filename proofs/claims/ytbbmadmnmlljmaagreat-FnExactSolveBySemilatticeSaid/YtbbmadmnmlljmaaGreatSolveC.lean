/-
  CONTRACTS: SolveByConstant, both sides. (Printed by wip/gensolve.py.)
-/
import Derived.Test.YtbbmadmnmlljmaaGreatFail
import Derived.Test.YtbbmadmnmlljmaaGreatRepeat
import Derived.Test.YtbbmadmnmlljmaaGreatOp
namespace Go.Proofs.YtbbmadmnmlljmaaGreat
open Go.RowKit Go.Shelf Go.IntWalk
open Rep (Rd Own sz)
set_option linter.unusedSimpArgs false
set_option linter.unusedVariables false

def vd0 : Vdct := (0, [], [], [], [])
theorem fresh_vd {lo : Nat} {w : World} {k : Int} {v : Value} {l : List Int} (hI : I64 k) (h : Fresh lo w [v] l) : Fresh lo w [.int .i64 k, v, .slice none 0 0, .slice none 0 0, .slice none 0 0] ((k, l, [], [], []) : Vdct) := by
  obtain ⟨ps, h1, h2, h3⟩ := h
  have e : ∀ {α : Type} [Rep α], Own [] w [.slice none 0 0] ([] : List α) := ⟨_, rfl, .inl ⟨rfl, rfl, none, 0, rfl, Nat.zero_le _⟩⟩
  exact ⟨[] ++ (ps ++ ([] ++ ([] ++ []))), mk_own ⟨rfl, rfl, hI⟩ (mk_own h1 (mk_own e (mk_own e e))), by simpa using h2, fun k hk => h3 k (by simpa using hk)⟩
theorem rd_cons_mk {α : Type} [Rep α] {w : World} {k : Int} {vs : List Value} {x : α} (hI : I64 k) (h : Rd w vs x) : Rd w (.int .i64 k :: vs) (k, x) := ⟨[_], vs, rfl, ⟨rfl, hI⟩, h⟩
theorem rd_single {w : World} {b : Nat} {a : Int} (hI : I64 a) (h : w.cell? ⟨b, 0, none⟩ = some (.int .i64 a)) : Rd w [.slice (some ⟨b, 0, none⟩) 1 1] [a] := by
  refine mk_rd (l := [a]) ⟨Nat.le_refl _, by decide, fun i hi => ?_⟩
  obtain rfl : i = 0 := by simp at hi; omega
  refine ⟨b, 0, [.int .i64 a], rfl, ⟨rfl, hI⟩, fun k hk => ?_⟩
  obtain rfl : k = 0 := by simp at hk; omega
  simpa using h
def constOp (size a : Int) : OpT := (1, List.replicate size.toNat a)
def constV (x : Inst) (a : Int) : List Int := List.replicate x.1.toNat a
def brokenF (t : Tmpl) (f : OpT) : Int := firstI (fun r => !keepsP t.1 f r) t.2
def solveConstF (t : Tmpl) (x : Inst) (a : Int) : Vdct × Int :=
  if instOk t x then (if inB a 0 (t.1 - 1) then (if brokenF t (constOp t.1 a) < 0 then (if failF t x (constV x a) < 0 then ((0, constV x a, [], [], []), 0) else (vd0, 6)) else (vd0, 4)) else (vd0, 2)) else (vd0, 1)
theorem solveConstF_le (t : Tmpl) (x : Inst) (a : Int) : (solveConstF t x a).1.2.1.length ≤ 10 ∧ (solveConstF t x a).1.2.2 = ([], [], []) := by
  unfold solveConstF
  by_cases h : instOk t x = true
  · rw [if_pos h]
    have := (instOk_get h).2.1
    split
    · split
      · split
        · simp [constV]; omega
        · simp [vd0]
      · simp [vd0]
    · simp [vd0]
  · rw [if_neg h]; simp [vd0]
theorem pow_one0 (z : Int) : z ^ (1 : Int).toNat = z := by show z ^ 1 = z; simp [Int.pow_succ]
theorem const_ok {size a : Int} (hs : 1 ≤ size ∧ size ≤ 4) (ha : 0 ≤ a ∧ a ≤ size - 1) : opOk size (constOp size a) = true := by
  obtain ⟨n, rfl⟩ : ∃ n : Nat, size = (n : Int) := ⟨size.toNat, by omega⟩
  simp only [opOk, constOp, Bool.and_eq_true, valsOk, decide_eq_true_eq, List.all_eq_true, Int.toNat_natCast]
  refine ⟨⟨inB_mk hs, inB_mk (by omega)⟩, ?_, fun b hb => ?_⟩
  · simp
    exact (pow_one0 (n : Int)).symm
  · obtain ⟨_, rfl⟩ := List.mem_replicate.1 hb
    exact inB_mk ha
set_option maxHeartbeats 2000000 in
theorem firstBroken1_by (size : Int) (f : OpT) (tb fb : Nat) (f0 f1 : Value) (rs : List RelT) (w : World) (hok : opOk size f = true) (hrs : ∀ r, r ∈ rs → relOk size r = true) (hf : Rd w [f0, f1] f) (hc0 : w.cell? ⟨tb, 0, none⟩ = some (.int .i64 size)) (d0 : w.cell? ⟨fb, 0, none⟩ = some f0) (d1 : w.cell? ⟨fb, 1, none⟩ = some f1) :
    PredRl 182 #[.pointer (some ⟨tb, 0, none⟩), .pointer (some ⟨fb, 0, none⟩)] w rs (fun r => !keepsP size f r) := by
  intro W r u0 u1 hb hr hmem
  have g0 := cellL hb hc0
  have e0 := cellL hb d0
  have e1 := cellL hb d1
  have HF := Lib.hid (Rd.mono hf hb)
  have HR := Lib.hid hr
  have HRK := Lib.hid (hrs r hmem)
  have HOK := Lib.hid hok
  obtain ⟨fa, ft⟩ := f
  obtain ⟨ra, rt⟩ := r
  have zf := rd_cons rfl hf
  obtain ⟨rfl, _⟩ := rd_i1 zf.1
  obtain ⟨af, cf, rfl, _⟩ := rd_list zf.2
  have zr := rd_cons rfl hr
  obtain ⟨rfl, _⟩ := rd_i1 zr.1
  obtain ⟨ar, cr, rfl, _⟩ := rd_list zr.2
  clear hf hr zf zr hc0 d0 d1 hb hmem hrs hok
  show Calls Tryz.prog 182 #[_, .pointer (some ⟨tb, 0, none⟩), .pointer (some ⟨fb, 0, none⟩)] W _
  have g0_ := cellL (St.start W).bel g0
  clear g0_
  have g0_ := cellL (St.start W).bel g0
  have e0_ := cellL (St.start W).bel e0
  clear g0_ e0_
  have g0_ := cellL (St.start W).bel g0
  have e0_ := cellL (St.start W).bel e0
  have e1_ := cellL (St.start W).bel e1
  have hs1 := (St.start W).alloc #[.int .i64 ra, .slice ar rt.length cr] 100 (n := W.heap.size) (by simp)
  clear g0_ e0_ e1_
  have k0_0 := hs1.cellAt 0 rfl 0 rfl
  have k0_1 := hs1.cellAt 0 rfl 1 rfl
  have g0_ := cellL hs1.bel g0
  have e0_ := cellL hs1.bel e0
  have e1_ := cellL hs1.bel e1
  go_enter Tryz.func182, Tryz.ntmps182
  go_wp2_with fail
  refine (keeps_c size (fa, ft) (ra, rt) _ _ _ _ _ (Rd.mono HF.out hs1.bel) (Rd.mono HR.out hs1.bel) HOK.out HRK.out).mono ?_
  rintro e w2 ⟨rfl, hbw2⟩
  have hz_w2 : W.heap.size + 1 ≤ w2.heap.size := by have h9 := hbw2.size; (try simp at h9); omega
  have hs3 := hs1.step hbw2
  clear k0_0 k0_1 g0_ e0_ e1_
  have k0_0 := hs3.cellAt 0 rfl 0 rfl
  have k0_1 := hs3.cellAt 0 rfl 1 rfl
  have g0_ := cellL hs3.bel g0
  have e0_ := cellL hs3.bel e0
  have e1_ := cellL hs3.bel e1
  go_wp2_with fail
  go_ret
  exact ⟨rfl, hs3.bel⟩
set_option maxHeartbeats 2000000 in
theorem isKept_c (t : Tmpl) (f : OpT) (t0 t1 f0 f1 : Value) (w : World) (ht : Rd w [t0, t1] t) (hf : Rd w [f0, f1] f) (hok : opOk t.1 f = true) (hrs : ∀ r, r ∈ t.2 → relOk t.1 r = true) :
    Calls Tryz.prog 78 #[.agg #[t0, t1], .agg #[f0, f1]] w fun e w' => e = .returned (.bool (decide (brokenF t f < 0))) ∧ Below w.heap.size w w' := by
  obtain ⟨size, rs⟩ := t
  obtain ⟨fa, ft⟩ := f
  have zt := rd_cons rfl ht
  obtain ⟨rfl, _⟩ := rd_i1 zt.1
  obtain ⟨at0, ct0, rfl, _⟩ := rd_list zt.2
  have zf := rd_cons rfl hf
  obtain ⟨rfl, _⟩ := rd_i1 zf.1
  obtain ⟨af, cf, rfl, _⟩ := rd_list zf.2
  have HR := Lib.hid zt.2
  have HF := Lib.hid hf
  have HOK := Lib.hid hok
  have HRS := Lib.hid hrs
  clear ht hf zt zf hok hrs
  have eg : ∀ args w, (callFunc 182 args).run Tryz.prog w = .ok (.enter 182 args) w := enters_of Tryz.func182 (by kernel_rfl) rfl
  have inner : ∀ (W : World), Rd W [.slice at0 rs.length ct0] rs → Rd W [.int .i64 fa, .slice af ft.length cf] (fa, ft) → Calls Tryz.prog 142 #[.agg #[.int .i64 size, .slice at0 rs.length ct0], .agg #[.int .i64 fa, .slice af ft.length cf]] W fun e w' => e = .returned (.int .i64 (brokenF (size, rs) (fa, ft))) ∧ Below W.heap.size W w' := by
    intro W h1 h2
    have HR1 := Lib.hid h1
    have HF1 := Lib.hid h2
    clear h1 h2
    have hs4 := (St.start W).alloc #[.int .i64 size, .slice at0 rs.length ct0] 42 (n := W.heap.size) (by simp)
    have k0_0 := hs4.cellAt 0 rfl 0 rfl
    have k0_1 := hs4.cellAt 0 rfl 1 rfl
    have hs5 := hs4.alloc #[.int .i64 fa, .slice af ft.length cf] 48 (n := W.heap.size + 1) (by simp)
    clear k0_0 k0_1
    have k0_0 := hs5.cellAt 0 rfl 0 rfl
    have k0_1 := hs5.cellAt 0 rfl 1 rfl
    have k1_0 := hs5.cellAt 1 rfl 0 rfl
    have k1_1 := hs5.cellAt 1 rfl 1 rfl
    go_enter Tryz.func142, Tryz.ntmps142
    go_wp2_with fail
    refine (indexRels_c rs _ 182 _ _ _ (Rd.mono HR1.out hs5.bel) eg (firstBroken1_by size (fa, ft) (W.heap.size) (W.heap.size + 1) _ _ rs _ HOK.out HRS.out (Rd.mono HF1.out hs5.bel) (hs5.cellAt 0 rfl 0 rfl) (hs5.cellAt 1 rfl 0 rfl) (hs5.cellAt 1 rfl 1 rfl))).mono ?_
    rintro e w6 ⟨rfl, hbw6⟩
    have hz_w6 : W.heap.size + 1 + 1 ≤ w6.heap.size := by have h9 := hbw6.size; (try simp at h9); omega
    have hs7 := hs5.step hbw6
    clear k0_0 k0_1 k1_0 k1_1
    have k0_0 := hs7.cellAt 0 rfl 0 rfl
    have k0_1 := hs7.cellAt 0 rfl 1 rfl
    have k1_0 := hs7.cellAt 1 rfl 0 rfl
    have k1_1 := hs7.cellAt 1 rfl 1 rfl
    go_wp2_with fail
    go_ret
    exact ⟨rfl, hs7.bel⟩
  have hs8 := (St.start w).alloc #[.int .i64 size, .slice at0 rs.length ct0] 42 (n := w.heap.size) (by simp)
  have k0_0 := hs8.cellAt 0 rfl 0 rfl
  have k0_1 := hs8.cellAt 0 rfl 1 rfl
  have hs9 := hs8.alloc #[.int .i64 fa, .slice af ft.length cf] 48 (n := w.heap.size + 1) (by simp)
  clear k0_0 k0_1
  have k0_0 := hs9.cellAt 0 rfl 0 rfl
  have k0_1 := hs9.cellAt 0 rfl 1 rfl
  have k1_0 := hs9.cellAt 1 rfl 0 rfl
  have k1_1 := hs9.cellAt 1 rfl 1 rfl
  go_enter Tryz.func78, Tryz.ntmps78
  go_wp2_with fail
  refine (inner _ (Rd.mono HR.out hs9.bel) (Rd.mono HF.out hs9.bel)).mono ?_
  rintro e w10 ⟨rfl, hbw10⟩
  have hz_w10 : w.heap.size + 1 + 1 ≤ w10.heap.size := by have h9 := hbw10.size; (try simp at h9); omega
  have hs11 := hs9.step hbw10
  clear k0_0 k0_1 k1_0 k1_1
  have k0_0 := hs11.cellAt 0 rfl 0 rfl
  have k0_1 := hs11.cellAt 0 rfl 1 rfl
  have k1_0 := hs11.cellAt 1 rfl 0 rfl
  have k1_1 := hs11.cellAt 1 rfl 1 rfl
  go_wp2_with fail
  go_ret
  exact ⟨rfl, hs11.bel⟩
set_option maxHeartbeats 2000000 in
theorem solution_c (ao : Option Addr) (n c : Nat) (w : World) : Calls Tryz.prog 42 #[.slice ao n c] w fun e w' => e = .returned (.agg #[.int .i64 0, .slice ao n c, .slice none 0 0, .slice none 0 0, .slice none 0 0]) ∧ Below w.heap.size w w' := by
  have hs12 := (St.start w).alloc #[.int .i64 0, .slice none 0 0, .slice none 0 0, .slice none 0 0, .slice none 0 0] 37 (n := w.heap.size) (by simp)
  have k0_0 := hs12.cellAt 0 rfl 0 rfl
  have k0_1 := hs12.cellAt 0 rfl 1 rfl
  have k0_2 := hs12.cellAt 0 rfl 2 rfl
  have k0_3 := hs12.cellAt 0 rfl 3 rfl
  have k0_4 := hs12.cellAt 0 rfl 4 rfl
  go_enter Tryz.func42, Tryz.ntmps42
  have g0 := (hs12.freeAt 0 rfl 0)
  have g1 := (hs12.freeAt 0 rfl 1)
  have g2 := (hs12.freeAt 0 rfl 2)
  have g3 := (hs12.freeAt 0 rfl 3)
  have g4 := (hs12.freeAt 0 rfl 4)
  have hs9 := (((((hs12.set (p := []) (by simp) 0 (.int .i64 0)).set (p := []) (by simp) 1 (.slice ao n c)).set (p := []) (by simp) 2 (.slice none 0 0)).set (p := []) (by simp) 3 (.slice none 0 0)).set (p := []) (by simp) 4 (.slice none 0 0))
  have HB9 := Lib.hid hs9.bel
  have y0 := hs9.cellAt 0 rfl 0 rfl
  have y1 := hs9.cellAt 0 rfl 1 rfl
  have y2 := hs9.cellAt 0 rfl 2 rfl
  have y3 := hs9.cellAt 0 rfl 3 rfl
  have y4 := hs9.cellAt 0 rfl 4 rfl
  clear hs9
  go_wp2_with fail
  refine bodyPost_ret (v := .agg #[.int .i64 0, .slice ao n c, .slice none 0 0, .slice none 0 0, .slice none 0 0]) (by simp [results, Tryz.results42, go_sem, y0, y1, y2, y3, y4]) rfl ⟨rfl, belowA _ _⟩

end Go.Proofs.YtbbmadmnmlljmaaGreat
