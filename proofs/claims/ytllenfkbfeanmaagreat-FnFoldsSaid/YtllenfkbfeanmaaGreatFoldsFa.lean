/-
  CONTRACTS: the first pairs (the reference's), the place of a pair, whether a relation has a tuple (the program's).
-/
import Derived.Test.YtllenfkbfeanmaaGreatFirstSFa
import Derived.Test.YtllenfkbfeanmaaGreatGreedyVFa
import Derived.Test.YtllenfkbfeanmaaGreatGreedyLFa
import Derived.Test.YtllenfkbfeanmaaGreatFoldVFa
import Derived.Test.YtllenfkbfeanmaaGreatFoldLFa
namespace Go.Proofs.YtllenfkbfeanmaaGreat
open Go.RowKit Go.Shelf Go.IntWalk
open Rep (Rd Own sz)
set_option linter.unusedSimpArgs false
set_option linter.unusedVariables false

set_option maxRecDepth 100000 in
set_option maxHeartbeats 4000000 in
theorem PairIndex_c (v i j : Nat) (w : World) (hv : v ≤ 10) (hij : i < j) (hj : j < v) :
    Calls Tryz.prog 15 #[.int .i64 v, .int .i64 i, .int .i64 j] w fun e w' => e = .returned (.tuple #[.int .i64 (pidx i j), .int .i64 0]) ∧ Below w.heap.size w w' := by
  have HV := Lib.hid (show inB (v : Int) 1 10 = true from inB_mk (by omega))
  have HI := Lib.hid (show inB (i : Int) 0 ((v : Int) - 1) = true from inB_mk (by omega))
  have HJ := Lib.hid (show inB (j : Int) 0 ((v : Int) - 1) = true from inB_mk (by omega))
  have hw : IntKind.i64.wrap ((v : Int) - 1) = (v : Int) - 1 := i64_in _ (by omega)
  have hne : ((i : Int) == (j : Int)) = false := by simp; omega
  go_enter Tryz.func15, Tryz.ntmps15
  go_wp2_with fail
  refine (isVars_c (v : Int) _).mono ?_
  rintro e w1 ⟨rfl, rfl, rfl⟩
  rw [HV.out]
  go_wp2_with fail
  refine (within_c (i : Int) 0 ((v : Int) - 1) _).mono ?_
  rintro e w2 ⟨rfl, rfl, rfl⟩
  rw [HI.out]
  go_wp2_with fail
  refine (within_c (j : Int) 0 ((v : Int) - 1) _).mono ?_
  rintro e w3 ⟨rfl, rfl, rfl⟩
  rw [HJ.out]
  go_wp2_with fail
  refine (pairIndex_c i j _ hij (by omega)).mono ?_
  rintro e w4 ⟨rfl, rfl, rfl⟩
  go_wp2_with fail
  exact bodyPost_ret (v := .tuple #[.int .i64 (pidx i j), .int .i64 0]) (by simp [results, Tryz.results15, go_sem]) rfl ⟨rfl, (St.start w).bel⟩
set_option maxRecDepth 100000 in
set_option maxHeartbeats 4000000 in
theorem HasTuple_c (size : Int) (r : RelT) (t : List Int) (v0 v1 va : Value) (w : World) (hr : Rd w [v0, v1] r) (ht : Rd w [va] t) (hok : relOk size r = true) :
    Calls Tryz.prog 16 #[.int .i64 size, .agg #[v0, v1], va] w fun e w' => e = .returned (.tuple #[.bool (hasT r.2 t), .int .i64 0]) ∧ Below w.heap.size w w' := by
  have HOK := Lib.hid hok
  have HR0 := Lib.hid hr
  have HT := Lib.hid ht
  have HIN := Lib.hid (relOk_inc hok)
  have hcnt := (relOk_count hok).2
  obtain ⟨ar, l⟩ := r
  have hcnt : l.length ≤ 256 := hcnt
  have z := rd_cons rfl hr
  obtain ⟨rfl, _⟩ := rd_i1 z.1
  obtain ⟨al, cl, rfl, _⟩ := rd_list z.2
  obtain ⟨at_, ct, rfl, _⟩ := rd_list ht
  clear hr ht hok z
  have hs5 := (St.start w).alloc #[.int .i64 ar, .slice al l.length cl] 50 (n := w.heap.size) (by simp)
  have k0_0 := hs5.cellAt 0 rfl 0 rfl
  have k0_1 := hs5.cellAt 0 rfl 1 rfl
  go_enter Tryz.func16, Tryz.ntmps16
  go_wp2_with fail
  refine (ValidRel_c size (ar, l) _ _ _ (Rd.mono HR0.out hs5.bel)).mono ?_
  rintro e w6 ⟨rfl, hbw6⟩
  have hz_w6 : w.heap.size + 1 ≤ w6.heap.size := by have h9 := hbw6.size; (try simp at h9); omega
  have hs7 := hs5.step hbw6
  clear k0_0 k0_1
  have k0_0 := hs7.cellAt 0 rfl 0 rfl
  have k0_1 := hs7.cellAt 0 rfl 1 rfl
  rw [HOK.out]
  go_wp2_with fail
  refine (has_c (ar, l) t _ _ _ _ (Rd.mono HR0.out hs7.bel) (Rd.mono HT.out hs7.bel) HIN.out (show l.length ≤ 1000000 by omega)).mono ?_
  rintro e w8 ⟨rfl, hbw8⟩
  have hz_w8 : w6.heap.size ≤ w8.heap.size := by have h9 := hbw8.size; (try simp at h9); omega
  have hs9 := hs7.step hbw8
  clear k0_0 k0_1
  have k0_0 := hs9.cellAt 0 rfl 0 rfl
  have k0_1 := hs9.cellAt 0 rfl 1 rfl
  go_wp2_with fail
  exact bodyPost_ret (v := .tuple #[.bool (hasT l t), .int .i64 0]) (by simp [results, Tryz.results16, go_sem]) rfl ⟨rfl, hs9.bel⟩
set_option maxRecDepth 100000 in
set_option maxHeartbeats 4000000 in
theorem FirstPairs_c (t : Tmpl) (x : Inst) (V : Nat) (t0 t1 x0 x1 : Value) (w : World) (ht : Rd w [t0, t1] t) (hx : Rd w [x0, x1] x) (hok : instOk t x = true) (hV : x.1 = (V : Int)) :
    Calls Tryz.prog 11 #[.agg #[t0, t1], .agg #[x0, x1]] w fun e w' => ∃ v, e = .returned (.tuple #[v, .int .i64 0]) ∧ Fresh w.heap.size w' [v] (fstP t x V) ∧ Below w.heap.size w w' := by
  have HOK := Lib.hid hok
  have HHT := Lib.hid ht
  have HHX := Lib.hid hx
  obtain ⟨size, rs⟩ := t
  obtain ⟨vars, cs⟩ := x
  obtain rfl : vars = (V : Int) := hV
  have zt := rd_cons rfl ht
  obtain ⟨rfl, _⟩ := rd_i1 zt.1
  obtain ⟨at0, ct0, rfl, _⟩ := rd_list zt.2
  have zx := rd_cons rfl hx
  obtain ⟨rfl, _⟩ := rd_i1 zx.1
  obtain ⟨ax, cx, rfl, _⟩ := rd_list zx.2
  clear ht hx hok zt zx
  have hs10 := (St.start w).alloc #[.int .i64 size, .slice at0 rs.length ct0] 26 (n := w.heap.size) (by simp)
  have k0_0 := hs10.cellAt 0 rfl 0 rfl
  have k0_1 := hs10.cellAt 0 rfl 1 rfl
  have hs11 := hs10.alloc #[.int .i64 V, .slice ax cs.length cx] 29 (n := w.heap.size + 1) (by simp)
  clear k0_0 k0_1
  have k0_0 := hs11.cellAt 0 rfl 0 rfl
  have k0_1 := hs11.cellAt 0 rfl 1 rfl
  have k1_0 := hs11.cellAt 1 rfl 0 rfl
  have k1_1 := hs11.cellAt 1 rfl 1 rfl
  go_enter Tryz.func11, Tryz.ntmps11
  go_wp2_with fail
  refine (l05Ok_c (size, rs) ((V : Int), cs) (w.heap.size) (w.heap.size + 1) _ _ _ _ _ (Rd.mono HHT.out hs11.bel) (Rd.mono HHX.out hs11.bel) (hs11.cellAt 0 rfl 0 rfl) (hs11.cellAt 0 rfl 1 rfl) (hs11.cellAt 1 rfl 0 rfl) (hs11.cellAt 1 rfl 1 rfl)).mono ?_
  rintro e w12 ⟨rfl, hbw12⟩
  have hz_w12 : w.heap.size + 1 + 1 ≤ w12.heap.size := by have h9 := hbw12.size; (try simp at h9); omega
  have hs13 := hs11.step hbw12
  clear k0_0 k0_1 k1_0 k1_1
  have k0_0 := hs13.cellAt 0 rfl 0 rfl
  have k0_1 := hs13.cellAt 0 rfl 1 rfl
  have k1_0 := hs13.cellAt 1 rfl 0 rfl
  have k1_1 := hs13.cellAt 1 rfl 1 rfl
  rw [HOK.out]
  go_wp2_with fail
  refine (l05First_c (size, rs) ((V : Int), cs) V (w.heap.size) (w.heap.size + 1) _ _ _ _ _ (Rd.mono HHT.out hs13.bel) (Rd.mono HHX.out hs13.bel) HOK.out rfl (hs13.cellAt 0 rfl 0 rfl) (hs13.cellAt 0 rfl 1 rfl) (hs13.cellAt 1 rfl 0 rfl) (hs13.cellAt 1 rfl 1 rfl)).mono ?_
  rintro e w14 ⟨v, rfl, fr, hbw14⟩
  have hz_w14 : w12.heap.size ≤ w14.heap.size := by have h9 := hbw14.size; (try simp at h9); omega
  have hs15 := hs13.step hbw14
  clear k0_0 k0_1 k1_0 k1_1
  have k0_0 := hs15.cellAt 0 rfl 0 rfl
  have k0_1 := hs15.cellAt 0 rfl 1 rfl
  have k1_0 := hs15.cellAt 1 rfl 0 rfl
  have k1_1 := hs15.cellAt 1 rfl 1 rfl
  have HF := Lib.hid (fr.lower (lo' := w.heap.size) (by (try simp); omega))
  obtain ⟨af, cf, rfl, _⟩ := rd_list HF.out.rd
  clear fr
  go_wp2_with fail
  exact bodyPost_ret (v := .tuple #[.slice af (fstP (size, rs) ((V : Int), cs) V).length cf, .int .i64 0]) (by simp [results, Tryz.results11, go_sem]) rfl ⟨_, rfl, HF.out, hs15.bel⟩

end Go.Proofs.YtllenfkbfeanmaaGreat

