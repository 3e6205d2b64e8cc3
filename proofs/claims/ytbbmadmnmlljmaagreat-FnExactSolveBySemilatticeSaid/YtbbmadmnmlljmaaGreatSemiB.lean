/-
  SEVERAL TEXTS IN ONE.
-/
import Derived.Test.YtbbmadmnmlljmaaGreatKind
import Derived.Test.YtbbmadmnmlljmaaGreatSolveC
import Derived.Test.YtbbmadmnmlljmaaGreatMakeArcs
import Derived.Test.YtbbmadmnmlljmaaGreatPairs
import Derived.Test.YtbbmadmnmlljmaaGreatKindS
import Derived.Test.YtbbmadmnmlljmaaGreatSolveCS
import Derived.Test.YtbbmadmnmlljmaaGreatArcsS
import Derived.Test.YtbbmadmnmlljmaaGreatMakeArcsS

/-
  CONTRACTS: solving by a semilattice: the code of its arguments, domains with all values; the program's side.
-/
namespace Go.Proofs.YtbbmadmnmlljmaaGreat
open Go.RowKit Go.Shelf Go.IntWalk
open Rep (Rd Own sz)
set_option linter.unusedSimpArgs false
set_option linter.unusedVariables false

/-- The code of a template, an instance and an operation that is asked to be of a kind (kb) and to keep all relations. -/
def wayF (kb : Bool) (t : Tmpl) (x : Inst) (f : OpT) : Int := if instOk t x && opOk t.1 f then (if kb && decide (brokenF t f < 0) then 0 else 4) else 1
theorem wayF_0 {kb : Bool} {t : Tmpl} {x : Inst} {f : OpT} (h : wayF kb t x f = 0) : instOk t x = true ∧ opOk t.1 f = true ∧ kb = true := by
  unfold wayF at h
  by_cases h1 : (instOk t x && opOk t.1 f) = true
  · rw [if_pos h1] at h
    by_cases h2 : (kb && decide (brokenF t f < 0)) = true
    · rw [Bool.and_eq_true] at h1 h2
      exact ⟨h1.1, h1.2, h2.1⟩
    · rw [if_neg h2] at h
      cases h
  · rw [if_neg h1] at h
    cases h
def fullD (size V : Nat) : List (List Int) := List.replicate V (upL 0 size)
theorem upL_rises (size : Nat) (h : 1 ≤ size) : risesB 0 ((size : Int) - 1) (upL 0 size) = true := by
  unfold risesB
  rw [List.all_eq_true]
  intro i hi
  rw [List.mem_range, upL_len] at hi
  unfold risAt
  have hg : ∀ k, k < size → (upL 0 size).getD k 0 = (k : Int) := fun k hk => by
    rw [List.getD, List.getElem?_eq_getElem (by rw [upL_len]; exact hk)]
    simp [upL]
  rw [hg i hi, Bool.and_eq_true, Bool.or_eq_true]
  refine ⟨inB_mk (by omega), ?_⟩
  by_cases h0 : i = 0
  · exact .inl (decide_eq_true h0)
  · right
    rw [hg (i - 1) (by omega)]
    exact decide_eq_true (by omega)
theorem fullD_ok {t : Tmpl} {x : Inst} {sn V : Nat} (h : instOk t x = true) (hs : t.1 = (sn : Int)) (hV : x.1 = (V : Int)) : domsOk t x (fullD sn V) = true := by
  have h1 := (tmplOk_get (instOk_get h).1).1
  unfold domsOk
  rw [h, Bool.true_and, Bool.and_eq_true]
  refine ⟨decide_eq_true (by simp [fullD, hV]), ?_⟩
  rw [List.all_eq_true]
  intro d hd
  obtain ⟨_, rfl⟩ := List.mem_replicate.1 hd
  rw [hs]
  exact upL_rises sn (by omega)
theorem fullD_succ (size V : Nat) : fullD size V ++ [upL 0 size] = fullD size (V + 1) := List.replicate_succ'.symm
set_option maxRecDepth 100000 in
set_option maxHeartbeats 4000000 in
theorem solverFaultS_c (t : Tmpl) (x : Inst) (f : OpT) (t0 t1 x0 x1 f0 f1 : Value) (w : World) (ht : Rd w [t0, t1] t) (hx : Rd w [x0, x1] x) (hf : Rd w [f0, f1] f) :
    Calls Tryz.prog 35 #[.agg #[t0, t1], .agg #[x0, x1], .agg #[f0, f1], .int .i64 6] w fun e w' => e = .returned (.int .i64 (wayF (semiB t.1 f) t x f)) ∧ Below w.heap.size w w' := by
  obtain ⟨size, rs⟩ := t
  obtain ⟨vars, cs⟩ := x
  obtain ⟨fa, ft⟩ := f
  have HT := Lib.hid ht
  have HX := Lib.hid hx
  have HF := Lib.hid hf
  have zt := rd_cons rfl ht
  obtain ⟨rfl, _⟩ := rd_i1 zt.1
  obtain ⟨at0, ct0, rfl, _⟩ := rd_list zt.2
  have zx := rd_cons rfl hx
  obtain ⟨rfl, _⟩ := rd_i1 zx.1
  obtain ⟨ax, cx, rfl, _⟩ := rd_list zx.2
  have zf := rd_cons rfl hf
  obtain ⟨rfl, _⟩ := rd_i1 zf.1
  obtain ⟨af, cf, rfl, _⟩ := rd_list zf.2
  clear ht hx hf zt zx zf
  have hs1 := (St.start w).alloc #[.int .i64 size, .slice at0 rs.length ct0] 42 (n := w.heap.size) (by simp)
  have k0_0 := hs1.cellAt 0 rfl 0 rfl
  have k0_1 := hs1.cellAt 0 rfl 1 rfl
  have hs2 := hs1.alloc #[.int .i64 vars, .slice ax cs.length cx] 46 (n := w.heap.size + 1) (by simp)
  clear k0_0 k0_1
  have k0_0 := hs2.cellAt 0 rfl 0 rfl
  have k0_1 := hs2.cellAt 0 rfl 1 rfl
  have k1_0 := hs2.cellAt 1 rfl 0 rfl
  have k1_1 := hs2.cellAt 1 rfl 1 rfl
  have hs3 := hs2.alloc #[.int .i64 fa, .slice af ft.length cf] 48 (n := w.heap.size + 1 + 1) (by simp)
  clear k0_0 k0_1 k1_0 k1_1
  have k0_0 := hs3.cellAt 0 rfl 0 rfl
  have k0_1 := hs3.cellAt 0 rfl 1 rfl
  have k1_0 := hs3.cellAt 1 rfl 0 rfl
  have k1_1 := hs3.cellAt 1 rfl 1 rfl
  have k2_0 := hs3.cellAt 2 rfl 0 rfl
  have k2_1 := hs3.cellAt 2 rfl 1 rfl
  go_enter Tryz.func35, Tryz.ntmps35
  go_wp2_with fail
  refine (ValidInstance_c (size, rs) (vars, cs) _ _ _ _ _ (Rd.mono HT.out hs3.bel) (Rd.mono HX.out hs3.bel)).mono ?_
  rintro e w4 ⟨rfl, hbw4⟩
  have hz_w4 : w.heap.size + 1 + 1 + 1 ≤ w4.heap.size := by have h9 := hbw4.size; (try simp at h9); omega
  have hs5 := hs3.step hbw4
  clear k0_0 k0_1 k1_0 k1_1 k2_0 k2_1
  have k0_0 := hs5.cellAt 0 rfl 0 rfl
  have k0_1 := hs5.cellAt 0 rfl 1 rfl
  have k1_0 := hs5.cellAt 1 rfl 0 rfl
  have k1_1 := hs5.cellAt 1 rfl 1 rfl
  have k2_0 := hs5.cellAt 2 rfl 0 rfl
  have k2_1 := hs5.cellAt 2 rfl 1 rfl
  cases h1 : instOk (size, rs) (vars, cs) with
  | false =>
    have H9 := Lib.hid (show wayF (semiB size (fa, ft)) (size, rs) (vars, cs) (fa, ft) = 1 by unfold wayF; rw [h1]; rfl)
    clear h1
    go_wp2_with fail
    go_ret
    exact ⟨ret_int H9.out.symm, hs5.bel⟩
  | true =>
    have H1 := Lib.hid h1
    clear h1
    go_wp2_with fail
    refine (ValidOp_c size (fa, ft) _ _ _ (Rd.mono HF.out hs5.bel)).mono ?_
    rintro e w6 ⟨rfl, hbw6⟩
    have hz_w6 : w4.heap.size ≤ w6.heap.size := by have h9 := hbw6.size; (try simp at h9); omega
    have hs7 := hs5.step hbw6
    clear k0_0 k0_1 k1_0 k1_1 k2_0 k2_1
    have k0_0 := hs7.cellAt 0 rfl 0 rfl
    have k0_1 := hs7.cellAt 0 rfl 1 rfl
    have k1_0 := hs7.cellAt 1 rfl 0 rfl
    have k1_1 := hs7.cellAt 1 rfl 1 rfl
    have k2_0 := hs7.cellAt 2 rfl 0 rfl
    have k2_1 := hs7.cellAt 2 rfl 1 rfl
    cases h2 : opOk size (fa, ft) with
    | false =>
      have H9 := Lib.hid (show wayF (semiB size (fa, ft)) (size, rs) (vars, cs) (fa, ft) = 1 by unfold wayF; rw [H1.out, h2]; rfl)
      clear h2
      go_wp2_with fail
      go_ret
      exact ⟨ret_int H9.out.symm, hs7.bel⟩
    | true =>
      have H2 := Lib.hid h2
      clear h2
      go_wp2_with fail
      refine (isKindS_c size (fa, ft) _ _ _ (Rd.mono HF.out hs7.bel) H2.out).mono ?_
      rintro e w8 ⟨rfl, hbw8⟩
      have hz_w8 : w6.heap.size ≤ w8.heap.size := by have h9 := hbw8.size; (try simp at h9); omega
      have hs9 := hs7.step hbw8
      clear k0_0 k0_1 k1_0 k1_1 k2_0 k2_1
      have k0_0 := hs9.cellAt 0 rfl 0 rfl
      have k0_1 := hs9.cellAt 0 rfl 1 rfl
      have k1_0 := hs9.cellAt 1 rfl 0 rfl
      have k1_1 := hs9.cellAt 1 rfl 1 rfl
      have k2_0 := hs9.cellAt 2 rfl 0 rfl
      have k2_1 := hs9.cellAt 2 rfl 1 rfl
      cases h3 : semiB size (fa, ft) with
      | false =>
        have H9 := Lib.hid (show wayF (semiB size (fa, ft)) (size, rs) (vars, cs) (fa, ft) = 4 by unfold wayF; rw [H1.out, H2.out, h3]; rfl)
        clear h3
        go_wp2_with fail
        go_ret
        exact ⟨ret_int H9.out.symm, hs9.bel⟩
      | true =>
        have H3 := Lib.hid h3
        clear h3
        go_wp2_with fail
        refine (isKept_c (size, rs) (fa, ft) _ _ _ _ _ (Rd.mono HT.out hs9.bel) (Rd.mono HF.out hs9.bel) H2.out (tmplOk_get (instOk_get H1.out).1).2.2).mono ?_
        rintro e w10 ⟨rfl, hbw10⟩
        have hz_w10 : w8.heap.size ≤ w10.heap.size := by have h9 := hbw10.size; (try simp at h9); omega
        have hs11 := hs9.step hbw10
        clear k0_0 k0_1 k1_0 k1_1 k2_0 k2_1
        have k0_0 := hs11.cellAt 0 rfl 0 rfl
        have k0_1 := hs11.cellAt 0 rfl 1 rfl
        have k1_0 := hs11.cellAt 1 rfl 0 rfl
        have k1_1 := hs11.cellAt 1 rfl 1 rfl
        have k2_0 := hs11.cellAt 2 rfl 0 rfl
        have k2_1 := hs11.cellAt 2 rfl 1 rfl
        cases h4 : decide (brokenF (size, rs) (fa, ft) < 0) with
        | false =>
          have H9 := Lib.hid (show wayF (semiB size (fa, ft)) (size, rs) (vars, cs) (fa, ft) = 4 by unfold wayF; rw [H1.out, H2.out, H3.out, h4]; rfl)
          clear h4
          go_wp2_with fail
          go_ret
          exact ⟨ret_int H9.out.symm, hs11.bel⟩
        | true =>
          have H9 := Lib.hid (show wayF (semiB size (fa, ft)) (size, rs) (vars, cs) (fa, ft) = 0 by unfold wayF; rw [H1.out, H2.out, H3.out, h4]; rfl)
          clear h4
          go_wp2_with fail
          go_ret
          exact ⟨ret_int H9.out.symm, hs11.bel⟩
set_option maxRecDepth 100000 in
set_option maxHeartbeats 4000000 in
theorem fullDomains_c (sn V : Nat) (rs : List RelT) (cs : List OpT) (t1 x1 : Value) (w : World) (ht : Rd w [t1] rs) (hx : Rd w [x1] cs) (hs : sn ≤ 4) (hV : V ≤ 10) :
    Calls Tryz.prog 36 #[.agg #[.int .i64 sn, t1], .agg #[.int .i64 V, x1]] w fun e w' => ∃ v, e = .returned v ∧ AccP (fun z => w.heap.size ≤ z) 28 w' v (fullD sn V) ∧ Below w.heap.size w w' := by
  obtain ⟨at0, ct0, rfl, _⟩ := rd_list ht
  obtain ⟨ax, cx, rfl, _⟩ := rd_list hx
  clear ht hx
  have hs12 := (St.start w).alloc #[.int .i64 sn, .slice at0 rs.length ct0] 42 (n := w.heap.size) (by simp)
  have k0_0 := hs12.cellAt 0 rfl 0 rfl
  have k0_1 := hs12.cellAt 0 rfl 1 rfl
  have hs13 := hs12.alloc #[.int .i64 V, .slice ax cs.length cx] 46 (n := w.heap.size + 1) (by simp)
  clear k0_0 k0_1
  have k0_0 := hs13.cellAt 0 rfl 0 rfl
  have k0_1 := hs13.cellAt 0 rfl 1 rfl
  have k1_0 := hs13.cellAt 1 rfl 0 rfl
  have k1_1 := hs13.cellAt 1 rfl 1 rfl
  have HS0 := Lib.hid (show St w (w.heap.size + 1 + 1) (((w.alloc (.cells #[.int .i64 sn, .slice at0 rs.length ct0] 42)).alloc (.cells #[.int .i64 V, .slice ax cs.length cx] 46)).alloc (.cells #[] 28)) [(w.heap.size, #[.int .i64 sn, .slice at0 rs.length ct0], 42), (w.heap.size + 1, #[.int .i64 V, .slice ax cs.length cx], 46)] from hs13.step (belowA ((w.alloc (.cells #[.int .i64 sn, .slice at0 rs.length ct0] 42)).alloc (.cells #[.int .i64 V, .slice ax cs.length cx] 46)) (.cells #[] 28)))
  have HA0 := Lib.hid (show AccP (fun z => w.heap.size + 1 + 1 ≤ z ∧ z < (((w.alloc (.cells #[.int .i64 sn, .slice at0 rs.length ct0] 42)).alloc (.cells #[.int .i64 V, .slice ax cs.length cx] 46)).alloc (.cells #[] 28)).heap.size) 28 (((w.alloc (.cells #[.int .i64 sn, .slice at0 rs.length ct0] 42)).alloc (.cells #[.int .i64 V, .slice ax cs.length cx] 46)).alloc (.cells #[] 28)) (.slice (some ⟨w.heap.size + 1 + 1, 0, none⟩) 0 0) (fullD sn 0) from by
    have h := accP_made (α := List Int) ((w.alloc (.cells #[.int .i64 sn, .slice at0 rs.length ct0] 42)).alloc (.cells #[.int .i64 V, .slice ax cs.length cx] 46)) 28
    have e9 : (((w.alloc (.cells #[.int .i64 sn, .slice at0 rs.length ct0] 42)).alloc (.cells #[.int .i64 V, .slice ax cs.length cx] 46))).heap.size = w.heap.size + 1 + 1 := by simp
    rw [e9] at h
    exact h.wk (fun z hz => by subst hz; simp))
  go_enter Tryz.func36, Tryz.ntmps36
  go_wp2_with fail
  go_loopw [5, 9] (fun oo kv wl => ∃ (k c : Nat) (ao : Option Addr), k ≤ V ∧ kv = .int .i64 k ∧ oo = .slice ao k c ∧ Hid (St w (w.heap.size + 1 + 1) wl [(w.heap.size, #[.int .i64 sn, .slice at0 rs.length ct0], 42), (w.heap.size + 1, #[.int .i64 V, .slice ax cs.length cx], 46)]) ∧ Hid (AccP (fun z => w.heap.size + 1 + 1 ≤ z ∧ z < wl.heap.size) 28 wl (.slice ao k c) (fullD sn k))) (fun _ kv _ => V - (intOf kv).toNat)
  case atStart => exact ⟨0, 0, _, Nat.zero_le _, rfl, rfl, HS0.out, HA0.out⟩
  case round =>
    clear HS0 HA0
    obtain ⟨k, c, ao, hk, rfl, rfl, hst, hac⟩ := hrel
    have hs2 := hst.out
    have hlo := hs2.hi
    have k0_0 := hs2.cellAt 0 rfl 0 rfl
    have k0_1 := hs2.cellAt 0 rfl 1 rfl
    have k1_0 := hs2.cellAt 1 rfl 0 rfl
    have k1_1 := hs2.cellAt 1 rfl 1 rfl
    by_cases hlt : k < V
    · have hkI : (k : Int) < V := by omega
      have HFS := Lib.hid (fullD_succ sn k)
      have HFN := Lib.hid (show (fullD sn k).length = k by simp [fullD])
      go_wp2_with fail
      refine (upTo_c 0 sn _ (by omega) (by omega) (by omega)).mono ?_
      rintro e w5 ⟨v5, rfl, hA5, hb5⟩
      obtain ⟨a5, c5, rfl, _⟩ := hA5.len
      have HI6 := Lib.hid (((hA5.accP (Nat.le_refl _)).ip).mono (belowA w5 (.cells #[.slice a5 (upL 0 sn).length c5] 28)))
      have HA6 := Lib.hid ((hac.out.mono hb5).mono (belowA w5 (.cells #[.slice a5 (upL 0 sn).length c5] 28)))
      have HS6 := Lib.hid ((hs2.step hb5).step (belowA w5 (.cells #[.slice a5 (upL 0 sn).length c5] 28)))
      have hz5 := hb5.size
      clear hA5 hb5
      go_wp2_with (at_builtin; refine wpList_append_accP _ rfl _ _ _ rfl E_lists rfl HA6.out HI6.out (fun z h1 h2 => by have h3 := h1.2; have h4 := h2.1; omega) ⟨w5.heap.size, 0, none⟩ 1 rfl (news1 (cell_at_block (heap_alloc_new _ _))) (by rw [HFN.out]; omega) ?_; simp only [HFN.out, HFS.out]; intro a9 c9 w9 hA9 hB9)
      have hz9 := hB9.size
      have HS9 := Lib.hid (HS6.out.butP hB9 (fun z hz => by have := hz.1; omega) (fun x hx hA => by have h1 := hA.1; simp at hx; rcases hx with rfl | rfl <;> (simp only at h1; omega)))
      have HA9 := Lib.hid (hA9.tight.wk (C := fun z => w.heap.size + 1 + 1 ≤ z ∧ z < w9.heap.size) (fun z hz => ⟨by
        rcases hz.1 with h | h | h
        · exact h.1
        · have := h.1; omega
        · rw [h]; simp; omega, hz.2⟩))
      clear hA9 hB9 hz9
      go_wp2_with fail
      go_roundw
      case rel => exact ⟨k + 1, c9, a9, by omega, by go_num, rfl, HS9.out, HA9.out⟩
      case measure => simp [intOf]; omega
    · obtain rfl : k = V := by omega
      have hnl : ¬ ((k : Int) < k) := by omega
      have HAF := Lib.hid (hac.out.wk (C := fun z => w.heap.size ≤ z) (fun z hz => by have := hz.1; omega))
      have HBF := Lib.hid hs2.bel
      go_wp2_with fail
      go_ret
      exact ⟨_, rfl, HAF.out, HBF.out⟩
theorem isEmpty_by (w : World) (l : List (List Int)) : PredL 40 #[] w l (fun d => decide (d.length = 0)) := by
  intro W y u0 hbel hy hmem
  obtain ⟨ay, cy, rfl, _⟩ := rd_list hy
  show Calls Tryz.prog 40 #[_] W _
  clear hy hbel hmem
  by_cases h : y.length = 0
  · have hb : ((y.length : Int) == 0) = true := by rw [h]; rfl
    have H9 := Lib.hid (show decide (y.length = 0) = true from decide_eq_true h)
    clear h
    go_enter Tryz.func40, Tryz.ntmps40
    go_wp2_with fail
    go_ret
    exact ⟨ret_bool H9.out.symm, Below.refl _ _⟩
  · have hb : ((y.length : Int) == 0) = false := by rw [beq_eq_false_iff_ne]; omega
    have H9 := Lib.hid (show decide (y.length = 0) = false from decide_eq_false h)
    clear h
    go_enter Tryz.func40, Tryz.ntmps40
    go_wp2_with fail
    go_ret
    exact ⟨ret_bool H9.out.symm, Below.refl _ _⟩

end Go.Proofs.YtbbmadmnmlljmaaGreat

/-
  CONTRACT: solving by a semilattice: the program's side. (Printed by wip/gensemi.py.)
-/
namespace Go.Proofs.YtbbmadmnmlljmaaGreat
open Go.RowKit Go.Shelf Go.IntWalk
open Rep (Rd Own sz)
set_option linter.unusedSimpArgs false
set_option linter.unusedVariables false

def foldD (size : Int) (f : OpT) : List Int → Int
  | [] => 0
  | z :: m => foldV size f z m
def goneD (ds : List (List Int)) : Bool := ds.any (fun d => decide (d.length = 0))
theorem goneD_no {ds : List (List Int)} (h : goneD ds = false) {d : List Int} (hd : d ∈ ds) : ∃ z m, d = z :: m := by
  unfold goneD at h
  rw [List.any_eq_false] at h
  have h1 := h d hd
  match d, h1 with
  | [], h1 => exact absurd (decide_eq_true rfl) h1
  | z :: m, _ => exact ⟨z, m, rfl⟩
def semiF (t : Tmpl) (x : Inst) (f : OpT) : Vdct × Int :=
  if wayF (semiB t.1 f) t x f = 0 then
    (if goneD (arcsF t x (fullD t.1.toNat x.1.toNat)).1 then ((1, [], (arcsF t x (fullD t.1.toNat x.1.toNat)).2, [], []), 0) else ((0, (arcsF t x (fullD t.1.toNat x.1.toNat)).1.map (foldD t.1 f), [], [], []), 0))
  else (vd0, wayF (semiB t.1 f) t x f)
theorem semi_two {size : Int} {f : OpT} (h : semiB size f = true) : f.1 = 2 := by
  unfold semiB at h
  simp only [Bool.and_eq_true, decide_eq_true_eq] at h
  exact h.1.2.1
theorem wayF_I64 (kb : Bool) (t : Tmpl) (x : Inst) (f : OpT) : I64 (wayF kb t x f) := by
  unfold wayF
  split
  · split <;> exact ⟨by decide, by decide⟩
  · exact ⟨by decide, by decide⟩
/-- What arcs leave of all values is made of values. -/
theorem full_in {t : Tmpl} {x : Inst} {sn V : Nat} (hs : t.1 = (sn : Int)) : InA (fun a => 0 ≤ a ∧ a ≤ t.1 - 1) V x.2.length (arcsF t x (fullD sn V)) := by
  refine arcsA_in _ ⟨by simp [fullD], fun d hd a ha => ?_, fun e he => by cases he⟩
  obtain ⟨_, rfl⟩ := List.mem_replicate.1 hd
  obtain ⟨k, hk, rfl⟩ := List.mem_map.1 ha
  have := List.mem_range.1 hk
  omega
theorem foldD_in {size : Int} {f : OpT} (hok : opOk size f = true) (h2 : f.1 = 2) {d : List Int} (hv : ∀ a, a ∈ d → 0 ≤ a ∧ a ≤ size - 1) (hs : 1 ≤ size) : 0 ≤ foldD size f d ∧ foldD size f d ≤ size - 1 := by
  match d, hv with
  | [], _ => exact ⟨Int.le_refl _, by show (0 : Int) ≤ size - 1; omega⟩
  | z :: m, hv => exact foldV_in hok h2 m z (hv z (by simp)) (fun y hy => hv y (by simp [hy]))
theorem fresh_snd {α β : Type} [Rep α] [Rep β] {lo : Nat} {w : World} {v : Value} {vs : List Value} {x : α × β} (hα : sz α = 1) (h : Fresh lo w (v :: vs) x) : Fresh lo w vs x.2 := by
  obtain ⟨ps, h1, h2, h3⟩ := h
  obtain ⟨p, q, rfl, _, h5⟩ := own_cons hα h1
  exact ⟨q, h5, (List.nodup_append.1 h2).2.1, fun k hk => h3 k (by simp [hk])⟩
theorem fresh_vdA {lo : Nat} {w : World} {k : Int} {v : Value} {l : List (Int × Int × Int)} (hI : I64 k) (h : Fresh lo w [v] l) : Fresh lo w [.int .i64 k, .slice none 0 0, v, .slice none 0 0, .slice none 0 0] ((k, [], l, [], []) : Vdct) := by
  obtain ⟨ps, h1, h2, h3⟩ := h
  have e : ∀ {α : Type} [Rep α], Own [] w [.slice none 0 0] ([] : List α) := ⟨_, rfl, .inl ⟨rfl, rfl, none, 0, rfl, Nat.zero_le _⟩⟩
  exact ⟨[] ++ ([] ++ (ps ++ ([] ++ []))), mk_own ⟨rfl, rfl, hI⟩ (mk_own e (mk_own h1 (mk_own e e))), by simpa using h2, fun k hk => h3 k (by simpa using hk)⟩
/-- Facts of a run that begins with all values. -/
structure FullFacts (t : Tmpl) (x : Inst) (sn V : Nat) : Prop where
  f : DomFacts t x (fullD sn V)
  len : (fullD sn V).length = V
  i64 : ∀ e, e ∈ (arcsF t x (fullD sn V)).2 → I64 e.1 ∧ I64 e.2.1 ∧ I64 e.2.2
  inn : InA (fun a => 0 ≤ a ∧ a ≤ t.1 - 1) V x.2.length (arcsF t x (fullD sn V))
theorem full_facts {t : Tmpl} {x : Inst} {sn V : Nat} (h : instOk t x = true) (hs : t.1 = (sn : Int)) (hV : x.1 = (V : Int)) : FullFacts t x sn V :=
  ⟨dom_facts (fullD_ok h hs hV), by simp [fullD], arcsF_i64 (fullD_ok h hs hV), full_in hs⟩
set_option maxRecDepth 100000 in
set_option maxHeartbeats 8000000 in
theorem SolveBySemilattice_c (t : Tmpl) (t0 t1 : Value) (x : Inst) (x0 x1 : Value) (f : OpT) (f0 f1 : Value) (w : World) (ht : Rd w [t0, t1] t) (hx : Rd w [x0, x1] x) (hf : Rd w [f0, f1] f) :
    Calls Tryz.prog 12 #[.agg #[t0, t1], .agg #[x0, x1], .agg #[f0, f1]] w fun e w' => ∃ u0 u1 u2 u3 u4, e = .returned (.tuple #[.agg #[u0, u1, u2, u3, u4], .int .i64 (semiF t x f).2]) ∧ Fresh w.heap.size w' [u0, u1, u2, u3, u4] (semiF t x f).1 ∧ Below w.heap.size w w' := by
  obtain ⟨size, rs⟩ := t
  obtain ⟨vars, cs⟩ := x
  obtain ⟨fa, ft⟩ := f
  have HT := Lib.hid ht
  have HX := Lib.hid hx
  have HF := Lib.hid hf
  have zt := rd_cons rfl ht
  obtain ⟨rfl, _⟩ := rd_i1 zt.1
  obtain ⟨at0, ct0, rfl, _⟩ := rd_list zt.2
  have zx := rd_cons rfl hx
  obtain ⟨rfl, _⟩ := rd_i1 zx.1
  obtain ⟨ax, cx, rfl, _⟩ := rd_list zx.2
  have zf := rd_cons rfl hf
  obtain ⟨rfl, _⟩ := rd_i1 zf.1
  obtain ⟨af, cf, rfl, _⟩ := rd_list zf.2
  have HRS := Lib.hid zt.2
  have HCS := Lib.hid zx.2
  have HI := Lib.hid (wayF_I64 (semiB size (fa, ft)) (size, rs) (vars, cs) (fa, ft))
  clear ht hx hf zt zx zf
  have hs14 := (St.start w).alloc #[.int .i64 size, .slice at0 rs.length ct0] 42 (n := w.heap.size) (by simp)
  have k0_0 := hs14.cellAt 0 rfl 0 rfl
  have k0_1 := hs14.cellAt 0 rfl 1 rfl
  have hs15 := hs14.alloc #[.int .i64 vars, .slice ax cs.length cx] 46 (n := w.heap.size + 1) (by simp)
  clear k0_0 k0_1
  have k0_0 := hs15.cellAt 0 rfl 0 rfl
  have k0_1 := hs15.cellAt 0 rfl 1 rfl
  have k1_0 := hs15.cellAt 1 rfl 0 rfl
  have k1_1 := hs15.cellAt 1 rfl 1 rfl
  have hs16 := hs15.alloc #[.int .i64 fa, .slice af ft.length cf] 48 (n := w.heap.size + 1 + 1) (by simp)
  clear k0_0 k0_1 k1_0 k1_1
  have k0_0 := hs16.cellAt 0 rfl 0 rfl
  have k0_1 := hs16.cellAt 0 rfl 1 rfl
  have k1_0 := hs16.cellAt 1 rfl 0 rfl
  have k1_1 := hs16.cellAt 1 rfl 1 rfl
  have k2_0 := hs16.cellAt 2 rfl 0 rfl
  have k2_1 := hs16.cellAt 2 rfl 1 rfl
  have hs17 := hs16.alloc #[.int .i64 0, .slice none 0 0, .slice none 0 0, .slice none 0 0, .slice none 0 0] 37 (n := w.heap.size + 1 + 1 + 1) (by simp)
  clear k0_0 k0_1 k1_0 k1_1 k2_0 k2_1
  have k0_0 := hs17.cellAt 0 rfl 0 rfl
  have k0_1 := hs17.cellAt 0 rfl 1 rfl
  have k1_0 := hs17.cellAt 1 rfl 0 rfl
  have k1_1 := hs17.cellAt 1 rfl 1 rfl
  have k2_0 := hs17.cellAt 2 rfl 0 rfl
  have k2_1 := hs17.cellAt 2 rfl 1 rfl
  have k3_0 := hs17.cellAt 3 rfl 0 rfl
  have k3_1 := hs17.cellAt 3 rfl 1 rfl
  have k3_2 := hs17.cellAt 3 rfl 2 rfl
  have k3_3 := hs17.cellAt 3 rfl 3 rfl
  have k3_4 := hs17.cellAt 3 rfl 4 rfl
  go_enter Tryz.func12, Tryz.ntmps12
  go_wp2_with fail
  refine (solverFaultS_c (size, rs) (vars, cs) (fa, ft) _ _ _ _ _ _ _ (Rd.mono HT.out hs17.bel) (Rd.mono HX.out hs17.bel) (Rd.mono HF.out hs17.bel)).mono ?_
  rintro e w18 ⟨rfl, hbw18⟩
  have hz_w18 : w.heap.size + 1 + 1 + 1 + 1 ≤ w18.heap.size := by have h9 := hbw18.size; (try simp at h9); omega
  have hs19 := hs17.step hbw18
  clear k0_0 k0_1 k1_0 k1_1 k2_0 k2_1 k3_0 k3_1 k3_2 k3_3 k3_4
  have k0_0 := hs19.cellAt 0 rfl 0 rfl
  have k0_1 := hs19.cellAt 0 rfl 1 rfl
  have k1_0 := hs19.cellAt 1 rfl 0 rfl
  have k1_1 := hs19.cellAt 1 rfl 1 rfl
  have k2_0 := hs19.cellAt 2 rfl 0 rfl
  have k2_1 := hs19.cellAt 2 rfl 1 rfl
  have k3_0 := hs19.cellAt 3 rfl 0 rfl
  have k3_1 := hs19.cellAt 3 rfl 1 rfl
  have k3_2 := hs19.cellAt 3 rfl 2 rfl
  have k3_3 := hs19.cellAt 3 rfl 3 rfl
  have k3_4 := hs19.cellAt 3 rfl 4 rfl
  by_cases h0 : wayF (semiB size (fa, ft)) (size, rs) (vars, cs) (fa, ft) = 0
  · obtain ⟨h1, h2, h3⟩ := wayF_0 h0
    have hs := (tmplOk_get (instOk_get h1).1).1
    have hv := (instOk_get h1).2.1
    simp only at hs hv h2
    obtain ⟨sn, rfl⟩ : ∃ n : Nat, size = (n : Int) := ⟨size.toNat, by omega⟩
    obtain ⟨V, rfl⟩ : ∃ n : Nat, vars = (n : Int) := ⟨vars.toNat, by omega⟩
    have H0 := Lib.hid (show semiF ((sn : Int), rs) ((V : Int), cs) (fa, ft) = if goneD (arcsF ((sn : Int), rs) ((V : Int), cs) (fullD sn V)).1 then ((1, [], (arcsF ((sn : Int), rs) ((V : Int), cs) (fullD sn V)).2, [], []), 0) else ((0, (arcsF ((sn : Int), rs) ((V : Int), cs) (fullD sn V)).1.map (foldD sn (fa, ft)), [], [], []), 0) by unfold semiF; rw [if_pos h0]; simp only [Int.toNat_natCast])
    have HOK := Lib.hid h2
    have HA2 := Lib.hid (semi_two h3)
    have HFF := Lib.hid (full_facts (sn := sn) (V := V) h1 rfl rfl)
    rw [h0]
    clear h0 h1 h2 h3
    go_wp2_with fail
    refine (fullDomains_c sn V rs cs _ _ _ (Rd.mono HRS.out hs19.bel) (Rd.mono HCS.out hs19.bel) (by omega) (by omega)).mono ?_
    rintro e wD5 ⟨v5, rfl, hac, hb5⟩
    obtain ⟨g2, c2, rfl⟩ := accP_form hac (by rw [HFF.out.len]; omega)
    rw [HFF.out.len] at hac ⊢
    have HDI := Lib.hid hac.ip
    have HB5 := Lib.hid hb5
    obtain ⟨wB, hwB⟩ : ∃ x, x = w18 := ⟨_, rfl⟩
    have HSB := Lib.hid (show St w (w.heap.size + 1 + 1 + 1 + 1) wB _ from by rw [hwB]; exact hs19.up (by omega) hs19.hi)
    have HTB := Lib.hid (Rd.mono HT.out hs19.bel)
    have HXB := Lib.hid (Rd.mono HX.out hs19.bel)
    rw [← hwB] at HDI HB5 HTB HXB
    clear hac hb5 hwB
    have hsD := HSB.out.step HB5.out
    have k0_0 := hsD.cellAt 0 rfl 0 rfl
    have k0_1 := hsD.cellAt 0 rfl 1 rfl
    have k1_0 := hsD.cellAt 1 rfl 0 rfl
    have k1_1 := hsD.cellAt 1 rfl 1 rfl
    have k2_0 := hsD.cellAt 2 rfl 0 rfl
    have k2_1 := hsD.cellAt 2 rfl 1 rfl
    have k3_0 := hsD.cellAt 3 rfl 0 rfl
    have k3_1 := hsD.cellAt 3 rfl 1 rfl
    have k3_2 := hsD.cellAt 3 rfl 2 rfl
    have k3_3 := hsD.cellAt 3 rfl 3 rfl
    have k3_4 := hsD.cellAt 3 rfl 4 rfl
    go_wp2_with fail
    refine (makeArcs_c ((sn : Int), rs) ((V : Int), cs) (fullD sn V) _ _ _ _ g2 c2 V (lensA (fullD sn V)) (fun z => wB.heap.size ≤ z) wB wD5 HB5.out HTB.out HXB.out HFF.out.f.inst HDI.out (fun z hz => hz) (by have h := HFF.out.f.ok; rw [HFF.out.len] at h; exact h) rfl (by have := HFF.out.f.forty; omega)).mono ?_
    rintro e wA6 ⟨gs, co, rfl, hA⟩
    have hA : ArcW wB _ _ _ _ _ _ _ _ gs co (arcsF ((sn : Int), rs) ((V : Int), cs) (fullD sn V)) := hA
    have HAW := Lib.hid hA
    have HI3 := Lib.hid HFF.out.i64
    have HIN := Lib.hid HFF.out.inn
    have hlB := HSB.out.hi
    have hl0 := HSB.out.lo
    have hs6 := HSB.out.step (hA.bel)
    have hz6 := hA.bel.size
    show _
    have eAF : (arcsA ((sn : Int), rs).2 ((V : Int), cs).2 (lensA (fullD sn V) + 1) (fullD sn V, [])) = arcsF ((sn : Int), rs) ((V : Int), cs) (fullD sn V) := rfl
    rw [eAF]
    clear hA eAF
    generalize arcsF ((sn : Int), rs) ((V : Int), cs) (fullD sn V) = AF at *
    have k0_0 := hs6.cellAt 0 rfl 0 rfl
    have k0_1 := hs6.cellAt 0 rfl 1 rfl
    have k1_0 := hs6.cellAt 1 rfl 0 rfl
    have k1_1 := hs6.cellAt 1 rfl 1 rfl
    have k2_0 := hs6.cellAt 2 rfl 0 rfl
    have k2_1 := hs6.cellAt 2 rfl 1 rfl
    have k3_0 := hs6.cellAt 3 rfl 0 rfl
    have k3_1 := hs6.cellAt 3 rfl 1 rfl
    have k3_2 := hs6.cellAt 3 rfl 2 rfl
    have k3_3 := hs6.cellAt 3 rfl 3 rfl
    have k3_4 := hs6.cellAt 3 rfl 4 rfl
    have egE : ∀ args w, (callFunc 40 args).run Tryz.prog w = .ok (.enter 40 args) w := enters_of Tryz.func40 (by kernel_rfl) rfl
    have HDR := Lib.hid HAW.out.rd
    have HFS := Lib.hid (Fresh.lower (fresh_snd rfl (arcW_fresh HAW.out HI3.out (lo := wB.heap.size) (HB5.out.size) (fun z hz => hz))) (show w.heap.size + 1 + 1 + 1 + 1 ≤ wB.heap.size by omega))
    go_wp2_with fail
    refine (containsLists_c AF.1 _ 40 _ _ _ HDR.out egE (isEmpty_by _ _)).mono ?_
    rintro e w20 ⟨rfl, hbw20⟩
    have hz_w20 : wA6.heap.size ≤ w20.heap.size := by have h9 := hbw20.size; (try simp at h9); omega
    have hs21 := hs6.step hbw20
    have HDR_22 := Lib.hid (Rd.mono HDR.out hbw20)
    clear HDR
    have HFS_23 := Lib.hid (Fresh.mono HFS.out hbw20)
    clear HFS
    clear k0_0 k0_1 k1_0 k1_1 k2_0 k2_1 k3_0 k3_1 k3_2 k3_3 k3_4
    have k0_0 := hs21.cellAt 0 rfl 0 rfl
    have k0_1 := hs21.cellAt 0 rfl 1 rfl
    have k1_0 := hs21.cellAt 1 rfl 0 rfl
    have k1_1 := hs21.cellAt 1 rfl 1 rfl
    have k2_0 := hs21.cellAt 2 rfl 0 rfl
    have k2_1 := hs21.cellAt 2 rfl 1 rfl
    have k3_0 := hs21.cellAt 3 rfl 0 rfl
    have k3_1 := hs21.cellAt 3 rfl 1 rfl
    have k3_2 := hs21.cellAt 3 rfl 2 rfl
    have k3_3 := hs21.cellAt 3 rfl 3 rfl
    have k3_4 := hs21.cellAt 3 rfl 4 rfl
    cases hg : AF.1.any (fun d => decide (d.length = 0)) with
    | true =>
      have H5 := Lib.hid (show semiF ((sn : Int), rs) ((V : Int), cs) (fa, ft) = ((1, [], AF.2, [], []), 0) by rw [H0.out, if_pos (show goneD AF.1 = true from hg)])
      clear hg
      have g0 := (hs21.freeAt 3 rfl 0)
      have g1 := (hs21.freeAt 3 rfl 1)
      have g2 := (hs21.freeAt 3 rfl 2)
      have g3 := (hs21.freeAt 3 rfl 3)
      have g4 := (hs21.freeAt 3 rfl 4)
      have hs9 := (((((hs21.set (p := [_, _, _]) (by simp <;> omega) 0 (.int .i64 1)).set (p := [_, _, _]) (by simp <;> omega) 1 (.slice none 0 0)).set (p := [_, _, _]) (by simp <;> omega) 2 (.slice (some ⟨gs, 0, none⟩) AF.2.length co)).set (p := [_, _, _]) (by simp <;> omega) 3 (.slice none 0 0)).set (p := [_, _, _]) (by simp <;> omega) 4 (.slice none 0 0))
      have HB9 := Lib.hid hs9.bel
      have y0 := hs9.cellAt 3 rfl 0 rfl
      have y1 := hs9.cellAt 3 rfl 1 rfl
      have y2 := hs9.cellAt 3 rfl 2 rfl
      have y3 := hs9.cellAt 3 rfl 3 rfl
      have y4 := hs9.cellAt 3 rfl 4 rfl
      have HFR := Lib.hid (show Fresh w.heap.size (((((w20.setCell ⟨w.heap.size + 1 + 1 + 1, 0, none⟩ (.int .i64 1)).setCell ⟨w.heap.size + 1 + 1 + 1, 1, none⟩ (.slice none 0 0)).setCell ⟨w.heap.size + 1 + 1 + 1, 2, none⟩ (.slice (some ⟨gs, 0, none⟩) AF.2.length co)).setCell ⟨w.heap.size + 1 + 1 + 1, 3, none⟩ (.slice none 0 0)).setCell ⟨w.heap.size + 1 + 1 + 1, 4, none⟩ (.slice none 0 0)) [.int .i64 1, .slice none 0 0, .slice (some ⟨gs, 0, none⟩) AF.2.length co, .slice none 0 0, .slice none 0 0] ((1, [], AF.2, [], []) : Vdct) from ((((((fresh_vdA (i64_of 1 (by decide) (by decide)) HFS_23.out).setCell (a := ⟨w.heap.size + 1 + 1 + 1, 0, none⟩) (by simp <;> omega) (.int .i64 1)).setCell (a := ⟨w.heap.size + 1 + 1 + 1, 1, none⟩) (by simp <;> omega) (.slice none 0 0)).setCell (a := ⟨w.heap.size + 1 + 1 + 1, 2, none⟩) (by simp <;> omega) (.slice (some ⟨gs, 0, none⟩) AF.2.length co)).setCell (a := ⟨w.heap.size + 1 + 1 + 1, 3, none⟩) (by simp <;> omega) (.slice none 0 0)).setCell (a := ⟨w.heap.size + 1 + 1 + 1, 4, none⟩) (by simp <;> omega) (.slice none 0 0)).lower (by omega))
      clear hs9
      go_wp2_with fail
      refine bodyPost_ret (v := .tuple #[.agg #[.int .i64 1, .slice none 0 0, .slice (some ⟨gs, 0, none⟩) AF.2.length co, .slice none 0 0, .slice none 0 0], .int .i64 0]) (by simp [results, Tryz.results12, go_sem, y0, y1, y2, y3, y4]) rfl ⟨_, _, _, _, _, by rw [H5.out], ?_, HB9.out⟩
      rw [H5.out]; exact HFR.out
    | false =>
      have H5 := Lib.hid (show semiF ((sn : Int), rs) ((V : Int), cs) (fa, ft) = ((0, AF.1.map (foldD sn (fa, ft)), [], [], []), 0) by rw [H0.out, if_neg (show ¬ goneD AF.1 = true from by show ¬ AF.1.any _ = true; rw [hg]; decide)])
      have HGN := Lib.hid (fun (d : List Int) (hd : d ∈ AF.1) => goneD_no (show goneD AF.1 = false from hg) hd)
      clear hg
      obtain ⟨wE, hwE⟩ : ∃ x, x = w20 := ⟨_, rfl⟩
      have HSE := Lib.hid (show St w (w.heap.size + 1 + 1 + 1 + 1) wE _ from by rw [hwE]; exact hs21)
      have HDE := Lib.hid HDR_22.out
      have HLE := Lib.hid HIN.out.len
      rw [← hwE] at HDE
      have HM := Lib.hid (acc_made (α := Int) wE 2)
      have HWE := Lib.hid hwE
      clear hwE
      go_wp2_with fail
      rw [← HWE.out]
      go_loopw [11, 36] (fun oo iv wl => ∃ (k : Nat) (ao : Option Addr) (co : Nat), k ≤ V ∧ iv = .int .i64 k ∧ oo = .slice ao k co ∧ Hid (Below wE.heap.size wE wl) ∧ Hid (Acc wE.heap.size wl.heap.size 2 wl (.slice ao k co) ((AF.1.map (foldD sn (fa, ft))).take k))) (fun _ iv _ => V - (intOf iv).toNat)
      case atStart => exact ⟨0, _, _, Nat.zero_le _, rfl, rfl, belowA _ _, by simpa [Hid] using HM.out⟩
      case round =>
        clear HM
        obtain ⟨k, ao, co, hk, rfl, rfl, hbl, hac⟩ := hrel
        have hs7 := HSE.out.step hbl.out
        have hb0 := hbl.out.size
        have HAC := hac
        have k0_0 := hs7.cellAt 0 rfl 0 rfl
        have k0_1 := hs7.cellAt 0 rfl 1 rfl
        have k1_0 := hs7.cellAt 1 rfl 0 rfl
        have k1_1 := hs7.cellAt 1 rfl 1 rfl
        have k2_0 := hs7.cellAt 2 rfl 0 rfl
        have k2_1 := hs7.cellAt 2 rfl 1 rfl
        have k3_0 := hs7.cellAt 3 rfl 0 rfl
        have k3_1 := hs7.cellAt 3 rfl 1 rfl
        have k3_2 := hs7.cellAt 3 rfl 2 rfl
        have k3_3 := hs7.cellAt 3 rfl 3 rfl
        have k3_4 := hs7.cellAt 3 rfl 4 rfl
        by_cases hlt : k < V
        · have hkI : (k : Int) < V := by omega
          have hkl : k < AF.1.length := by rw [HLE.out]; exact hlt
          obtain ⟨aD, cD, eD, hdr⟩ := rd_list HDE.out
          simp only [Value.slice.injEq, Option.some.injEq] at eD
          obtain ⟨rfl, -, rfl⟩ := eD
          obtain ⟨b4, o4, vd, e4, qd, hdn⟩ := rdSl_one rfl hdr k hkl
          simp only [Option.some.injEq, Addr.mk.injEq, and_true] at e4
          obtain ⟨rfl, rfl⟩ := e4
          obtain ⟨z, m, hzm⟩ := HGN.out _ (List.getElem_mem hkl)
          have hvd := HIN.out.val _ (List.getElem_mem hkl)
          have HTK := Lib.hid (show (AF.1.map (foldD sn (fa, ft))).take (k + 1) = (AF.1.map (foldD sn (fa, ft))).take k ++ [foldV sn (fa, ft) z m] by
            rw [List.take_succ_eq_append_getElem (by simpa using hkl)]
            congr 2
            rw [List.getElem_map, hzm]
            rfl)
          have HLK := Lib.hid (show ((AF.1.map (foldD sn (fa, ft))).take k).length = k by rw [List.length_take, List.length_map]; omega)
          rw [hzm] at hdn hvd
          have HFI := Lib.hid (foldV_in HOK.out HA2.out m z (hvd z (by simp)) (fun y hy => hvd y (by simp [hy])))
          have HVD := Lib.hid hvd
          obtain ⟨a5, c5, rfl, _⟩ := rd_list hdn
          have HDN := Lib.hid hdn
          have qd2 := cellL hbl.out qd
          have HDN2 := Lib.hid (Rd.mono HDN.out hbl.out)
          rw [Nat.zero_add] at qd2
          clear hdr hdn hzm hvd qd
          go_wp2_with fail
          refine (folded_c sn (fa, ft) z m _ _ _ _ (Rd.mono HF.out hs7.bel) HDN2.out HOK.out HA2.out HVD.out).mono ?_
          rintro e wF8 ⟨rfl, hb8⟩
          have HA8 := Lib.hid (Acc.mono HAC.out hb8)
          have HB8 := Lib.hid (hbl.out.trans (hb8.mono hbl.out.size))
          have hz8 := hb8.size
          clear hb8
          generalize foldV sn (fa, ft) z m = FV at *
          go_wp2_with (at_builtin; go_loud (refine wpList_append_ints _ rfl _ _ _ rfl E_ints rfl (Acc.mono HA8.out (belowA _ (.cells #[.int .i64 FV] 2))) (by omega) (by simp; omega) ⟨wF8.heap.size, 0, none⟩ 1 rfl (ns := [FV]) (news1 (cell_at_block (heap_alloc_new _ _))) (fun b hb => by simp at hb; subst hb; exact i64_of _ (by have := HFI.out; omega) (by have := HFI.out; omega)) (by rw [HLK.out]; simp; omega) ?_); simp only [HLK.out, ← HTK.out]; intro a9 c9 w9 hA9 hB9 hK9)
          have HA9 := Lib.hid hA9
          have HB9 := Lib.hid (HB8.out.trans ((belowA wF8 (.cells #[.int .i64 FV] 2)).mono HB8.out.size) |>.trans hB9)
          clear hA9 hB9 hK9
          go_wp2_with fail
          go_roundw
          case rel => exact ⟨k + 1, a9, c9, by omega, by go_num, rfl, HB9.out, HA9.out⟩
          case measure => simp [intOf]; omega
        · obtain rfl : k = V := by omega
          have hnl : ¬ ((k : Int) < k) := by omega
          have HFV := Lib.hid (show Fresh (w.heap.size + 1 + 1 + 1 + 1) wr [.slice ao k co] (AF.1.map (foldD sn (fa, ft))) from by
            have h := hac.out
            rw [List.take_of_length_le (by rw [List.length_map, HLE.out]; exact Nat.le_refl _)] at h
            exact Fresh.lower h.fresh (by have := HSE.out.hi; omega))
          clear hac
          clear HAC
          go_wp2_with fail
          refine (solution_c _ _ _ _).mono ?_
          rintro e w24 ⟨rfl, hbw24⟩
          have hz_w24 : wr.heap.size ≤ w24.heap.size := by have h9 := hbw24.size; (try simp at h9); omega
          have hs25 := hs7.step hbw24
          have HFV_26 := Lib.hid (Fresh.mono HFV.out hbw24)
          clear HFV
          clear k0_0 k0_1 k1_0 k1_1 k2_0 k2_1 k3_0 k3_1 k3_2 k3_3 k3_4
          have k0_0 := hs25.cellAt 0 rfl 0 rfl
          have k0_1 := hs25.cellAt 0 rfl 1 rfl
          have k1_0 := hs25.cellAt 1 rfl 0 rfl
          have k1_1 := hs25.cellAt 1 rfl 1 rfl
          have k2_0 := hs25.cellAt 2 rfl 0 rfl
          have k2_1 := hs25.cellAt 2 rfl 1 rfl
          have k3_0 := hs25.cellAt 3 rfl 0 rfl
          have k3_1 := hs25.cellAt 3 rfl 1 rfl
          have k3_2 := hs25.cellAt 3 rfl 2 rfl
          have k3_3 := hs25.cellAt 3 rfl 3 rfl
          have k3_4 := hs25.cellAt 3 rfl 4 rfl
          have g0 := (hs25.freeAt 3 rfl 0)
          have g1 := (hs25.freeAt 3 rfl 1)
          have g2 := (hs25.freeAt 3 rfl 2)
          have g3 := (hs25.freeAt 3 rfl 3)
          have g4 := (hs25.freeAt 3 rfl 4)
          have hs9 := (((((hs25.set (p := [_, _, _]) (by simp <;> omega) 0 (.int .i64 0)).set (p := [_, _, _]) (by simp <;> omega) 1 (.slice ao k co)).set (p := [_, _, _]) (by simp <;> omega) 2 (.slice none 0 0)).set (p := [_, _, _]) (by simp <;> omega) 3 (.slice none 0 0)).set (p := [_, _, _]) (by simp <;> omega) 4 (.slice none 0 0))
          have HB9 := Lib.hid hs9.bel
          have y0 := hs9.cellAt 3 rfl 0 rfl
          have y1 := hs9.cellAt 3 rfl 1 rfl
          have y2 := hs9.cellAt 3 rfl 2 rfl
          have y3 := hs9.cellAt 3 rfl 3 rfl
          have y4 := hs9.cellAt 3 rfl 4 rfl
          have HFR := Lib.hid (show Fresh w.heap.size (((((w24.setCell ⟨w.heap.size + 1 + 1 + 1, 0, none⟩ (.int .i64 0)).setCell ⟨w.heap.size + 1 + 1 + 1, 1, none⟩ (.slice ao k co)).setCell ⟨w.heap.size + 1 + 1 + 1, 2, none⟩ (.slice none 0 0)).setCell ⟨w.heap.size + 1 + 1 + 1, 3, none⟩ (.slice none 0 0)).setCell ⟨w.heap.size + 1 + 1 + 1, 4, none⟩ (.slice none 0 0)) [.int .i64 0, .slice ao k co, .slice none 0 0, .slice none 0 0, .slice none 0 0] ((0, AF.1.map (foldD sn (fa, ft)), [], [], []) : Vdct) from ((((((fresh_vd (i64_of 0 (by decide) (by decide)) HFV_26.out).setCell (a := ⟨w.heap.size + 1 + 1 + 1, 0, none⟩) (by simp <;> omega) (.int .i64 0)).setCell (a := ⟨w.heap.size + 1 + 1 + 1, 1, none⟩) (by simp <;> omega) (.slice ao k co)).setCell (a := ⟨w.heap.size + 1 + 1 + 1, 2, none⟩) (by simp <;> omega) (.slice none 0 0)).setCell (a := ⟨w.heap.size + 1 + 1 + 1, 3, none⟩) (by simp <;> omega) (.slice none 0 0)).setCell (a := ⟨w.heap.size + 1 + 1 + 1, 4, none⟩) (by simp <;> omega) (.slice none 0 0)).lower (by omega))
          clear hs9
          go_wp2_with fail
          refine bodyPost_ret (v := .tuple #[.agg #[.int .i64 0, .slice ao k co, .slice none 0 0, .slice none 0 0, .slice none 0 0], .int .i64 0]) (by simp [results, Tryz.results12, go_sem, y0, y1, y2, y3, y4]) rfl ⟨_, _, _, _, _, by rw [H5.out], ?_, HB9.out⟩
          rw [H5.out]; exact HFR.out
  · have H5 := Lib.hid (show semiF (size, rs) (vars, cs) (fa, ft) = (vd0, wayF (semiB size (fa, ft)) (size, rs) (vars, cs) (fa, ft)) by unfold semiF; rw [if_neg h0])
    have hne : (wayF (semiB size (fa, ft)) (size, rs) (vars, cs) (fa, ft) != 0) = true := by rw [bne_iff_ne]; exact h0
    clear h0
    generalize wayF (semiB size (fa, ft)) (size, rs) (vars, cs) (fa, ft) = CODE at *
    have g0 := (hs19.freeAt 3 rfl 0)
    have g1 := (hs19.freeAt 3 rfl 1)
    have g2 := (hs19.freeAt 3 rfl 2)
    have g3 := (hs19.freeAt 3 rfl 3)
    have g4 := (hs19.freeAt 3 rfl 4)
    have hs9 := (((((hs19.set (p := [_, _, _]) (by simp <;> omega) 0 (.int .i64 0)).set (p := [_, _, _]) (by simp <;> omega) 1 (.slice none 0 0)).set (p := [_, _, _]) (by simp <;> omega) 2 (.slice none 0 0)).set (p := [_, _, _]) (by simp <;> omega) 3 (.slice none 0 0)).set (p := [_, _, _]) (by simp <;> omega) 4 (.slice none 0 0))
    have HB9 := Lib.hid hs9.bel
    have y0 := hs9.cellAt 3 rfl 0 rfl
    have y1 := hs9.cellAt 3 rfl 1 rfl
    have y2 := hs9.cellAt 3 rfl 2 rfl
    have y3 := hs9.cellAt 3 rfl 3 rfl
    have y4 := hs9.cellAt 3 rfl 4 rfl
    clear hs9
    go_wp2_with fail
    refine bodyPost_ret (v := .tuple #[.agg #[.int .i64 0, .slice none 0 0, .slice none 0 0, .slice none 0 0, .slice none 0 0], .int .i64 CODE]) (by simp [results, Tryz.results12, go_sem, y0, y1, y2, y3, y4]) rfl ⟨_, _, _, _, _, by rw [H5.out], ?_, HB9.out⟩
    rw [H5.out]; exact fresh_vd ⟨by decide, by decide⟩ fresh_nil_list

end Go.Proofs.YtbbmadmnmlljmaaGreat

/-
  CONTRACTS: solving by a semilattice: the code of its arguments, domains with all values; the reference's side.
-/
namespace Go.Proofs.YtbbmadmnmlljmaaGreat
open Go.RowKit Go.Shelf Go.IntWalk
open Rep (Rd Own sz)
set_option linter.unusedSimpArgs false
set_option linter.unusedVariables false

theorem firstI_m1 {α : Type} (q : α → Bool) (l : List α) : firstI q l = -1 ∨ 0 ≤ firstI q l := by
  unfold firstI
  cases h : l.findIdx? q with
  | none => exact .inl rfl
  | some k => exact .inr (by simp)
theorem broken_m1 (t : Tmpl) (f : OpT) : (brokenF t f != -1) = !decide (brokenF t f < 0) := by
  rcases firstI_m1 (fun r => !keepsP t.1 f r) t.2 with h | h
  · have e : brokenF t f = -1 := h
    rw [e]; rfl
  · have e : 0 ≤ brokenF t f := h
    rw [show decide (brokenF t f < 0) = false from decide_eq_false (by omega)]
    rw [show (brokenF t f != -1) = true from by rw [bne_iff_ne]; omega]
    rfl
set_option maxRecDepth 100000 in
set_option maxHeartbeats 2000000 in
theorem l03Count_c (n : Nat) (w : World) (hn : n ≤ 1000000) :
    Calls Tryz.prog 70 #[.int .i64 n] w fun e w' => ∃ v, e = .returned v ∧ Acc w.heap.size w'.heap.size 2 w' v (upL 0 n) ∧ Below w.heap.size w w' := by
  have HM := Lib.hid (acc_made (α := Int) w 2)
  go_enter Tryz.func70, Tryz.ntmps70
  go_wp2_with fail
  go_loopw [3, 4] (fun o i wl => ∃ (k : Nat) (ao : Option Addr) (co : Nat), k ≤ n ∧ i = .int .i64 k ∧ o = .slice ao k co ∧ Hid (Below w.heap.size w wl) ∧ Hid (Acc w.heap.size wl.heap.size 2 wl (.slice ao k co) (upL 0 k))) (fun _ i _ => n - (intOf i).toNat)
  case atStart => exact ⟨0, _, _, Nat.zero_le _, rfl, rfl, belowA _ _, by simpa [upL, Hid] using HM.out⟩
  case round =>
    clear HM
    obtain ⟨k, ao, co, hk, rfl, rfl, hbl, hac⟩ := hrel
    have hb0 := hbl.out.size
    have HLN := Lib.hid (upL_len 0 k)
    have HSC := Lib.hid (show upL 0 k ++ [(k : Int)] = upL 0 (k + 1) by rw [upL_succ, Int.zero_add])
    by_cases hlt : k < n
    · have hkI : (k : Int) < n := by omega
      go_wp2_with (at_builtin; go_loud (refine wpList_append_ints _ rfl _ _ _ rfl E_ints rfl (Acc.mono hac.out (belowA _ (.cells #[.int .i64 k] 2))) (by omega) (by simp) ⟨wr.heap.size, 0, none⟩ 1 rfl (ns := [(k : Int)]) (news1 (cell_at_block (heap_alloc_new _ _))) (fun b hb => by simp at hb; subst hb; exact i64_of _ (by omega) (by omega)) (by rw [HLN.out]; simp; omega) ?_); simp only [HLN.out, HSC.out]; intro a9 c9 w9 hA9 hB9 hK9)
      have HA := Lib.hid hA9
      have HB := Lib.hid (hbl.out.trans ((belowA wr (.cells #[.int .i64 k] 2)).mono hbl.out.size) |>.trans hB9)
      clear hA9 hB9 hK9 hac hbl
      go_wp2_with fail
      go_roundw
      case rel => exact ⟨k + 1, a9, c9, hlt, by go_num, rfl, HB.out, HA.out⟩
      case measure => simp [intOf]; omega
    · obtain rfl : k = n := by omega
      have hnl : ¬ ((k : Int) < k) := by omega
      go_wp2_with fail
      go_ret
      exact ⟨_, rfl, hac.out, hbl.out⟩
set_option maxRecDepth 100000 in
set_option maxHeartbeats 4000000 in
theorem l05Full_c (sn V tb xb : Nat) (w : World) (tc : w.cell? ⟨tb, 0, none⟩ = some (.int .i64 sn)) (xc : w.cell? ⟨xb, 0, none⟩ = some (.int .i64 V)) (hs : sn ≤ 4) (hV : V ≤ 10) :
    Calls Tryz.prog 28 #[.pointer (some ⟨tb, 0, none⟩), .pointer (some ⟨xb, 0, none⟩)] w fun e w' => ∃ v, e = .returned v ∧ AccP (fun z => w.heap.size ≤ z) 28 w' v (fullD sn V) ∧ Below w.heap.size w w' := by
  have tc_ := cellL (St.start w).bel tc
  clear tc_
  have tc_ := cellL (St.start w).bel tc
  have xc_ := cellL (St.start w).bel xc
  have HS0 := Lib.hid (show St w w.heap.size (w.alloc (.cells #[] 28)) [] from (St.start w).step (belowA w (.cells #[] 28)))
  have HA0 := Lib.hid (show AccP (fun z => w.heap.size ≤ z ∧ z < (w.alloc (.cells #[] 28)).heap.size) 28 (w.alloc (.cells #[] 28)) (.slice (some ⟨w.heap.size, 0, none⟩) 0 0) (fullD sn 0) from (accP_made (α := List Int) w 28).wk (fun z hz => by subst hz; simp))
  go_enter Tryz.func28, Tryz.ntmps28
  go_wp2_with fail
  go_loopw [5, 6] (fun oo kv wl => ∃ (k c : Nat) (ao : Option Addr), k ≤ V ∧ kv = .int .i64 k ∧ oo = .slice ao k c ∧ Hid (St w w.heap.size wl []) ∧ Hid (AccP (fun z => w.heap.size ≤ z ∧ z < wl.heap.size) 28 wl (.slice ao k c) (fullD sn k))) (fun _ kv _ => V - (intOf kv).toNat)
  case atStart => exact ⟨0, 0, _, Nat.zero_le _, rfl, rfl, HS0.out, HA0.out⟩
  case round =>
    clear HS0 HA0
    obtain ⟨k, c, ao, hk, rfl, rfl, hst, hac⟩ := hrel
    have hs2 := hst.out
    have hlo := hs2.hi
    have tc_ := cellL hs2.bel tc
    have xc_ := cellL hs2.bel xc
    by_cases hlt : k < V
    · have hkI : (k : Int) < V := by omega
      have HFS := Lib.hid (fullD_succ sn k)
      have HFN := Lib.hid (show (fullD sn k).length = k by simp [fullD])
      go_wp2_with fail
      refine (l03Count_c sn _ (by omega)).mono ?_
      rintro e wC ⟨v5, rfl, hA5, hb5⟩
      obtain ⟨a5, c5, rfl, _⟩ := hA5.len
      have HI6 := Lib.hid (((hA5.accP (Nat.le_refl _)).ip).mono (belowA wC (.cells #[.slice a5 (upL 0 sn).length c5] 28)))
      have HA6 := Lib.hid ((hac.out.mono hb5).mono (belowA wC (.cells #[.slice a5 (upL 0 sn).length c5] 28)))
      have HS6 := Lib.hid ((hs2.step hb5).step (belowA wC (.cells #[.slice a5 (upL 0 sn).length c5] 28)))
      have hz5 := hb5.size
      clear hA5 hb5
      go_wp2_with (at_builtin; refine wpList_append_accP _ rfl _ _ _ rfl E_lists rfl HA6.out HI6.out (fun z h1 h2 => by have h3 := h1.2; have h4 := h2.1; omega) ⟨wC.heap.size, 0, none⟩ 1 rfl (news1 (cell_at_block (heap_alloc_new _ _))) (by rw [HFN.out]; omega) ?_; simp only [HFN.out, HFS.out]; intro a9 c9 w9 hA9 hB9)
      have hz9 := hB9.size
      have HS9 := Lib.hid (HS6.out.butP hB9 (fun z hz => hz.1) (fun x hx hA => by cases hx))
      have HA9 := Lib.hid (hA9.tight.wk (C := fun z => w.heap.size ≤ z ∧ z < w9.heap.size) (fun z hz => ⟨by
        rcases hz.1 with h | h | h
        · exact h.1
        · have := h.1; omega
        · rw [h]; simp; omega, hz.2⟩))
      clear hA9 hB9 hz9
      go_wp2_with fail
      go_roundw
      case rel => exact ⟨k + 1, c9, a9, by omega, by go_num, rfl, HS9.out, HA9.out⟩
      case measure => simp [intOf]; omega
    · obtain rfl : k = V := by omega
      have hnl : ¬ ((k : Int) < k) := by omega
      have HAF := Lib.hid (hac.out.wk (C := fun z => w.heap.size ≤ z) (fun z hz => hz.1))
      have HBF := Lib.hid hs2.bel
      go_wp2_with fail
      go_ret
      exact ⟨_, rfl, HAF.out, HBF.out⟩
set_option maxRecDepth 100000 in
set_option maxHeartbeats 2000000 in
theorem l06Gone_c (ds : List (List Int)) (vd : Value) (w : World) (hd : Rd w [vd] ds) :
    Calls Tryz.prog 30 #[vd] w fun e w' => e = .returned (.bool (goneD ds)) ∧ Below w.heap.size w w' := by
  obtain ⟨ad, cd, rfl, hdr⟩ := rd_list hd
  have hb0 := (rdSl_len hdr).2
  unfold maxLen at hb0
  have HDR := Lib.hid hdr
  clear hd hdr
  go_enter Tryz.func30, Tryz.ntmps30
  go_wp2_with fail
  go_loopw [3] (fun iv wl => ∃ k : Nat, k ≤ ds.length ∧ iv = .int .i64 k ∧ Hid (Below w.heap.size w wl) ∧ Hid (∀ q (hq : q < ds.length), q < k → ds[q].length ≠ 0)) (fun iv _ => ds.length - (intOf iv).toNat)
  case atStart => exact ⟨0, Nat.zero_le _, rfl, Below.refl _ _, fun q hq h => absurd h (Nat.not_lt_zero _)⟩
  case round =>
    obtain ⟨k, hk, rfl, hbl, hr⟩ := hrel
    by_cases hlt : k < ds.length
    · have hkI : (k : Int) < ds.length := by omega
      obtain ⟨b4, o4, u4, rfl, qd, hdn⟩ := rdSl_one rfl HDR.out k hlt
      obtain ⟨a5, c5, rfl, _⟩ := rd_list hdn
      have qd2 := cellL hbl.out qd
      have HYS := Lib.hid (fun (h : ds[k].length = 0) => show goneD ds = true from by
        unfold goneD
        rw [List.any_eq_true]
        exact ⟨ds[k], List.getElem_mem hlt, decide_eq_true h⟩)
      have HNX := Lib.hid (fun (h : ds[k].length ≠ 0) => show ∀ q (hq : q < ds.length), q < k + 1 → ds[q].length ≠ 0 from fun q hq hqk => by
        rcases Nat.lt_or_ge q k with h1 | h1
        · exact hr.out q hq h1
        · obtain rfl : q = k := by omega
          exact h)
      clear hdn qd
      generalize ds[k] = D at *
      by_cases h0 : D.length = 0
      · have hbb : ((D.length : Int) == 0) = true := by rw [h0]; rfl
        have H9 := Lib.hid (HYS.out h0)
        have HBF := Lib.hid hbl.out
        clear h0
        go_wp2_with fail
        go_ret
        exact ⟨ret_bool H9.out.symm, HBF.out⟩
      · have hbb : ((D.length : Int) == 0) = false := by rw [beq_eq_false_iff_ne]; omega
        have H9 := Lib.hid (HNX.out h0)
        have HBF := Lib.hid hbl.out
        clear h0
        go_wp2_with fail
        go_roundw
        case rel => exact ⟨k + 1, by omega, by go_num, HBF.out, H9.out⟩
        case measure => simp [intOf]; omega
    · obtain rfl : k = ds.length := by omega
      have hnl : ¬ ((ds.length : Int) < ds.length) := by omega
      have H9 := Lib.hid (show goneD ds = false from by
        unfold goneD
        rw [List.any_eq_false]
        intro d hd
        obtain ⟨q, hq, rfl⟩ := List.getElem_of_mem hd
        have := hr.out q hq hq
        simpa using this)
      have HBF := Lib.hid hbl.out
      go_wp2_with fail
      go_ret
      exact ⟨ret_bool H9.out.symm, HBF.out⟩
set_option maxRecDepth 100000 in
set_option maxHeartbeats 4000000 in
theorem l06WayS_c (t : Tmpl) (x : Inst) (f : OpT) (tb xb fb : Nat) (t0 t1 x0 x1 f0 f1 : Value) (w : World) (ht : Rd w [t0, t1] t) (hx : Rd w [x0, x1] x) (hf : Rd w [f0, f1] f)
    (tc0 : w.cell? ⟨tb, 0, none⟩ = some t0) (tc1 : w.cell? ⟨tb, 1, none⟩ = some t1) (xc0 : w.cell? ⟨xb, 0, none⟩ = some x0) (xc1 : w.cell? ⟨xb, 1, none⟩ = some x1) (fc0 : w.cell? ⟨fb, 0, none⟩ = some f0) (fc1 : w.cell? ⟨fb, 1, none⟩ = some f1) :
    Calls Tryz.prog 27 #[.pointer (some ⟨tb, 0, none⟩), .pointer (some ⟨xb, 0, none⟩), .pointer (some ⟨fb, 0, none⟩), .int .i64 6] w fun e w' => e = .returned (.int .i64 (wayF (semiB t.1 f) t x f)) ∧ Below w.heap.size w w' := by
  obtain ⟨size, rs⟩ := t
  obtain ⟨vars, cs⟩ := x
  obtain ⟨fa, ft⟩ := f
  have HT := Lib.hid ht
  have HX := Lib.hid hx
  have HF := Lib.hid hf
  have zt := rd_cons rfl ht
  obtain ⟨rfl, _⟩ := rd_i1 zt.1
  obtain ⟨at0, ct0, rfl, _⟩ := rd_list zt.2
  have zx := rd_cons rfl hx
  obtain ⟨rfl, _⟩ := rd_i1 zx.1
  obtain ⟨ax, cx, rfl, _⟩ := rd_list zx.2
  have zf := rd_cons rfl hf
  obtain ⟨rfl, _⟩ := rd_i1 zf.1
  obtain ⟨af, cf, rfl, _⟩ := rd_list zf.2
  clear ht hx hf zt zx zf
  have tc0_ := cellL (St.start w).bel tc0
  clear tc0_
  have tc0_ := cellL (St.start w).bel tc0
  have tc1_ := cellL (St.start w).bel tc1
  clear tc0_ tc1_
  have tc0_ := cellL (St.start w).bel tc0
  have tc1_ := cellL (St.start w).bel tc1
  have xc0_ := cellL (St.start w).bel xc0
  clear tc0_ tc1_ xc0_
  have tc0_ := cellL (St.start w).bel tc0
  have tc1_ := cellL (St.start w).bel tc1
  have xc0_ := cellL (St.start w).bel xc0
  have xc1_ := cellL (St.start w).bel xc1
  clear tc0_ tc1_ xc0_ xc1_
  have tc0_ := cellL (St.start w).bel tc0
  have tc1_ := cellL (St.start w).bel tc1
  have xc0_ := cellL (St.start w).bel xc0
  have xc1_ := cellL (St.start w).bel xc1
  have fc0_ := cellL (St.start w).bel fc0
  clear tc0_ tc1_ xc0_ xc1_ fc0_
  have tc0_ := cellL (St.start w).bel tc0
  have tc1_ := cellL (St.start w).bel tc1
  have xc0_ := cellL (St.start w).bel xc0
  have xc1_ := cellL (St.start w).bel xc1
  have fc0_ := cellL (St.start w).bel fc0
  have fc1_ := cellL (St.start w).bel fc1
  go_enter Tryz.func27, Tryz.ntmps27
  go_wp2_with fail
  refine (l05Ok_c (size, rs) (vars, cs) tb xb _ _ _ _ _ (Rd.mono HT.out (St.start w).bel) (Rd.mono HX.out (St.start w).bel) (cellL (St.start w).bel tc0) (cellL (St.start w).bel tc1) (cellL (St.start w).bel xc0) (cellL (St.start w).bel xc1)).mono ?_
  rintro e w27 ⟨rfl, hbw27⟩
  have hz_w27 : w.heap.size ≤ w27.heap.size := by have h9 := hbw27.size; (try simp at h9); omega
  have hs28 := (St.start w).step hbw27
  clear tc0_ tc1_ xc0_ xc1_ fc0_ fc1_
  have tc0_ := cellL hs28.bel tc0
  have tc1_ := cellL hs28.bel tc1
  have xc0_ := cellL hs28.bel xc0
  have xc1_ := cellL hs28.bel xc1
  have fc0_ := cellL hs28.bel fc0
  have fc1_ := cellL hs28.bel fc1
  cases h1 : instOk (size, rs) (vars, cs) with
  | false =>
    have H9 := Lib.hid (show wayF (semiB size (fa, ft)) (size, rs) (vars, cs) (fa, ft) = 1 by unfold wayF; rw [h1]; rfl)
    clear h1
    go_wp2_with fail
    go_ret
    exact ⟨ret_int H9.out.symm, hs28.bel⟩
  | true =>
    have H1 := Lib.hid h1
    clear h1
    go_wp2_with fail
    refine (l02Ok_c size (fa, ft) fb 0 _ _ _ (Rd.mono HF.out hs28.bel) (cellL hs28.bel fc0) (cellL hs28.bel fc1)).mono ?_
    rintro e w29 ⟨rfl, hbw29⟩
    have hz_w29 : w27.heap.size ≤ w29.heap.size := by have h9 := hbw29.size; (try simp at h9); omega
    have hs30 := hs28.step hbw29
    clear tc0_ tc1_ xc0_ xc1_ fc0_ fc1_
    have tc0_ := cellL hs30.bel tc0
    have tc1_ := cellL hs30.bel tc1
    have xc0_ := cellL hs30.bel xc0
    have xc1_ := cellL hs30.bel xc1
    have fc0_ := cellL hs30.bel fc0
    have fc1_ := cellL hs30.bel fc1
    cases h2 : opOk size (fa, ft) with
    | false =>
      have H9 := Lib.hid (show wayF (semiB size (fa, ft)) (size, rs) (vars, cs) (fa, ft) = 1 by unfold wayF; rw [H1.out, h2]; rfl)
      clear h2
      go_wp2_with fail
      go_ret
      exact ⟨ret_int H9.out.symm, hs30.bel⟩
    | true =>
      have H2 := Lib.hid h2
      clear h2
      go_wp2_with fail
      refine (l02KindS_c size (fa, ft) fb 0 _ _ _ (Rd.mono HF.out hs30.bel) (cellL hs30.bel fc0) (cellL hs30.bel fc1) H2.out).mono ?_
      rintro e w31 ⟨rfl, hbw31⟩
      have hz_w31 : w29.heap.size ≤ w31.heap.size := by have h9 := hbw31.size; (try simp at h9); omega
      have hs32 := hs30.step hbw31
      clear tc0_ tc1_ xc0_ xc1_ fc0_ fc1_
      have tc0_ := cellL hs32.bel tc0
      have tc1_ := cellL hs32.bel tc1
      have xc0_ := cellL hs32.bel xc0
      have xc1_ := cellL hs32.bel xc1
      have fc0_ := cellL hs32.bel fc0
      have fc1_ := cellL hs32.bel fc1
      cases h3 : semiB size (fa, ft) with
      | false =>
        have H9 := Lib.hid (show wayF (semiB size (fa, ft)) (size, rs) (vars, cs) (fa, ft) = 4 by unfold wayF; rw [H1.out, H2.out, h3]; rfl)
        clear h3
        go_wp2_with fail
        go_ret
        exact ⟨ret_int H9.out.symm, hs32.bel⟩
      | true =>
        have H3 := Lib.hid h3
        clear h3
        go_wp2_with fail
        refine (l02First_c (size, rs) (fa, ft) tb fb _ _ _ _ _ (Rd.mono HT.out hs32.bel) (Rd.mono HF.out hs32.bel) H2.out (tmplOk_get (instOk_get H1.out).1).2.2 (cellL hs32.bel tc0) (cellL hs32.bel tc1) (cellL hs32.bel fc0) (cellL hs32.bel fc1)).mono ?_
        rintro e w33 ⟨rfl, hbw33⟩
        have hz_w33 : w31.heap.size ≤ w33.heap.size := by have h9 := hbw33.size; (try simp at h9); omega
        have hs34 := hs32.step hbw33
        clear tc0_ tc1_ xc0_ xc1_ fc0_ fc1_
        have tc0_ := cellL hs34.bel tc0
        have tc1_ := cellL hs34.bel tc1
        have xc0_ := cellL hs34.bel xc0
        have xc1_ := cellL hs34.bel xc1
        have fc0_ := cellL hs34.bel fc0
        have fc1_ := cellL hs34.bel fc1
        have HM := Lib.hid (broken_m1 (size, rs) (fa, ft))
        cases h4 : decide (brokenF (size, rs) (fa, ft) < 0) with
        | false =>
          have H9 := Lib.hid (show wayF (semiB size (fa, ft)) (size, rs) (vars, cs) (fa, ft) = 4 by unfold wayF; rw [H1.out, H2.out, H3.out, h4]; rfl)
          have hbm : (brokenF (size, rs) (fa, ft) != -1) = true := by rw [HM.out, h4]; rfl
          clear h4
          generalize brokenF (size, rs) (fa, ft) = BR at *
          go_wp2_with fail
          go_ret
          exact ⟨ret_int H9.out.symm, hs34.bel⟩
        | true =>
          have H9 := Lib.hid (show wayF (semiB size (fa, ft)) (size, rs) (vars, cs) (fa, ft) = 0 by unfold wayF; rw [H1.out, H2.out, H3.out, h4]; rfl)
          have hbm : (brokenF (size, rs) (fa, ft) != -1) = false := by rw [HM.out, h4]; rfl
          clear h4
          generalize brokenF (size, rs) (fa, ft) = BR at *
          go_wp2_with fail
          go_ret
          exact ⟨ret_int H9.out.symm, hs34.bel⟩

end Go.Proofs.YtbbmadmnmlljmaaGreat

/-
  CONTRACT: solving by a semilattice: the reference's side. (Printed by wip/gensemi.py.)
-/
namespace Go.Proofs.YtbbmadmnmlljmaaGreat
open Go.RowKit Go.Shelf Go.IntWalk
open Rep (Rd Own sz)
set_option linter.unusedSimpArgs false
set_option linter.unusedVariables false

set_option maxRecDepth 100000 in
set_option maxHeartbeats 16000000 in
theorem sSolveBySemilattice_c (t : Tmpl) (t0 t1 : Value) (x : Inst) (x0 x1 : Value) (f : OpT) (f0 f1 : Value) (w : World) (ht : Rd w [t0, t1] t) (hx : Rd w [x0, x1] x) (hf : Rd w [f0, f1] f) :
    Calls Tryz.prog 8 #[.agg #[t0, t1], .agg #[x0, x1], .agg #[f0, f1]] w fun e w' => ∃ u0 u1 u2 u3 u4, e = .returned (.tuple #[.agg #[u0, u1, u2, u3, u4], .int .i64 (semiF t x f).2]) ∧ Fresh w.heap.size w' [u0, u1, u2, u3, u4] (semiF t x f).1 ∧ Below w.heap.size w w' := by
  obtain ⟨size, rs⟩ := t
  obtain ⟨vars, cs⟩ := x
  obtain ⟨fa, ft⟩ := f
  have HT := Lib.hid ht
  have HX := Lib.hid hx
  have HF := Lib.hid hf
  have zt := rd_cons rfl ht
  obtain ⟨rfl, _⟩ := rd_i1 zt.1
  obtain ⟨at0, ct0, rfl, _⟩ := rd_list zt.2
  have zx := rd_cons rfl hx
  obtain ⟨rfl, _⟩ := rd_i1 zx.1
  obtain ⟨ax, cx, rfl, _⟩ := rd_list zx.2
  have zf := rd_cons rfl hf
  obtain ⟨rfl, _⟩ := rd_i1 zf.1
  obtain ⟨af, cf, rfl, _⟩ := rd_list zf.2
  have HRS := Lib.hid zt.2
  have HCS := Lib.hid zx.2
  have HI := Lib.hid (wayF_I64 (semiB size (fa, ft)) (size, rs) (vars, cs) (fa, ft))
  clear ht hx hf zt zx zf
  have hs35 := (St.start w).alloc #[.int .i64 size, .slice at0 rs.length ct0] 42 (n := w.heap.size) (by simp)
  have k0_0 := hs35.cellAt 0 rfl 0 rfl
  have k0_1 := hs35.cellAt 0 rfl 1 rfl
  have hs36 := hs35.alloc #[.int .i64 vars, .slice ax cs.length cx] 46 (n := w.heap.size + 1) (by simp)
  clear k0_0 k0_1
  have k0_0 := hs36.cellAt 0 rfl 0 rfl
  have k0_1 := hs36.cellAt 0 rfl 1 rfl
  have k1_0 := hs36.cellAt 1 rfl 0 rfl
  have k1_1 := hs36.cellAt 1 rfl 1 rfl
  have hs37 := hs36.alloc #[.int .i64 fa, .slice af ft.length cf] 48 (n := w.heap.size + 1 + 1) (by simp)
  clear k0_0 k0_1 k1_0 k1_1
  have k0_0 := hs37.cellAt 0 rfl 0 rfl
  have k0_1 := hs37.cellAt 0 rfl 1 rfl
  have k1_0 := hs37.cellAt 1 rfl 0 rfl
  have k1_1 := hs37.cellAt 1 rfl 1 rfl
  have k2_0 := hs37.cellAt 2 rfl 0 rfl
  have k2_1 := hs37.cellAt 2 rfl 1 rfl
  have hs38 := hs37.alloc #[.int .i64 0, .slice none 0 0, .slice none 0 0, .slice none 0 0, .slice none 0 0] 37 (n := w.heap.size + 1 + 1 + 1) (by simp)
  clear k0_0 k0_1 k1_0 k1_1 k2_0 k2_1
  have k0_0 := hs38.cellAt 0 rfl 0 rfl
  have k0_1 := hs38.cellAt 0 rfl 1 rfl
  have k1_0 := hs38.cellAt 1 rfl 0 rfl
  have k1_1 := hs38.cellAt 1 rfl 1 rfl
  have k2_0 := hs38.cellAt 2 rfl 0 rfl
  have k2_1 := hs38.cellAt 2 rfl 1 rfl
  have k3_0 := hs38.cellAt 3 rfl 0 rfl
  have k3_1 := hs38.cellAt 3 rfl 1 rfl
  have k3_2 := hs38.cellAt 3 rfl 2 rfl
  have k3_3 := hs38.cellAt 3 rfl 3 rfl
  have k3_4 := hs38.cellAt 3 rfl 4 rfl
  go_enter Tryz.func8, Tryz.ntmps8
  go_wp2_with fail
  refine (l06WayS_c (size, rs) (vars, cs) (fa, ft) (w.heap.size) (w.heap.size + 1) (w.heap.size + 1 + 1) _ _ _ _ _ _ _ (Rd.mono HT.out hs38.bel) (Rd.mono HX.out hs38.bel) (Rd.mono HF.out hs38.bel) (hs38.cellAt 0 rfl 0 rfl) (hs38.cellAt 0 rfl 1 rfl) (hs38.cellAt 1 rfl 0 rfl) (hs38.cellAt 1 rfl 1 rfl) (hs38.cellAt 2 rfl 0 rfl) (hs38.cellAt 2 rfl 1 rfl)).mono ?_
  rintro e w39 ⟨rfl, hbw39⟩
  have hz_w39 : w.heap.size + 1 + 1 + 1 + 1 ≤ w39.heap.size := by have h9 := hbw39.size; (try simp at h9); omega
  have hs40 := hs38.step hbw39
  clear k0_0 k0_1 k1_0 k1_1 k2_0 k2_1 k3_0 k3_1 k3_2 k3_3 k3_4
  have k0_0 := hs40.cellAt 0 rfl 0 rfl
  have k0_1 := hs40.cellAt 0 rfl 1 rfl
  have k1_0 := hs40.cellAt 1 rfl 0 rfl
  have k1_1 := hs40.cellAt 1 rfl 1 rfl
  have k2_0 := hs40.cellAt 2 rfl 0 rfl
  have k2_1 := hs40.cellAt 2 rfl 1 rfl
  have k3_0 := hs40.cellAt 3 rfl 0 rfl
  have k3_1 := hs40.cellAt 3 rfl 1 rfl
  have k3_2 := hs40.cellAt 3 rfl 2 rfl
  have k3_3 := hs40.cellAt 3 rfl 3 rfl
  have k3_4 := hs40.cellAt 3 rfl 4 rfl
  by_cases h0 : wayF (semiB size (fa, ft)) (size, rs) (vars, cs) (fa, ft) = 0
  · obtain ⟨h1, h2, h3⟩ := wayF_0 h0
    have hs := (tmplOk_get (instOk_get h1).1).1
    have hv := (instOk_get h1).2.1
    simp only at hs hv h2
    obtain ⟨sn, rfl⟩ : ∃ n : Nat, size = (n : Int) := ⟨size.toNat, by omega⟩
    obtain ⟨V, rfl⟩ : ∃ n : Nat, vars = (n : Int) := ⟨vars.toNat, by omega⟩
    have H0 := Lib.hid (show semiF ((sn : Int), rs) ((V : Int), cs) (fa, ft) = if goneD (arcsF ((sn : Int), rs) ((V : Int), cs) (fullD sn V)).1 then ((1, [], (arcsF ((sn : Int), rs) ((V : Int), cs) (fullD sn V)).2, [], []), 0) else ((0, (arcsF ((sn : Int), rs) ((V : Int), cs) (fullD sn V)).1.map (foldD sn (fa, ft)), [], [], []), 0) by unfold semiF; rw [if_pos h0]; simp only [Int.toNat_natCast])
    have HOK := Lib.hid h2
    have HA2 := Lib.hid (semi_two h3)
    have HFF := Lib.hid (full_facts (sn := sn) (V := V) h1 rfl rfl)
    rw [h0]
    clear h0 h1 h2 h3
    go_wp2_with fail
    refine (l05Full_c sn V _ _ _ (hs40.cellAt 0 rfl 0 rfl) (hs40.cellAt 1 rfl 0 rfl) (by omega) (by omega)).mono ?_
    rintro e wD5 ⟨v5, rfl, hac, hb5⟩
    obtain ⟨g2, c2, rfl⟩ := accP_form hac (by rw [HFF.out.len]; omega)
    rw [HFF.out.len] at hac ⊢
    have HDI := Lib.hid hac.ip
    have HB5 := Lib.hid hb5
    obtain ⟨wB, hwB⟩ : ∃ x, x = w39 := ⟨_, rfl⟩
    have HSB := Lib.hid (show St w (w.heap.size + 1 + 1 + 1 + 1) wB _ from by rw [hwB]; exact hs40.up (by omega) hs40.hi)
    have HTB := Lib.hid (Rd.mono HT.out hs40.bel)
    have HXB := Lib.hid (Rd.mono HX.out hs40.bel)
    have HC0 := Lib.hid (And.intro (hs40.cellAt 0 rfl 1 rfl) (hs40.cellAt 1 rfl 1 rfl))
    rw [← hwB] at HDI HB5 HTB HXB HC0
    clear hac hb5 hwB
    have hsD := HSB.out.step HB5.out
    have k0_0 := hsD.cellAt 0 rfl 0 rfl
    have k0_1 := hsD.cellAt 0 rfl 1 rfl
    have k1_0 := hsD.cellAt 1 rfl 0 rfl
    have k1_1 := hsD.cellAt 1 rfl 1 rfl
    have k2_0 := hsD.cellAt 2 rfl 0 rfl
    have k2_1 := hsD.cellAt 2 rfl 1 rfl
    have k3_0 := hsD.cellAt 3 rfl 0 rfl
    have k3_1 := hsD.cellAt 3 rfl 1 rfl
    have k3_2 := hsD.cellAt 3 rfl 2 rfl
    have k3_3 := hsD.cellAt 3 rfl 3 rfl
    have k3_4 := hsD.cellAt 3 rfl 4 rfl
    go_wp2_with fail
    refine (l05Arcs_c ((sn : Int), rs) ((V : Int), cs) (fullD sn V) _ _ _ _ _ _ g2 c2 V (lensA (fullD sn V)) (fun z => wB.heap.size ≤ z) wB wD5 HB5.out HTB.out HXB.out HFF.out.f.inst HC0.out.1 HC0.out.2 HDI.out (fun z hz => hz) (by have h := HFF.out.f.ok; rw [HFF.out.len] at h; exact h) rfl (by have := HFF.out.f.forty; omega)).mono ?_
    rintro e wA6 ⟨gs, co, rfl, hA⟩
    have hA : ArcW wB _ _ _ _ _ _ _ _ gs co (arcsF ((sn : Int), rs) ((V : Int), cs) (fullD sn V)) := hA
    have HAW := Lib.hid hA
    have HI3 := Lib.hid HFF.out.i64
    have HIN := Lib.hid HFF.out.inn
    have hlB := HSB.out.hi
    have hl0 := HSB.out.lo
    have hs6 := HSB.out.step (hA.bel)
    have hz6 := hA.bel.size
    show _
    have eAF : (arcsA ((sn : Int), rs).2 ((V : Int), cs).2 (lensA (fullD sn V) + 1) (fullD sn V, [])) = arcsF ((sn : Int), rs) ((V : Int), cs) (fullD sn V) := rfl
    rw [eAF]
    clear hA eAF
    generalize arcsF ((sn : Int), rs) ((V : Int), cs) (fullD sn V) = AF at *
    have k0_0 := hs6.cellAt 0 rfl 0 rfl
    have k0_1 := hs6.cellAt 0 rfl 1 rfl
    have k1_0 := hs6.cellAt 1 rfl 0 rfl
    have k1_1 := hs6.cellAt 1 rfl 1 rfl
    have k2_0 := hs6.cellAt 2 rfl 0 rfl
    have k2_1 := hs6.cellAt 2 rfl 1 rfl
    have k3_0 := hs6.cellAt 3 rfl 0 rfl
    have k3_1 := hs6.cellAt 3 rfl 1 rfl
    have k3_2 := hs6.cellAt 3 rfl 2 rfl
    have k3_3 := hs6.cellAt 3 rfl 3 rfl
    have k3_4 := hs6.cellAt 3 rfl 4 rfl
    have HDR := Lib.hid HAW.out.rd
    have HFS := Lib.hid (Fresh.lower (fresh_snd rfl (arcW_fresh HAW.out HI3.out (lo := wB.heap.size) (HB5.out.size) (fun z hz => hz))) (show w.heap.size + 1 + 1 + 1 + 1 ≤ wB.heap.size by omega))
    go_wp2_with fail
    refine (l06Gone_c AF.1 _ _ HDR.out).mono ?_
    rintro e w41 ⟨rfl, hbw41⟩
    have hz_w41 : wA6.heap.size ≤ w41.heap.size := by have h9 := hbw41.size; (try simp at h9); omega
    have hs42 := hs6.step hbw41
    have HDR_43 := Lib.hid (Rd.mono HDR.out hbw41)
    clear HDR
    have HFS_44 := Lib.hid (Fresh.mono HFS.out hbw41)
    clear HFS
    clear k0_0 k0_1 k1_0 k1_1 k2_0 k2_1 k3_0 k3_1 k3_2 k3_3 k3_4
    have k0_0 := hs42.cellAt 0 rfl 0 rfl
    have k0_1 := hs42.cellAt 0 rfl 1 rfl
    have k1_0 := hs42.cellAt 1 rfl 0 rfl
    have k1_1 := hs42.cellAt 1 rfl 1 rfl
    have k2_0 := hs42.cellAt 2 rfl 0 rfl
    have k2_1 := hs42.cellAt 2 rfl 1 rfl
    have k3_0 := hs42.cellAt 3 rfl 0 rfl
    have k3_1 := hs42.cellAt 3 rfl 1 rfl
    have k3_2 := hs42.cellAt 3 rfl 2 rfl
    have k3_3 := hs42.cellAt 3 rfl 3 rfl
    have k3_4 := hs42.cellAt 3 rfl 4 rfl
    cases hg : goneD AF.1 with
    | true =>
      have H5 := Lib.hid (show semiF ((sn : Int), rs) ((V : Int), cs) (fa, ft) = ((1, [], AF.2, [], []), 0) by rw [H0.out, if_pos hg])
      clear hg
      have g0 := (hs42.freeAt 3 rfl 0)
      have g1 := (hs42.freeAt 3 rfl 1)
      have g2 := (hs42.freeAt 3 rfl 2)
      have g3 := (hs42.freeAt 3 rfl 3)
      have g4 := (hs42.freeAt 3 rfl 4)
      have hs9 := (((((hs42.set (p := [_, _, _]) (by simp <;> omega) 0 (.int .i64 1)).set (p := [_, _, _]) (by simp <;> omega) 1 (.slice none 0 0)).set (p := [_, _, _]) (by simp <;> omega) 2 (.slice (some ⟨gs, 0, none⟩) AF.2.length co)).set (p := [_, _, _]) (by simp <;> omega) 3 (.slice none 0 0)).set (p := [_, _, _]) (by simp <;> omega) 4 (.slice none 0 0))
      have HB9 := Lib.hid hs9.bel
      have y0 := hs9.cellAt 3 rfl 0 rfl
      have y1 := hs9.cellAt 3 rfl 1 rfl
      have y2 := hs9.cellAt 3 rfl 2 rfl
      have y3 := hs9.cellAt 3 rfl 3 rfl
      have y4 := hs9.cellAt 3 rfl 4 rfl
      have HFR := Lib.hid (show Fresh w.heap.size (((((w41.setCell ⟨w.heap.size + 1 + 1 + 1, 0, none⟩ (.int .i64 1)).setCell ⟨w.heap.size + 1 + 1 + 1, 1, none⟩ (.slice none 0 0)).setCell ⟨w.heap.size + 1 + 1 + 1, 2, none⟩ (.slice (some ⟨gs, 0, none⟩) AF.2.length co)).setCell ⟨w.heap.size + 1 + 1 + 1, 3, none⟩ (.slice none 0 0)).setCell ⟨w.heap.size + 1 + 1 + 1, 4, none⟩ (.slice none 0 0)) [.int .i64 1, .slice none 0 0, .slice (some ⟨gs, 0, none⟩) AF.2.length co, .slice none 0 0, .slice none 0 0] ((1, [], AF.2, [], []) : Vdct) from ((((((fresh_vdA (i64_of 1 (by decide) (by decide)) HFS_44.out).setCell (a := ⟨w.heap.size + 1 + 1 + 1, 0, none⟩) (by simp <;> omega) (.int .i64 1)).setCell (a := ⟨w.heap.size + 1 + 1 + 1, 1, none⟩) (by simp <;> omega) (.slice none 0 0)).setCell (a := ⟨w.heap.size + 1 + 1 + 1, 2, none⟩) (by simp <;> omega) (.slice (some ⟨gs, 0, none⟩) AF.2.length co)).setCell (a := ⟨w.heap.size + 1 + 1 + 1, 3, none⟩) (by simp <;> omega) (.slice none 0 0)).setCell (a := ⟨w.heap.size + 1 + 1 + 1, 4, none⟩) (by simp <;> omega) (.slice none 0 0)).lower (by omega))
      clear hs9
      go_wp2_with fail
      refine bodyPost_ret (v := .tuple #[.agg #[.int .i64 1, .slice none 0 0, .slice (some ⟨gs, 0, none⟩) AF.2.length co, .slice none 0 0, .slice none 0 0], .int .i64 0]) (by simp [results, Tryz.results8, go_sem, y0, y1, y2, y3, y4]) rfl ⟨_, _, _, _, _, by rw [H5.out], ?_, HB9.out⟩
      rw [H5.out]; exact HFR.out
    | false =>
      have H5 := Lib.hid (show semiF ((sn : Int), rs) ((V : Int), cs) (fa, ft) = ((0, AF.1.map (foldD sn (fa, ft)), [], [], []), 0) by rw [H0.out, if_neg (by rw [hg]; decide)])
      have HGN := Lib.hid (fun (d : List Int) (hd : d ∈ AF.1) => goneD_no (show goneD AF.1 = false from hg) hd)
      clear hg
      obtain ⟨wE, hwE⟩ : ∃ x, x = w41 := ⟨_, rfl⟩
      have HSE := Lib.hid (show St w (w.heap.size + 1 + 1 + 1 + 1) wE _ from by rw [hwE]; exact hs42)
      have HDE := Lib.hid HDR_43.out
      have HLE := Lib.hid HIN.out.len
      rw [← hwE] at HDE
      have HWE := Lib.hid hwE
      have HSV := Lib.hid (HSE.out.alloc #[.int .i64 0, .slice none 0 0, .slice none 0 0, .slice none 0 0, .slice none 0 0] 37 (n := wE.heap.size) rfl)
      have HBV := Lib.hid (belowA wE (.cells #[.int .i64 0, .slice none 0 0, .slice none 0 0, .slice none 0 0, .slice none 0 0] 37))
      have hlE := HSE.out.hi
      clear hwE
      clear HFS_44
      clear HDR_43
      go_wp2_with fail
      rw [← HWE.out]
      go_loopw [12] (fun iv wl => ∃ (k : Nat) (ao : Option Addr) (co : Nat), k ≤ V ∧ iv = .int .i64 k ∧ Hid (Below wE.heap.size wE wl) ∧ Hid (St w (wE.heap.size + 1) wl [(w.heap.size, #[.int .i64 sn, .slice at0 rs.length ct0], 42), (w.heap.size + 1, #[.int .i64 V, .slice ax cs.length cx], 46), (w.heap.size + 1 + 1, #[.int .i64 fa, .slice af ft.length cf], 48), (w.heap.size + 1 + 1 + 1, #[.int .i64 0, .slice none 0 0, .slice none 0 0, .slice none 0 0, .slice none 0 0], 37), (wE.heap.size, #[.int .i64 0, .slice ao k co, .slice none 0 0, .slice none 0 0, .slice none 0 0], 37)]) ∧
        Hid (∀ z, (Value.slice ao k co).ownBlock = some z → wE.heap.size + 1 ≤ z ∧ z < wl.heap.size) ∧ Hid (wl.ownsRow 0 2 1 (.slice ao k co) k (ivals ((AF.1.map (foldD sn (fa, ft))).take k)))) (fun iv _ => V - (intOf iv).toNat)
      case atStart => exact ⟨0, none, 0, Nat.zero_le _, rfl, HBV.out, HSV.out, fun z hz => (by cases hz), World.ownsRow_nil _ _ _ _⟩
      case round =>
        clear HSV HBV
        obtain ⟨k, ao, co, hk, rfl, hbl, hst, hgo, hrow⟩ := hrel
        have hs7 := hst.out
        have hs7h := hs7.hi
        have HBL := hbl
        have k0_0 := hs7.cellAt 0 rfl 0 rfl
        have k0_1 := hs7.cellAt 0 rfl 1 rfl
        have k1_0 := hs7.cellAt 1 rfl 0 rfl
        have k1_1 := hs7.cellAt 1 rfl 1 rfl
        have k2_0 := hs7.cellAt 2 rfl 0 rfl
        have k2_1 := hs7.cellAt 2 rfl 1 rfl
        have k3_0 := hs7.cellAt 3 rfl 0 rfl
        have k3_1 := hs7.cellAt 3 rfl 1 rfl
        have k3_2 := hs7.cellAt 3 rfl 2 rfl
        have k3_3 := hs7.cellAt 3 rfl 3 rfl
        have k3_4 := hs7.cellAt 3 rfl 4 rfl
        have k4_0 := hs7.cellAt 4 rfl 0 rfl
        have k4_1 := hs7.cellAt 4 rfl 1 rfl
        have k4_2 := hs7.cellAt 4 rfl 2 rfl
        have k4_3 := hs7.cellAt 4 rfl 3 rfl
        have k4_4 := hs7.cellAt 4 rfl 4 rfl
        by_cases hlt : k < V
        · have hkI : (k : Int) < V := by omega
          have hkl : k < AF.1.length := by rw [HLE.out]; exact hlt
          obtain ⟨aD, cD, eD, hdr⟩ := rd_list HDE.out
          simp only [Value.slice.injEq, Option.some.injEq] at eD
          obtain ⟨rfl, -, rfl⟩ := eD
          obtain ⟨b4, o4, vd, e4, qd, hdn⟩ := rdSl_one rfl hdr k hkl
          simp only [Option.some.injEq, Addr.mk.injEq, and_true] at e4
          obtain ⟨rfl, rfl⟩ := e4
          obtain ⟨z, m, hzm⟩ := HGN.out _ (List.getElem_mem hkl)
          have hvd := HIN.out.val _ (List.getElem_mem hkl)
          have HTK := Lib.hid (show (AF.1.map (foldD sn (fa, ft))).take (k + 1) = (AF.1.map (foldD sn (fa, ft))).take k ++ [foldV sn (fa, ft) z m] by
            rw [List.take_succ_eq_append_getElem (by simpa using hkl)]
            congr 2
            rw [List.getElem_map, hzm]
            rfl)
          rw [hzm] at hdn hvd
          have HFI := Lib.hid (foldV_in HOK.out HA2.out m z (hvd z (by simp)) (fun y hy => hvd y (by simp [hy])))
          have HVD := Lib.hid hvd
          obtain ⟨a5, c5, rfl, _⟩ := rd_list hdn
          have HDN := Lib.hid hdn
          have qd2 := cellL hbl.out qd
          have HQ0 := Lib.hid qd
          have HDN2 := Lib.hid (Rd.mono HDN.out hbl.out)
          rw [Nat.zero_add] at qd2
          have HTS2 := Lib.hid (show ivals ((AF.1.map (foldD sn (fa, ft))).take k) ++ [.int .i64 (foldV sn (fa, ft) z m)] = ivals ((AF.1.map (foldD sn (fa, ft))).take (k + 1)) by rw [HTK.out]; simp [ivals])
          have HRW := Lib.hid hrow.out
          have HGO := Lib.hid hgo.out
          clear hdr hdn hzm hvd qd hrow hgo hst
          go_upto_region 12 with fail
          refine wp_region_noPanic (wp_region_tree4 (fun w' => w'.cell? ⟨w.heap.size, 0, none⟩ = some (.int .i64 sn) ∧ w'.cell? ⟨w.heap.size, 1, none⟩ = some (.slice at0 rs.length ct0) ∧ w'.cell? ⟨w.heap.size + 1, 0, none⟩ = some (.int .i64 V) ∧ w'.cell? ⟨w.heap.size + 1, 1, none⟩ = some (.slice ax cs.length cx) ∧ w'.cell? ⟨w.heap.size + 1 + 1, 0, none⟩ = some (.int .i64 fa) ∧ w'.cell? ⟨w.heap.size + 1 + 1, 1, none⟩ = some (.slice af ft.length cf) ∧ w'.cell? ⟨w.heap.size + 1 + 1 + 1, 0, none⟩ = some (.int .i64 0) ∧ w'.cell? ⟨w.heap.size + 1 + 1 + 1, 1, none⟩ = some (.slice none 0 0) ∧ w'.cell? ⟨w.heap.size + 1 + 1 + 1, 2, none⟩ = some (.slice none 0 0) ∧ w'.cell? ⟨w.heap.size + 1 + 1 + 1, 3, none⟩ = some (.slice none 0 0) ∧ w'.cell? ⟨w.heap.size + 1 + 1 + 1, 4, none⟩ = some (.slice none 0 0) ∧ w'.cell? ⟨wE.heap.size, 0, none⟩ = some (.int .i64 0) ∧ w'.cell? ⟨wE.heap.size, 1, none⟩ = some (.slice ao k co) ∧ w'.cell? ⟨wE.heap.size, 2, none⟩ = some (.slice none 0 0) ∧ w'.cell? ⟨wE.heap.size, 3, none⟩ = some (.slice none 0 0) ∧ w'.cell? ⟨wE.heap.size, 4, none⟩ = some (.slice none 0 0) ∧ w'.cell? ⟨g2, k, none⟩ = some (.slice (a5) (z :: m).length c5)) (.float 0 (.float 1 (.float 2 (.float 3 (.float 4 (.float 5 (.float 6 (.float 7 (.hard 8 (.hard 9 (.hard 10 (.float 11 (.last 12 .nil))))))))))))) (by kernel_rfl) (by kernel_rfl) (by kernel_rfl) rfl ?_ (fun _ _ _ _ _ h => h) ?_)
          · exact ⟨(hs7.drew).cellAt 0 rfl 0 rfl, (hs7.drew).cellAt 0 rfl 1 rfl, (hs7.drew).cellAt 1 rfl 0 rfl, (hs7.drew).cellAt 1 rfl 1 rfl, (hs7.drew).cellAt 2 rfl 0 rfl, (hs7.drew).cellAt 2 rfl 1 rfl, (hs7.drew).cellAt 3 rfl 0 rfl, (hs7.drew).cellAt 3 rfl 1 rfl, (hs7.drew).cellAt 3 rfl 2 rfl, (hs7.drew).cellAt 3 rfl 3 rfl, (hs7.drew).cellAt 3 rfl 4 rfl, (hs7.drew).cellAt 4 rfl 0 rfl, (hs7.drew).cellAt 4 rfl 1 rfl, (hs7.drew).cellAt 4 rfl 2 rfl, (hs7.drew).cellAt 4 rfl 3 rfl, (hs7.drew).cellAt 4 rfl 4 rfl, cellL (belowD _) qd2⟩
          have hs45 := hs7.drew
          have qd2_46 := cellL (belowD _) qd2
          clear qd2
          have HBL_47 := Lib.hid (HBL.out.trans (((belowD _)).mono HBL.out.size))
          clear HBL
          have HRW_48 := Lib.hid (ownsRow_below HRW.out (belowD _))
          clear HRW
          have HDN2_49 := Lib.hid (Rd.mono HDN2.out (belowD _))
          clear HDN2
          clear k0_0 k0_1 k1_0 k1_1 k2_0 k2_1 k3_0 k3_1 k3_2 k3_3 k3_4 k4_0 k4_1 k4_2 k4_3 k4_4
          have hz_wd50 : wr.heap.size ≤ (wr.drew).heap.size := by simp
          generalize hgen_wd50 : wr.drew = wd50 at *
          have HG_wd50 := Lib.hid hgen_wd50
          clear hgen_wd50
          (repeat (first | (apply t4_skip rfl (by rfl); try simp only [Act.put, List.setIfInBounds_toArray, List.set_cons_zero, List.set_cons_succ]) | (apply t4_float rfl (by rfl); (· (intro w' hS; go_simp <;> with_reducible rfl)); (try simp only [Act.put, List.setIfInBounds_toArray, List.set_cons_zero, List.set_cons_succ]))))
          refine t4_hard rfl (by rfl) (fun K hK => ?_)
          go_wp2_with (go_at_call 31; refine (l06Fold_c sn (fa, ft) z m (w.heap.size + 1 + 1) 0 _ _ _ _ (Rd.mono HF.out hs45.bel) (hs45.cellAt 2 rfl 1 rfl) HDN2_49.out HOK.out HA2.out HVD.out).mono ?_; rintro e w51 ⟨rfl, hbw51⟩)
          have hz_w51 : wd50.heap.size ≤ w51.heap.size := by have h9 := hbw51.size; (try simp at h9); omega
          have hs52 := hs45.step hbw51
          have qd2_53 := cellL hbw51 qd2_46
          clear qd2_46
          have HBL_54 := Lib.hid (HBL_47.out.trans ((hbw51).mono HBL_47.out.size))
          clear HBL_47
          have HRW_55 := Lib.hid (ownsRow_below HRW_48.out hbw51)
          clear HRW_48
          have HDN2_56 := Lib.hid (Rd.mono HDN2_49.out hbw51)
          clear HDN2_49
          refine ⟨⟨hs52.cellAt 0 rfl 0 rfl, hs52.cellAt 0 rfl 1 rfl, hs52.cellAt 1 rfl 0 rfl, hs52.cellAt 1 rfl 1 rfl, hs52.cellAt 2 rfl 0 rfl, hs52.cellAt 2 rfl 1 rfl, hs52.cellAt 3 rfl 0 rfl, hs52.cellAt 3 rfl 1 rfl, hs52.cellAt 3 rfl 2 rfl, hs52.cellAt 3 rfl 3 rfl, hs52.cellAt 3 rfl 4 rfl, hs52.cellAt 4 rfl 0 rfl, hs52.cellAt 4 rfl 1 rfl, hs52.cellAt 4 rfl 2 rfl, hs52.cellAt 4 rfl 3 rfl, hs52.cellAt 4 rfl 4 rfl, qd2_53⟩, ?_⟩
          (repeat (first | (apply t4_skip rfl (by rfl); try simp only [Act.put, List.setIfInBounds_toArray, List.set_cons_zero, List.set_cons_succ]) | (apply t4_float rfl (by rfl); (· (intro w' hS; go_simp <;> with_reducible rfl)); (try simp only [Act.put, List.setIfInBounds_toArray, List.set_cons_zero, List.set_cons_succ]))))
          refine t4_hard rfl (by rfl) (fun K hK => ?_)
          go_wp2_with fail
          have hs57 := hs52.alloc #[.int .i64 (foldV sn (fa, ft) z m)] 2 (n := w51.heap.size) (by simp)
          have qd2_58 := cellL (belowA _ (.cells #[.int .i64 (foldV sn (fa, ft) z m)] 2)) qd2_53
          clear qd2_53
          have HBL_59 := Lib.hid (HBL_54.out.trans (((belowA _ (.cells #[.int .i64 (foldV sn (fa, ft) z m)] 2))).mono HBL_54.out.size))
          clear HBL_54
          have HRW_60 := Lib.hid (ownsRow_below HRW_55.out (belowA _ (.cells #[.int .i64 (foldV sn (fa, ft) z m)] 2)))
          clear HRW_55
          have HDN2_61 := Lib.hid (Rd.mono HDN2_56.out (belowA _ (.cells #[.int .i64 (foldV sn (fa, ft) z m)] 2)))
          clear HDN2_56
          refine ⟨⟨hs57.cellAt 0 rfl 0 rfl, hs57.cellAt 0 rfl 1 rfl, hs57.cellAt 1 rfl 0 rfl, hs57.cellAt 1 rfl 1 rfl, hs57.cellAt 2 rfl 0 rfl, hs57.cellAt 2 rfl 1 rfl, hs57.cellAt 3 rfl 0 rfl, hs57.cellAt 3 rfl 1 rfl, hs57.cellAt 3 rfl 2 rfl, hs57.cellAt 3 rfl 3 rfl, hs57.cellAt 3 rfl 4 rfl, hs57.cellAt 4 rfl 0 rfl, hs57.cellAt 4 rfl 1 rfl, hs57.cellAt 4 rfl 2 rfl, hs57.cellAt 4 rfl 3 rfl, hs57.cellAt 4 rfl 4 rfl, qd2_58⟩, ?_⟩
          (repeat (first | (apply t4_skip rfl (by rfl); try simp only [Act.put, List.setIfInBounds_toArray, List.set_cons_zero, List.set_cons_succ]) | (apply t4_float rfl (by rfl); (· (intro w' hS; go_simp <;> with_reducible rfl)); (try simp only [Act.put, List.setIfInBounds_toArray, List.set_cons_zero, List.set_cons_succ]))))
          refine t4_hard rfl (by rfl) (fun K hK => ?_)
          refine wp_append_row _ _ _ _ rfl E_ints (v := .slice ao k co) rfl HRW_60.out (vs := [.int .i64 (foldV sn (fa, ft) z m)]) rfl (one_int _) ⟨w51.heap.size, 0, none⟩ 1 rfl (news1 (hs57.cellAt 5 rfl 0 rfl)) (by omega) ?_
          intro gN cN wQ8 hat hrowN hbutN hltN
          have hsW := hs57.hi
          have hB8 := hbutN.butP (A := fun z => wE.heap.size + 1 ≤ z ∧ z < wr.heap.size) (fun z hz => HGO.out z (by simpa using hz))
          have hz8 := hB8.size
          have HG8 := Lib.hid (show wE.heap.size + 1 ≤ gN ∧ gN < wQ8.heap.size from ⟨by
            rcases hat with h | h
            · exact (HGO.out gN h).1
            · rw [h]; (try simp); omega, hltN⟩)
          rw [HTS2.out] at hrowN
          have HR8 := Lib.hid hrowN
          have HBQ := Lib.hid (HBL_59.out.trans (hB8.below (B := wE.heap.size) (fun z hz => by have := hz.1; omega) (by (try simp) <;> omega)))
          have hs8 := hs57.butP hB8 (fun z hz => by have := hz.1; omega) (fun x hx hA => by have h1 := hA.1; have h2 := hA.2; simp at hx; rcases hx with rfl | rfl | rfl | rfl | rfl | rfl <;> (try simp only at h1 h2) <;> omega)
          clear hat hrowN hbutN hltN
          clear HRW_60
          clear HBL_59
          clear HDN2_61
          have qd2_62 := cellB hB8 qd2_58 (fun h => by have := h.1; have := World.block_lt_of_cell? _ _ HQ0.out; (try simp only at this); omega)
          clear qd2_58
          refine hK _ _ ⟨⟨hs8.cellAt 0 rfl 0 rfl, hs8.cellAt 0 rfl 1 rfl, hs8.cellAt 1 rfl 0 rfl, hs8.cellAt 1 rfl 1 rfl, hs8.cellAt 2 rfl 0 rfl, hs8.cellAt 2 rfl 1 rfl, hs8.cellAt 3 rfl 0 rfl, hs8.cellAt 3 rfl 1 rfl, hs8.cellAt 3 rfl 2 rfl, hs8.cellAt 3 rfl 3 rfl, hs8.cellAt 3 rfl 4 rfl, hs8.cellAt 4 rfl 0 rfl, hs8.cellAt 4 rfl 1 rfl, hs8.cellAt 4 rfl 2 rfl, hs8.cellAt 4 rfl 3 rfl, hs8.cellAt 4 rfl 4 rfl, qd2_62⟩, ?_⟩
          (repeat (first | (apply t4_skip rfl (by rfl); try simp only [Act.put, List.setIfInBounds_toArray, List.set_cons_zero, List.set_cons_succ]) | (apply t4_float rfl (by rfl); (· (intro w' hS; go_simp <;> with_reducible rfl)); (try simp only [Act.put, List.setIfInBounds_toArray, List.set_cons_zero, List.set_cons_succ]))))
          refine t4_last rfl (by rfl) (fun K hK => ?_)
          have k0_0 := hs8.cellAt 0 rfl 0 rfl
          have k0_1 := hs8.cellAt 0 rfl 1 rfl
          have k1_0 := hs8.cellAt 1 rfl 0 rfl
          have k1_1 := hs8.cellAt 1 rfl 1 rfl
          have k2_0 := hs8.cellAt 2 rfl 0 rfl
          have k2_1 := hs8.cellAt 2 rfl 1 rfl
          have k3_0 := hs8.cellAt 3 rfl 0 rfl
          have k3_1 := hs8.cellAt 3 rfl 1 rfl
          have k3_2 := hs8.cellAt 3 rfl 2 rfl
          have k3_3 := hs8.cellAt 3 rfl 3 rfl
          have k3_4 := hs8.cellAt 3 rfl 4 rfl
          have k4_0 := hs8.cellAt 4 rfl 0 rfl
          have k4_1 := hs8.cellAt 4 rfl 1 rfl
          have k4_2 := hs8.cellAt 4 rfl 2 rfl
          have k4_3 := hs8.cellAt 4 rfl 3 rfl
          have k4_4 := hs8.cellAt 4 rfl 4 rfl
          have k5_0 := hs8.cellAt 5 rfl 0 rfl
          have hs63 := hs8.low (B' := wE.heap.size + 1) (bx' := [(w.heap.size, #[.int .i64 sn, .slice at0 rs.length ct0], 42), (w.heap.size + 1, #[.int .i64 V, .slice ax cs.length cx], 46), (w.heap.size + 1 + 1, #[.int .i64 fa, .slice af ft.length cf], 48), (w.heap.size + 1 + 1 + 1, #[.int .i64 0, .slice none 0 0, .slice none 0 0, .slice none 0 0, .slice none 0 0], 37), (wE.heap.size, #[.int .i64 0, .slice ao k co, .slice none 0 0, .slice none 0 0, .slice none 0 0], 37)]) (by omega) (by (try simp) <;> omega) (fun x hx => by simp only [List.mem_cons, List.not_mem_nil, or_false] at hx; rcases hx with rfl | rfl | rfl | rfl | rfl <;> (refine ⟨?_, ?_⟩ <;> (try simp) <;> (try omega)))
          have f2 := (hs63.freeAt 4 rfl 1)
          have hq := hs63.set (p := [_, _, _, _]) (by simp <;> omega) 1 (.slice (some ⟨gN, 0, none⟩) (k + 1) cN)
          have HQ := Lib.hid hq
          have HB9 := Lib.hid (HBQ.out.setCell (p := ⟨wE.heap.size, 1, none⟩) (by simp) (.slice (some ⟨gN, 0, none⟩) (k + 1) cN))
          have HG9 := Lib.hid (show ∀ z, (Value.slice (some ⟨gN, 0, none⟩) (k + 1) cN).ownBlock = some z → wE.heap.size + 1 ≤ z ∧ z < (wQ8.setCell ⟨wE.heap.size, 1, none⟩ (.slice (some ⟨gN, 0, none⟩) (k + 1) cN)).heap.size from fun z hz => by
            simp only [Value.ownBlock, Option.some.injEq] at hz
            subst hz
            simpa [World.setCell] using HG8.out)
          have HR9 := Lib.hid (row_frame (w' := wQ8.setCell ⟨wE.heap.size, 1, none⟩ (.slice (some ⟨gN, 0, none⟩) (k + 1) cN)) HR8.out (fun z hz => Below.heap_setCell _ _ _ _ (fun e => by
            simp only [Value.ownBlock, Option.some.injEq] at hz
            have := HG8.out.1
            simp only at e
            omega)))
          clear hq
          go_wp2_with fail
          refine t4_nil (NoPanic.normal ?_)
          go_wp2_with fail
          go_roundw
          case rel => exact ⟨k + 1, some ⟨gN, 0, none⟩, cN, by omega, by go_num, HB9.out, HQ.out, HG9.out, HR9.out⟩
          case measure => simp [intOf]; omega
        · obtain rfl : k = V := by omega
          have hnl : ¬ ((k : Int) < k) := by omega
          have HFV := Lib.hid (show Fresh (w.heap.size + 1 + 1 + 1 + 1) wr [.slice ao k co] (AF.1.map (foldD sn (fa, ft))) from by
            have hr := hrow.out
            have hg := hgo.out
            rw [List.take_of_length_le (by rw [List.length_map, HLE.out]; exact Nat.le_refl _)] at hr
            rcases hr.2 with ⟨_, h9⟩ | ⟨g9, cap9, cur9, e9, _⟩
            · omega
            · simp only [Value.slice.injEq] at e9
              obtain ⟨rfl, -, rfl⟩ := e9
              have h8 := hg g9 rfl
              refine ⟨[g9], ⟨_, rfl, ownSl_ints hr (by rw [List.length_map, HLE.out]) (fun a ha => ?_)⟩, by simp, fun q hq => by simp at hq; omega⟩
              obtain ⟨d, hd, rfl⟩ := List.mem_map.1 ha
              have h7 := foldD_in HOK.out HA2.out (fun a ha => HIN.out.val d hd a ha) hs.1
              exact i64_of _ (by omega) (by omega))
          clear hrow hgo hst
          have g0 := (hs7.freeAt 3 rfl 0)
          have g1 := (hs7.freeAt 3 rfl 1)
          have g2 := (hs7.freeAt 3 rfl 2)
          have g3 := (hs7.freeAt 3 rfl 3)
          have g4 := (hs7.freeAt 3 rfl 4)
          have hs9 := (((((hs7.set (p := [_, _, _]) (by simp <;> omega) 0 (.int .i64 0)).set (p := [_, _, _]) (by simp <;> omega) 1 (.slice ao k co)).set (p := [_, _, _]) (by simp <;> omega) 2 (.slice none 0 0)).set (p := [_, _, _]) (by simp <;> omega) 3 (.slice none 0 0)).set (p := [_, _, _]) (by simp <;> omega) 4 (.slice none 0 0))
          have HB9 := Lib.hid hs9.bel
          have y0 := hs9.cellAt 3 rfl 0 rfl
          have y1 := hs9.cellAt 3 rfl 1 rfl
          have y2 := hs9.cellAt 3 rfl 2 rfl
          have y3 := hs9.cellAt 3 rfl 3 rfl
          have y4 := hs9.cellAt 3 rfl 4 rfl
          have HFR := Lib.hid (show Fresh w.heap.size (((((wr.setCell ⟨w.heap.size + 1 + 1 + 1, 0, none⟩ (.int .i64 0)).setCell ⟨w.heap.size + 1 + 1 + 1, 1, none⟩ (.slice ao k co)).setCell ⟨w.heap.size + 1 + 1 + 1, 2, none⟩ (.slice none 0 0)).setCell ⟨w.heap.size + 1 + 1 + 1, 3, none⟩ (.slice none 0 0)).setCell ⟨w.heap.size + 1 + 1 + 1, 4, none⟩ (.slice none 0 0)) [.int .i64 0, .slice ao k co, .slice none 0 0, .slice none 0 0, .slice none 0 0] ((0, AF.1.map (foldD sn (fa, ft)), [], [], []) : Vdct) from ((((((fresh_vd (i64_of 0 (by decide) (by decide)) HFV.out).setCell (a := ⟨w.heap.size + 1 + 1 + 1, 0, none⟩) (by simp <;> omega) (.int .i64 0)).setCell (a := ⟨w.heap.size + 1 + 1 + 1, 1, none⟩) (by simp <;> omega) (.slice ao k co)).setCell (a := ⟨w.heap.size + 1 + 1 + 1, 2, none⟩) (by simp <;> omega) (.slice none 0 0)).setCell (a := ⟨w.heap.size + 1 + 1 + 1, 3, none⟩) (by simp <;> omega) (.slice none 0 0)).setCell (a := ⟨w.heap.size + 1 + 1 + 1, 4, none⟩) (by simp <;> omega) (.slice none 0 0)).lower (by omega))
          clear hs9
          go_wp2_with fail
          refine bodyPost_ret (v := .tuple #[.agg #[.int .i64 0, .slice ao k co, .slice none 0 0, .slice none 0 0, .slice none 0 0], .int .i64 0]) (by simp [results, Tryz.results8, go_sem, y0, y1, y2, y3, y4]) rfl ⟨_, _, _, _, _, by rw [H5.out], ?_, HB9.out⟩
          rw [H5.out]; exact HFR.out
  · have H5 := Lib.hid (show semiF (size, rs) (vars, cs) (fa, ft) = (vd0, wayF (semiB size (fa, ft)) (size, rs) (vars, cs) (fa, ft)) by unfold semiF; rw [if_neg h0])
    have hne : (wayF (semiB size (fa, ft)) (size, rs) (vars, cs) (fa, ft) != 0) = true := by rw [bne_iff_ne]; exact h0
    clear h0
    generalize wayF (semiB size (fa, ft)) (size, rs) (vars, cs) (fa, ft) = CODE at *
    have g0 := (hs40.freeAt 3 rfl 0)
    have g1 := (hs40.freeAt 3 rfl 1)
    have g2 := (hs40.freeAt 3 rfl 2)
    have g3 := (hs40.freeAt 3 rfl 3)
    have g4 := (hs40.freeAt 3 rfl 4)
    have hs9 := (((((hs40.set (p := [_, _, _]) (by simp <;> omega) 0 (.int .i64 0)).set (p := [_, _, _]) (by simp <;> omega) 1 (.slice none 0 0)).set (p := [_, _, _]) (by simp <;> omega) 2 (.slice none 0 0)).set (p := [_, _, _]) (by simp <;> omega) 3 (.slice none 0 0)).set (p := [_, _, _]) (by simp <;> omega) 4 (.slice none 0 0))
    have HB9 := Lib.hid hs9.bel
    have y0 := hs9.cellAt 3 rfl 0 rfl
    have y1 := hs9.cellAt 3 rfl 1 rfl
    have y2 := hs9.cellAt 3 rfl 2 rfl
    have y3 := hs9.cellAt 3 rfl 3 rfl
    have y4 := hs9.cellAt 3 rfl 4 rfl
    clear hs9
    go_wp2_with fail
    refine bodyPost_ret (v := .tuple #[.agg #[.int .i64 0, .slice none 0 0, .slice none 0 0, .slice none 0 0, .slice none 0 0], .int .i64 CODE]) (by simp [results, Tryz.results8, go_sem, y0, y1, y2, y3, y4]) rfl ⟨_, _, _, _, _, by rw [H5.out], ?_, HB9.out⟩
    rw [H5.out]; exact fresh_vd ⟨by decide, by decide⟩ fresh_nil_list

end Go.Proofs.YtbbmadmnmlljmaaGreat
