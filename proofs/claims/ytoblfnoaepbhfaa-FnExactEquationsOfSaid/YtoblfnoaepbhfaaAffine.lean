/-
  CONTRACTS: is a relation affine?
-/
import Derived.Test.YtoblfnoaepbhfaaKeepS
import Derived.Test.YtoblfnoaepbhfaaAff
namespace Go.Proofs.Ytoblfnoaepbhfaa
open Go.RowKit Go.Shelf Go.IntWalk
open Rep (Rd Own sz)
set_option linter.unusedSimpArgs false
set_option linter.unusedVariables false

theorem affOp_ok {p : Int} (h : isPr p = true) : opOk p (affOp p) = true := by
  rcases isPr_true h with rfl | rfl <;> decide
def affFault (p : Int) (r : RelT) : Int := if isPr p then (if relOk p r then 0 else 1) else 2
def affIs (p : Int) (r : RelT) : Bool := decide (0 < r.2.length) && keepsP p (affOp p) r
/-- What IsAffine hands back. -/
def isAffineF (p : Int) (r : RelT) : Bool × Int := if affFault p r = 0 then (affIs p r, 0) else (false, affFault p r)
theorem affFault_zero {p : Int} {r : RelT} (h : affFault p r = 0) : isPr p = true ∧ relOk p r = true := by
  unfold affFault at h
  cases h1 : isPr p with
  | false => simp [h1] at h
  | true =>
    cases h2 : relOk p r with
    | false => simp [h1, h2] at h
    | true => exact ⟨rfl, rfl⟩
theorem rd_op {w : World} {v : Value} {k : Int} {tb : List Int} (hk : I64 k) (h : Rd w [v] tb) : Rd w [.int .i64 k, v] (k, tb) := ⟨[.int .i64 k], [v], rfl, ⟨rfl, hk⟩, h⟩
set_option maxRecDepth 100000 in
set_option maxHeartbeats 2000000 in
theorem affineFault_c (p : Int) (r : RelT) (v0 v1 : Value) (w : World) (hr : Rd w [v0, v1] r) :
    Calls Try.prog 30 #[.int .i64 p, .agg #[v0, v1]] w fun e w' => e = .returned (.int .i64 (affFault p r)) ∧ Below w.heap.size w w' := by
  obtain ⟨ar, l⟩ := r
  have HR := Lib.hid hr
  have z1 := rd_cons rfl hr
  obtain ⟨rfl, hIar⟩ := rd_i1 z1.1
  obtain ⟨a, c, rfl, hRl⟩ := rd_list z1.2
  clear hr z1
  clear hRl
  have hs2 := (St.start w).alloc #[.int .i64 ar, .slice a l.length c] 31 (n := w.heap.size) (by simp)
  have k0_0 := hs2.cellAt 0 rfl 0 rfl
  have k0_1 := hs2.cellAt 0 rfl 1 rfl
  go_enter Try.func30, Try.ntmps30
  go_wp2_with fail
  refine (isPrime_c p _).mono ?_
  rintro e w3 ⟨rfl, rfl⟩
  cases h1 : isPr p with
  | false =>
    have H1 := Lib.hid (show affFault p (ar, l) = 2 by simp [affFault, h1])
    clear h1
    go_wp2_with fail
    go_ret
    exact ⟨ret_int H1.out.symm, hs2.bel⟩
  | true =>
    have HI := Lib.hid h1
    clear h1
    go_wp2_with fail
    refine (ValidRel_c p (ar, l) _ _ _ (Rd.mono HR.out hs2.bel)).mono ?_
    rintro e w4 ⟨rfl, hbw4⟩
    have hz_w4 : w.heap.size + 1 ≤ w4.heap.size := by have h9 := hbw4.size; (try simp at h9); omega
    have hs5 := hs2.step hbw4
    clear k0_0 k0_1
    have k0_0 := hs5.cellAt 0 rfl 0 rfl
    have k0_1 := hs5.cellAt 0 rfl 1 rfl
    cases h2 : relOk p (ar, l) with
    | false =>
      have H1 := Lib.hid (show affFault p (ar, l) = 1 by simp [affFault, HI.out, h2])
      clear h2
      go_wp2_with fail
      go_ret
      exact ⟨ret_int H1.out.symm, hs5.bel⟩
    | true =>
      have H1 := Lib.hid (show affFault p (ar, l) = 0 by simp [affFault, HI.out, h2])
      clear h2
      go_wp2_with fail
      go_ret
      exact ⟨ret_int H1.out.symm, hs5.bel⟩
set_option maxRecDepth 100000 in
set_option maxHeartbeats 4000000 in
theorem isAffine1_c (p : Int) (r : RelT) (v0 v1 : Value) (w : World) (hr : Rd w [v0, v1] r) (hp : isPr p = true) (hrk : relOk p r = true) :
    Calls Try.prog 31 #[.int .i64 p, .agg #[v0, v1]] w fun e w' => e = .returned (.bool (affIs p r)) ∧ Below w.heap.size w w' := by
  obtain ⟨ar, l⟩ := r
  have hp2 : p = 2 ∨ p = 3 := isPr_true hp
  have hok := affOp_ok hp
  have hA : affIs p (ar, l) = (decide (0 < l.length) && keepsP p (affOp p) (ar, l)) := rfl
  have CA := fun (W : World) => affineOp_c p W (by omega) (by omega)
  unfold affOp at hok hA
  generalize hT : tableTo (affF p) p 3 (p ^ 3).toNat = tb at *
  have HOK := Lib.hid hok
  have HA := Lib.hid hA
  have CA := Lib.hid CA
  have HRK := Lib.hid hrk
  clear hT hok hA hp hrk
  have HR := Lib.hid hr
  have z6 := rd_cons rfl hr
  obtain ⟨rfl, hIar⟩ := rd_i1 z6.1
  obtain ⟨a, c, rfl, hRl⟩ := rd_list z6.2
  clear hr z6
  have hb0 := (rdSl_len hRl).2
  unfold maxLen at hb0
  clear hRl
  have hs7 := (St.start w).alloc #[.int .i64 ar, .slice a l.length c] 31 (n := w.heap.size) (by simp)
  have k0_0 := hs7.cellAt 0 rfl 0 rfl
  have k0_1 := hs7.cellAt 0 rfl 1 rfl
  go_enter Try.func31, Try.ntmps31
  by_cases hl : l.length = 0
  · have HD := Lib.hid (show decide (0 < l.length) = false by simp [hl])
    have H1 := Lib.hid (show affIs p (ar, l) = false by rw [HA.out, HD.out, Bool.false_and])
    clear hl
    go_upto_region 1 with fail
    refine wp_region_noPanic (wp_region_tree4 (fun w' => w'.cell? ⟨w.heap.size, 0, none⟩ = some (.int .i64 ar) ∧ w'.cell? ⟨w.heap.size, 1, none⟩ = some (.slice a l.length c)) (.float 0 (.float 1 (.float 2 (.float 3 (.float 4 (.float 5 (.float 6 (.float 8 (.hard 7 (.hard 9 (.float 10 (.float 11 .nil)))))))))))) (by kernel_rfl) (by kernel_rfl) (by kernel_rfl) rfl ?_ (fun _ _ _ _ _ h => h) ?_)
    · exact ⟨(hs7.drew).cellAt 0 rfl 0 rfl, (hs7.drew).cellAt 0 rfl 1 rfl⟩
    have hs8 := hs7.drew
    clear k0_0 k0_1
    have hz_wd9 : w.heap.size + 1 ≤ ((w.alloc (.cells #[.int .i64 ar, .slice a l.length c] 31)).drew).heap.size := by simp
    generalize hgen_wd9 : (w.alloc (.cells #[.int .i64 ar, .slice a l.length c] 31)).drew = wd9 at *
    have HG_wd9 := Lib.hid hgen_wd9
    clear hgen_wd9
    (repeat (first | (apply t4_skip rfl (by rfl); try simp only [Act.put, List.setIfInBounds_toArray, List.set_cons_zero, List.set_cons_succ]) | (apply t4_float rfl (by rfl); (· (intro w' hS; go_simp <;> with_reducible rfl)); (try simp only [Act.put, List.setIfInBounds_toArray, List.set_cons_zero, List.set_cons_succ]))))
    (try (rw [HD.out]; (repeat (first | (apply t4_skip rfl (by rfl); try simp only [Act.put, List.setIfInBounds_toArray, List.set_cons_zero, List.set_cons_succ]) | (apply t4_float rfl (by rfl); (· (intro w' hS; go_simp <;> with_reducible rfl)); (try simp only [Act.put, List.setIfInBounds_toArray, List.set_cons_zero, List.set_cons_succ]))))))
    refine t4_hskip rfl (by rfl) ?_ ?_
    · exact ⟨hs8.cellAt 0 rfl 0 rfl, hs8.cellAt 0 rfl 1 rfl⟩
    (try simp only [Act.put, List.setIfInBounds_toArray, List.set_cons_zero, List.set_cons_succ])
    (repeat (first | (apply t4_skip rfl (by rfl); try simp only [Act.put, List.setIfInBounds_toArray, List.set_cons_zero, List.set_cons_succ]) | (apply t4_float rfl (by rfl); (· (intro w' hS; go_simp <;> with_reducible rfl)); (try simp only [Act.put, List.setIfInBounds_toArray, List.set_cons_zero, List.set_cons_succ]))))
    (try (rw [HD.out]; (repeat (first | (apply t4_skip rfl (by rfl); try simp only [Act.put, List.setIfInBounds_toArray, List.set_cons_zero, List.set_cons_succ]) | (apply t4_float rfl (by rfl); (· (intro w' hS; go_simp <;> with_reducible rfl)); (try simp only [Act.put, List.setIfInBounds_toArray, List.set_cons_zero, List.set_cons_succ]))))))
    refine t4_hskip rfl (by rfl) ?_ ?_
    · exact ⟨hs8.cellAt 0 rfl 0 rfl, hs8.cellAt 0 rfl 1 rfl⟩
    (try simp only [Act.put, List.setIfInBounds_toArray, List.set_cons_zero, List.set_cons_succ])
    (repeat (first | (apply t4_skip rfl (by rfl); try simp only [Act.put, List.setIfInBounds_toArray, List.set_cons_zero, List.set_cons_succ]) | (apply t4_float rfl (by rfl); (· (intro w' hS; go_simp <;> with_reducible rfl)); (try simp only [Act.put, List.setIfInBounds_toArray, List.set_cons_zero, List.set_cons_succ]))))
    (try (rw [HD.out]; (repeat (first | (apply t4_skip rfl (by rfl); try simp only [Act.put, List.setIfInBounds_toArray, List.set_cons_zero, List.set_cons_succ]) | (apply t4_float rfl (by rfl); (· (intro w' hS; go_simp <;> with_reducible rfl)); (try simp only [Act.put, List.setIfInBounds_toArray, List.set_cons_zero, List.set_cons_succ]))))))
    have k0_0 := hs8.cellAt 0 rfl 0 rfl
    have k0_1 := hs8.cellAt 0 rfl 1 rfl
    refine t4_nil (NoPanic.normal ?_)
    go_wp2_with fail
    go_ret
    exact ⟨ret_bool H1.out.symm, hs8.bel⟩
  · have HD := Lib.hid (show decide (0 < l.length) = true by simp; omega)
    have H1 := Lib.hid (show affIs p (ar, l) = keepsP p (3, tb) (ar, l) by rw [HA.out, HD.out, Bool.true_and])
    clear hl
    go_upto_region 1 with fail
    refine wp_region_noPanic (wp_region_tree4 (fun w' => w'.cell? ⟨w.heap.size, 0, none⟩ = some (.int .i64 ar) ∧ w'.cell? ⟨w.heap.size, 1, none⟩ = some (.slice a l.length c)) (.float 0 (.float 1 (.float 2 (.float 3 (.float 4 (.float 5 (.float 6 (.float 8 (.hard 7 (.hard 9 (.float 10 (.float 11 .nil)))))))))))) (by kernel_rfl) (by kernel_rfl) (by kernel_rfl) rfl ?_ (fun _ _ _ _ _ h => h) ?_)
    · exact ⟨(hs7.drew).cellAt 0 rfl 0 rfl, (hs7.drew).cellAt 0 rfl 1 rfl⟩
    have hs10 := hs7.drew
    clear k0_0 k0_1
    have hz_wd11 : w.heap.size + 1 ≤ ((w.alloc (.cells #[.int .i64 ar, .slice a l.length c] 31)).drew).heap.size := by simp
    generalize hgen_wd11 : (w.alloc (.cells #[.int .i64 ar, .slice a l.length c] 31)).drew = wd11 at *
    have HG_wd11 := Lib.hid hgen_wd11
    clear hgen_wd11
    (repeat (first | (apply t4_skip rfl (by rfl); try simp only [Act.put, List.setIfInBounds_toArray, List.set_cons_zero, List.set_cons_succ]) | (apply t4_float rfl (by rfl); (· (intro w' hS; go_simp <;> with_reducible rfl)); (try simp only [Act.put, List.setIfInBounds_toArray, List.set_cons_zero, List.set_cons_succ]))))
    (try (rw [HD.out]; (repeat (first | (apply t4_skip rfl (by rfl); try simp only [Act.put, List.setIfInBounds_toArray, List.set_cons_zero, List.set_cons_succ]) | (apply t4_float rfl (by rfl); (· (intro w' hS; go_simp <;> with_reducible rfl)); (try simp only [Act.put, List.setIfInBounds_toArray, List.set_cons_zero, List.set_cons_succ]))))))
    refine t4_hard rfl (by rfl) (fun K hK => ?_)
    go_wp2_with (go_at_call 63; refine (CA.out _).mono ?_; rintro e w12 ⟨v3, rfl, fr3, hbw12⟩)
    have hz_w12 : wd11.heap.size ≤ w12.heap.size := by have h9 := hbw12.size; (try simp at h9); omega
    have hs13 := hs10.step hbw12
    obtain ⟨a3, c3, rfl, _⟩ := rd_list fr3.rd
    have HFR := Lib.hid (rd_op (k := 3) ⟨by decide, by decide⟩ fr3.rd)
    clear fr3
    refine ⟨⟨hs13.cellAt 0 rfl 0 rfl, hs13.cellAt 0 rfl 1 rfl⟩, ?_⟩
    (repeat (first | (apply t4_skip rfl (by rfl); try simp only [Act.put, List.setIfInBounds_toArray, List.set_cons_zero, List.set_cons_succ]) | (apply t4_float rfl (by rfl); (· (intro w' hS; go_simp <;> with_reducible rfl)); (try simp only [Act.put, List.setIfInBounds_toArray, List.set_cons_zero, List.set_cons_succ]))))
    (try (rw [HD.out]; (repeat (first | (apply t4_skip rfl (by rfl); try simp only [Act.put, List.setIfInBounds_toArray, List.set_cons_zero, List.set_cons_succ]) | (apply t4_float rfl (by rfl); (· (intro w' hS; go_simp <;> with_reducible rfl)); (try simp only [Act.put, List.setIfInBounds_toArray, List.set_cons_zero, List.set_cons_succ]))))))
    refine t4_hard rfl (by rfl) (fun K hK => ?_)
    go_wp2_with (go_at_call 62; refine (keeps_c p (3, tb) (ar, l) _ _ _ _ _ HFR.out (Rd.mono HR.out hs13.bel) HOK.out HRK.out).mono ?_; rintro e w14 ⟨rfl, hbw14⟩)
    have hz_w14 : w12.heap.size ≤ w14.heap.size := by have h9 := hbw14.size; (try simp at h9); omega
    have hs15 := hs13.step hbw14
    have HFR_16 := Lib.hid (Rd.mono HFR.out hbw14)
    clear HFR
    refine ⟨⟨hs15.cellAt 0 rfl 0 rfl, hs15.cellAt 0 rfl 1 rfl⟩, ?_⟩
    (repeat (first | (apply t4_skip rfl (by rfl); try simp only [Act.put, List.setIfInBounds_toArray, List.set_cons_zero, List.set_cons_succ]) | (apply t4_float rfl (by rfl); (· (intro w' hS; go_simp <;> with_reducible rfl)); (try simp only [Act.put, List.setIfInBounds_toArray, List.set_cons_zero, List.set_cons_succ]))))
    (try (rw [HD.out]; (repeat (first | (apply t4_skip rfl (by rfl); try simp only [Act.put, List.setIfInBounds_toArray, List.set_cons_zero, List.set_cons_succ]) | (apply t4_float rfl (by rfl); (· (intro w' hS; go_simp <;> with_reducible rfl)); (try simp only [Act.put, List.setIfInBounds_toArray, List.set_cons_zero, List.set_cons_succ]))))))
    have k0_0 := hs15.cellAt 0 rfl 0 rfl
    have k0_1 := hs15.cellAt 0 rfl 1 rfl
    refine t4_nil (NoPanic.normal ?_)
    go_wp2_with fail
    go_ret
    exact ⟨ret_bool H1.out.symm, hs15.bel⟩
set_option maxRecDepth 100000 in
set_option maxHeartbeats 2000000 in
theorem l07Rel_c (p : Int) (r : RelT) (pb po : Nat) (v0 v1 : Value) (w : World) (hr : Rd w [v0, v1] r) (d0 : w.cell? ⟨pb, po, none⟩ = some v0) (d1 : w.cell? ⟨pb, po + 1, none⟩ = some v1) :
    Calls Try.prog 26 #[.int .i64 p, .pointer (some ⟨pb, po, none⟩)] w fun e w' => e = .returned (.int .i64 (affFault p r)) ∧ Below w.heap.size w w' := by
  have HR := Lib.hid hr
  have HD0 := Lib.hid d0
  have HD1 := Lib.hid d1
  clear hr d0 d1
  go_enter Try.func26, Try.ntmps26
  go_wp2_with fail
  refine (l07Prime_c p _).mono ?_
  rintro e w17 ⟨rfl, rfl⟩
  cases h1 : isPr p with
  | false =>
    have H1 := Lib.hid (show affFault p r = 2 by simp [affFault, h1])
    clear h1
    go_wp2_with fail
    go_ret
    exact ⟨ret_int H1.out.symm, Below.refl _ _⟩
  | true =>
    have HI := Lib.hid h1
    clear h1
    go_wp2_with fail
    refine (l01Ok_c p r pb po _ _ _ (Rd.mono HR.out (St.start w).bel) (cellL (St.start w).bel HD0.out) (cellL (St.start w).bel HD1.out)).mono ?_
    rintro e w18 ⟨rfl, hbw18⟩
    have hz_w18 : w.heap.size ≤ w18.heap.size := by have h9 := hbw18.size; (try simp at h9); omega
    have hs19 := (St.start w).step hbw18
    cases h2 : relOk p r with
    | false =>
      have H1 := Lib.hid (show affFault p r = 1 by simp [affFault, HI.out, h2])
      clear h2
      go_wp2_with fail
      go_ret
      exact ⟨ret_int H1.out.symm, hs19.bel⟩
    | true =>
      have H1 := Lib.hid (show affFault p r = 0 by simp [affFault, HI.out, h2])
      clear h2
      go_wp2_with fail
      go_ret
      exact ⟨ret_int H1.out.symm, hs19.bel⟩
set_option maxRecDepth 100000 in
set_option maxHeartbeats 4000000 in
theorem l07Is_c (p : Int) (r : RelT) (pb po : Nat) (v0 v1 : Value) (w : World) (hr : Rd w [v0, v1] r) (d0 : w.cell? ⟨pb, po, none⟩ = some v0) (d1 : w.cell? ⟨pb, po + 1, none⟩ = some v1) (hp : isPr p = true) (hrk : relOk p r = true) :
    Calls Try.prog 27 #[.int .i64 p, .pointer (some ⟨pb, po, none⟩)] w fun e w' => e = .returned (.bool (affIs p r)) ∧ Below w.heap.size w w' := by
  obtain ⟨ar, l⟩ := r
  have hp2 : p = 2 ∨ p = 3 := isPr_true hp
  have hok := affOp_ok hp
  have hA : affIs p (ar, l) = (decide (0 < l.length) && keepsP p (affOp p) (ar, l)) := rfl
  have CA := fun (W : World) => l07Affine_c p W (by omega) (by omega)
  unfold affOp at hok hA
  generalize hT : tableTo (affF p) p 3 (p ^ 3).toNat = tb at *
  have HOK := Lib.hid hok
  have HA := Lib.hid hA
  have CA := Lib.hid CA
  have HRK := Lib.hid hrk
  have HD0 := Lib.hid d0
  clear hT hok hA hp hrk d0
  have HR := Lib.hid hr
  have z20 := rd_cons rfl hr
  obtain ⟨rfl, hIar⟩ := rd_i1 z20.1
  obtain ⟨a, c, rfl, hRl⟩ := rd_list z20.2
  clear hr z20
  have hb0 := (rdSl_len hRl).2
  unfold maxLen at hb0
  clear hRl
  have d1_ := cellL (St.start w).bel d1
  go_enter Try.func27, Try.ntmps27
  go_wp2_with fail
  refine (CA.out _).mono ?_
  rintro e w21 ⟨v3, rfl, fr3, hbw21⟩
  have hz_w21 : w.heap.size ≤ w21.heap.size := by have h9 := hbw21.size; (try simp at h9); omega
  have hs22 := (St.start w).step hbw21
  clear d1_
  have d1_ := cellL hs22.bel d1
  obtain ⟨a3, c3, rfl, _⟩ := rd_list fr3.rd
  have HFR := Lib.hid (rd_op (k := 3) ⟨by decide, by decide⟩ fr3.rd)
  clear fr3
  have hs23 := hs22.alloc #[.int .i64 3, .slice a3 tb.length c3] 107 (n := w21.heap.size) (by simp)
  have HFR_24 := Lib.hid (Rd.mono HFR.out (belowA _ (.cells #[.int .i64 3, .slice a3 tb.length c3] 107)))
  clear HFR
  clear d1_
  have k0_0 := hs23.cellAt 0 rfl 0 rfl
  have k0_1 := hs23.cellAt 0 rfl 1 rfl
  have d1_ := cellL hs23.bel d1
  by_cases hl : l.length = 0
  · have hd : ¬ ((0 : Int) < l.length) := by omega
    have H1 := Lib.hid (show affIs p (ar, l) = false by rw [HA.out, decide_eq_false (by omega), Bool.false_and])
    have hl0 : l.length = 0 := hl
    clear hl
    go_wp2_with fail
    go_ret
    exact ⟨ret_bool H1.out.symm, hs23.bel⟩
  · have hd : (0 : Int) < l.length := by omega
    have H1 := Lib.hid (show affIs p (ar, l) = keepsP p (3, tb) (ar, l) by rw [HA.out, decide_eq_true (by omega), Bool.true_and])
    clear hl
    go_wp2_with fail
    refine (l02Keeps_c p (3, tb) (ar, l) _ _ pb po _ _ _ _ _ HFR_24.out (hs23.cellAt 0 rfl 0 rfl) (hs23.cellAt 0 rfl 1 rfl) (Rd.mono HR.out hs23.bel) (cellL hs23.bel HD0.out) (cellL hs23.bel d1) HOK.out HRK.out).mono ?_
    rintro e w25 ⟨rfl, hbw25⟩
    have hz_w25 : w21.heap.size + 1 ≤ w25.heap.size := by have h9 := hbw25.size; (try simp at h9); omega
    have hs26 := hs23.step hbw25
    have HFR_27 := Lib.hid (Rd.mono HFR_24.out hbw25)
    clear HFR_24
    clear k0_0 k0_1 d1_
    have k0_0 := hs26.cellAt 0 rfl 0 rfl
    have k0_1 := hs26.cellAt 0 rfl 1 rfl
    have d1_ := cellL hs26.bel d1
    go_wp2_with fail
    go_ret
    exact ⟨ret_bool H1.out.symm, hs26.bel⟩

end Go.Proofs.Ytoblfnoaepbhfaa
