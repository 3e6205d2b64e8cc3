/-
  CONTRACTS: is a relation affine?
-/
import Derived.Test.YtjkjfjpajmjglaaKeepS
import Derived.Test.YtjkjfjpajmjglaaAff
namespace Go.Proofs.Ytjkjfjpajmjglaa
open Go.RowKit Go.Shelf Go.IntWalk
open Rep (Rd Own sz)
set_option linter.unusedSimpArgs false
set_option linter.unusedVariables false

theorem affOp_ok {p : Int} (h : isPr p = true) : opOk p (affOp p) = true := by
  rcases isPr_true h with rfl | rfl <;> decide
def affFault (p : Int) (r : RelT) : Int := if isPr p then (if relOk p r then 0 else 1) else 2
def affIs (p : Int) (r : RelT) : Bool := decide (0 < r.2.length) && keepsP p (affOp p) r
/-- What IsAffine hands back. -/
def isAffineF (p : Int) (r : RelT) : Bool × Int := if affFault p r = 0 then (affIs p r, 0) else (false, affFault p r)
theorem affFault_zero {p : Int} {r : RelT} (h : affFault p r = 0) : isPr p = true ∧ relOk p r = true := by
  unfold affFault at h
  cases h1 : isPr p with
  | false => simp [h1] at h
  | true =>
    cases h2 : relOk p r with
    | false => simp [h1, h2] at h
    | true => exact ⟨rfl, rfl⟩
theorem rd_op {w : World} {v : Value} {k : Int} {tb : List Int} (hk : I64 k) (h : Rd w [v] tb) : Rd w [.int .i64 k, v] (k, tb) := ⟨[.int .i64 k], [v], rfl, ⟨rfl, hk⟩, h⟩
set_option maxRecDepth 100000 in
set_option maxHeartbeats 2000000 in
theorem affineFault_c (p : Int) (r : RelT) (v0 v1 : Value) (w : World) (hr : Rd w [v0, v1] r) :
    Calls Try.prog 55 #[.int .i64 p, .agg #[v0, v1]] w fun e w' => e = .returned (.int .i64 (affFault p r)) ∧ Below w.heap.size w w' := by
  obtain ⟨ar, l⟩ := r
  have HR := Lib.hid hr
  have z1 := rd_cons rfl hr
  obtain ⟨rfl, hIar⟩ := rd_i1 z1.1
  obtain ⟨a, c, rfl, hRl⟩ := rd_list z1.2
  clear hr z1
  clear hRl
  have hs2 := (St.start w).alloc #[.int .i64 ar, .slice a l.length c] 49 (n := w.heap.size) (by simp)
  have k0_0 := hs2.cellAt 0 rfl 0 rfl
  have k0_1 := hs2.cellAt 0 rfl 1 rfl
  go_enter Try.func55, Try.ntmps55
  go_wp2_with fail
  refine (isPrime_c p _).mono ?_
  rintro e w3 ⟨rfl, rfl⟩
  cases h1 : isPr p with
  | false =>
    have H1 := Lib.hid (show affFault p (ar, l) = 2 by simp [affFault, h1])
    clear h1
    go_wp2_with fail
    go_ret
    exact ⟨ret_int H1.out.symm, hs2.bel⟩
  | true =>
    have HI := Lib.hid h1
    clear h1
    go_wp2_with fail
    refine (ValidRel_c p (ar, l) _ _ _ (Rd.mono HR.out hs2.bel)).mono ?_
    rintro e w4 ⟨rfl, hbw4⟩
    have hz_w4 : w.heap.size + 1 ≤ w4.heap.size := by have h9 := hbw4.size; (try simp at h9); omega
    have hs5 := hs2.step hbw4
    clear k0_0 k0_1
    have k0_0 := hs5.cellAt 0 rfl 0 rfl
    have k0_1 := hs5.cellAt 0 rfl 1 rfl
    cases h2 : relOk p (ar, l) with
    | false =>
      have H1 := Lib.hid (show affFault p (ar, l) = 1 by simp [affFault, HI.out, h2])
      clear h2
      go_wp2_with fail
      go_ret
      exact ⟨ret_int H1.out.symm, hs5.bel⟩
    | true =>
      have H1 := Lib.hid (show affFault p (ar, l) = 0 by simp [affFault, HI.out, h2])
      clear h2
      go_wp2_with fail
      go_ret
      exact ⟨ret_int H1.out.symm, hs5.bel⟩
set_option maxRecDepth 100000 in
set_option maxHeartbeats 4000000 in
theorem isAffine1_c (p : Int) (r : RelT) (v0 v1 : Value) (w : World) (hr : Rd w [v0, v1] r) (hp : isPr p = true) (hrk : relOk p r = true) :
    Calls Try.prog 56 #[.int .i64 p, .agg #[v0, v1]] w fun e w' => e = .returned (.bool (affIs p r)) ∧ Below w.heap.size w w' := by
  obtain ⟨ar, l⟩ := r
  have hp2 : p = 2 ∨ p = 3 := isPr_true hp
  have hok := affOp_ok hp
  have hA : affIs p (ar, l) = (decide (0 < l.length) && keepsP p (affOp p) (ar, l)) := rfl
  have CA := fun (W : World) => affineOp_c p W (by omega) (by omega)
  unfold affOp at hok hA
  generalize hT : tableTo (affF p) p 3 (p ^ 3).toNat = tb at *
  have HOK := Lib.hid hok
  have HA := Lib.hid hA
  have CA := Lib.hid CA
  have HRK := Lib.hid hrk
  clear hT hok hA hp hrk
  have HR := Lib.hid hr
  have z6 := rd_cons rfl hr
  obtain ⟨rfl, hIar⟩ := rd_i1 z6.1
  obtain ⟨a, c, rfl, hRl⟩ := rd_list z6.2
  clear hr z6
  have hb0 := (rdSl_len hRl).2
  unfold maxLen at hb0
  clear hRl
  have hs7 := (St.start w).alloc #[.int .i64 ar, .slice a l.length c] 49 (n := w.heap.size) (by simp)
  have k0_0 := hs7.cellAt 0 rfl 0 rfl
  have k0_1 := hs7.cellAt 0 rfl 1 rfl
  go_enter Try.func56, Try.ntmps56
  by_cases hl : l.length = 0
  · have HD := Lib.hid (show decide (0 < l.length) = false by simp [hl])
    have H1 := Lib.hid (show affIs p (ar, l) = false by rw [HA.out, HD.out, Bool.false_and])
    clear hl
    go_upto_region 1 with fail
    refine wp_region_noPanic (wp_region_tree4 (fun w' => w'.cell? ⟨w.heap.size, 0, none⟩ = some (.int .i64 ar) ∧ w'.cell? ⟨w.heap.size, 1, none⟩ = some (.slice a l.length c)) (.float 0 (.float 1 (.float 2 (.float 3 (.float 4 (.float 5 (.float 6 (.float 8 (.hard 7 (.hard 9 (.float 10 (.float 11 .nil)))))))))))) (by kernel_rfl) (by kernel_rfl) (by kernel_rfl) rfl ?_ (fun _ _ _ _ _ h => h) ?_)
    · exact ⟨(hs7.drew).cellAt 0 rfl 0 rfl, (hs7.drew).cellAt 0 rfl 1 rfl⟩
    have hs8 := hs7.drew
    clear k0_0 k0_1
    have hz_wd9 : w.heap.size + 1 ≤ ((w.alloc (.cells #[.int .i64 ar, .slice a l.length c] 49)).drew).heap.size := by simp
    generalize hgen_wd9 : (w.alloc (.cells #[.int .i64 ar, .slice a l.length c] 49)).drew = wd9 at *
    have HG_wd9 := Lib.hid hgen_wd9
    clear hgen_wd9
    (repeat (first | (apply t4_skip rfl (by rfl); try simp only [Act.put, List.setIfInBounds_toArray, List.set_cons_zero, List.set_cons_succ]) | (apply t4_float rfl (by rfl); (· (intro w' hS; go_simp <;> with_reducible rfl)); (try simp only [Act.put, List.setIfInBounds_toArray, List.set_cons_zero, List.set_cons_succ]))))
    (try (rw [HD.out]; (repeat (first | (apply t4_skip rfl (by rfl); try simp only [Act.put, List.setIfInBounds_toArray, List.set_cons_zero, List.set_cons_succ]) | (apply t4_float rfl (by rfl); (· (intro w' hS; go_simp <;> with_reducible rfl)); (try simp only [Act.put, List.setIfInBounds_toArray, List.set_cons_zero, List.set_cons_succ]))))))
    refine t4_hskip rfl (by rfl) ?_ ?_
    · exact ⟨hs8.cellAt 0 rfl 0 rfl, hs8.cellAt 0 rfl 1 rfl⟩
    (try simp only [Act.put, List.setIfInBounds_toArray, List.set_cons_zero, List.set_cons_succ])
    (repeat (first | (apply t4_skip rfl (by rfl); try simp only [Act.put, List.setIfInBounds_toArray, List.set_cons_zero, List.set_cons_succ]) | (apply t4_float rfl (by rfl); (· (intro w' hS; go_simp <;> with_reducible rfl)); (try simp only [Act.put, List.setIfInBounds_toArray, List.set_cons_zero, List.set_cons_succ]))))
    (try (rw [HD.out]; (repeat (first | (apply t4_skip rfl (by rfl); try simp only [Act.put, List.setIfInBounds_toArray, List.set_cons_zero, List.set_cons_succ]) | (apply t4_float rfl (by rfl); (· (intro w' hS; go_simp <;> with_reducible rfl)); (try simp only [Act.put, List.setIfInBounds_toArray, List.set_cons_zero, List.set_cons_succ]))))))
    refine t4_hskip rfl (by rfl) ?_ ?_
    · exact ⟨hs8.cellAt 0 rfl 0 rfl, hs8.cellAt 0 rfl 1 rfl⟩
    (try simp only [Act.put, List.setIfInBounds_toArray, List.set_cons_zero, List.set_cons_succ])
    (repeat (first | (apply t4_skip rfl (by rfl); try simp only [Act.put, List.setIfInBounds_toArray, List.set_cons_zero, List.set_cons_succ]) | (apply t4_float rfl (by rfl); (· (intro w' hS; go_simp <;> with_reducible rfl)); (try simp only [Act.put, List.setIfInBounds_toArray, List.set_cons_zero, List.set_cons_succ]))))
    (try (rw [HD.out]; (repeat (first | (apply t4_skip rfl (by rfl); try simp only [Act.put, List.setIfInBounds_toArray, List.set_cons_zero, List.set_cons_succ]) | (apply t4_float rfl (by rfl); (· (intro w' hS; go_simp <;> with_reducible rfl)); (try simp only [Act.put, List.setIfInBounds_toArray, List.set_cons_zero, List.set_cons_succ]))))))
    have k0_0 := hs8.cellAt 0 rfl 0 rfl
    have k0_1 := hs8.cellAt 0 rfl 1 rfl
    refine t4_nil (NoPanic.normal ?_)
    go_wp2_with fail
    go_ret
    exact ⟨ret_bool H1.out.symm, hs8.bel⟩
  · have HD := Lib.hid (show decide (0 < l.length) = true by simp; omega)
    have H1 := Lib.hid (show affIs p (ar, l) = keepsP p (3, tb) (ar, l) by rw [HA.out, HD.out, Bool.true_and])
    clear hl
    go_upto_region 1 with fail
    refine wp_region_noPanic (wp_region_tree4 (fun w' => w'.cell? ⟨w.heap.size, 0, none⟩ = some (.int .i64 ar) ∧ w'.cell? ⟨w.heap.size, 1, none⟩ = some (.slice a l.length c)) (.float 0 (.float 1 (.float 2 (.float 3 (.float 4 (.float 5 (.float 6 (.float 8 (.hard 7 (.hard 9 (.float 10 (.float 11 .nil)))))))))))) (by kernel_rfl) (by kernel_rfl) (by kernel_rfl) rfl ?_ (fun _ _ _ _ _ h => h) ?_)
    · exact ⟨(hs7.drew).cellAt 0 rfl 0 rfl, (hs7.drew).cellAt 0 rfl 1 rfl⟩
    have hs10 := hs7.drew
    clear k0_0 k0_1
    have hz_wd11 : w.heap.size + 1 ≤ ((w.alloc (.cells #[.int .i64 ar, .slice a l.length c] 49)).drew).heap.size := by simp
    generalize hgen_wd11 : (w.alloc (.cells #[.int .i64 ar, .slice a l.length c] 49)).drew = wd11 at *
    have HG_wd11 := Lib.hid hgen_wd11
    clear hgen_wd11
    (repeat (first | (apply t4_skip rfl (by rfl); try simp only [Act.put, List.setIfInBounds_toArray, List.set_cons_zero, List.set_cons_succ]) | (apply t4_float rfl (by rfl); (· (intro w' hS; go_simp <;> with_reducible rfl)); (try simp only [Act.put, List.setIfInBounds_toArray, List.set_cons_zero, List.set_cons_succ]))))
    (try (rw [HD.out]; (repeat (first | (apply t4_skip rfl (by rfl); try simp only [Act.put, List.setIfInBounds_toArray, List.set_cons_zero, List.set_cons_succ]) | (apply t4_float rfl (by rfl); (· (intro w' hS; go_simp <;> with_reducible rfl)); (try simp only [Act.put, List.setIfInBounds_toArray, List.set_cons_zero, List.set_cons_succ]))))))
    refine t4_hard rfl (by rfl) (fun K hK => ?_)
    go_wp2_with (go_at_call 96; refine (CA.out _).mono ?_; rintro e w12 ⟨v3, rfl, fr3, hbw12⟩)
    have hz_w12 : wd11.heap.size ≤ w12.heap.size := by have h9 := hbw12.size; (try simp at h9); omega
    have hs13 := hs10.step hbw12
    obtain ⟨a3, c3, rfl, _⟩ := rd_list fr3.rd
    have HFR := Lib.hid (rd_op (k := 3) ⟨by decide, by decide⟩ fr3.rd)
    clear fr3
    refine ⟨⟨hs13.cellAt 0 rfl 0 rfl, hs13.cellAt 0 rfl 1 rfl⟩, ?_⟩
    (repeat (first | (apply t4_skip rfl (by rfl); try simp only [Act.put, List.setIfInBounds_toArray, List.set_cons_zero, List.set_cons_succ]) | (apply t4_float rfl (by rfl); (· (intro w' hS; go_simp <;> with_reducible rfl)); (try simp only [Act.put, List.setIfInBounds_toArray, List.set_cons_zero, List.set_cons_succ]))))
    (try (rw [HD.out]; (repeat (first | (apply t4_skip rfl (by rfl); try simp only [Act.put, List.setIfInBounds_toArray, List.set_cons_zero, List.set_cons_succ]) | (apply t4_float rfl (by rfl); (· (intro w' hS; go_simp <;> with_reducible rfl)); (try simp only [Act.put, List.setIfInBounds_toArray, List.set_cons_zero, List.set_cons_succ]))))))
    refine t4_hard rfl (by rfl) (fun K hK => ?_)
    go_wp2_with (go_at_call 95; refine (keeps_c p (3, tb) (ar, l) _ _ _ _ _ HFR.out (Rd.mono HR.out hs13.bel) HOK.out HRK.out).mono ?_; rintro e w14 ⟨rfl, hbw14⟩)
    have hz_w14 : w12.heap.size ≤ w14.heap.size := by have h9 := hbw14.size; (try simp at h9); omega
    have hs15 := hs13.step hbw14
    have HFR_16 := Lib.hid (Rd.mono HFR.out hbw14)
    clear HFR
    refine ⟨⟨hs15.cellAt 0 rfl 0 rfl, hs15.cellAt 0 rfl 1 rfl⟩, ?_⟩
    (repeat (first | (apply t4_skip rfl (by rfl); try simp only [Act.put, List.setIfInBounds_toArray, List.set_cons_zero, List.set_cons_succ]) | (apply t4_float rfl (by rfl); (· (intro w' hS; go_simp <;> with_reducible rfl)); (try simp only [Act.put, List.setIfInBounds_toArray, List.set_cons_zero, List.set_cons_succ]))))
    (try (rw [HD.out]; (repeat (first | (apply t4_skip rfl (by rfl); try simp only [Act.put, List.setIfInBounds_toArray, List.set_cons_zero, List.set_cons_succ]) | (apply t4_float rfl (by rfl); (· (intro w' hS; go_simp <;> with_reducible rfl)); (try simp only [Act.put, List.setIfInBounds_toArray, List.set_cons_zero, List.set_cons_succ]))))))
    have k0_0 := hs15.cellAt 0 rfl 0 rfl
    have k0_1 := hs15.cellAt 0 rfl 1 rfl
    refine t4_nil (NoPanic.normal ?_)
    go_wp2_with fail
    go_ret
    exact ⟨ret_bool H1.out.symm, hs15.bel⟩
set_option maxRecDepth 100000 in
set_option maxHeartbeats 2000000 in
theorem IsAffine_c (p : Int) (r : RelT) (v0 v1 : Value) (w : World) (hr : Rd w [v0, v1] r) :
    Calls Try.prog 21 #[.int .i64 p, .agg #[v0, v1]] w fun e w' => e = .returned (.tuple #[.bool (isAffineF p r).1, .int .i64 (isAffineF p r).2]) ∧ Below w.heap.size w w' := by
  obtain ⟨ar, l⟩ := r
  have HR := Lib.hid hr
  have z17 := rd_cons rfl hr
  obtain ⟨rfl, hIar⟩ := rd_i1 z17.1
  obtain ⟨a, c, rfl, hRl⟩ := rd_list z17.2
  clear hr z17
  clear hRl
  have hs18 := (St.start w).alloc #[.int .i64 ar, .slice a l.length c] 49 (n := w.heap.size) (by simp)
  have k0_0 := hs18.cellAt 0 rfl 0 rfl
  have k0_1 := hs18.cellAt 0 rfl 1 rfl
  go_enter Try.func21, Try.ntmps21
  go_wp2_with fail
  refine (affineFault_c p (ar, l) _ _ _ (Rd.mono HR.out hs18.bel)).mono ?_
  rintro e w19 ⟨rfl, hbw19⟩
  have hz_w19 : w.heap.size + 1 ≤ w19.heap.size := by have h9 := hbw19.size; (try simp at h9); omega
  have hs20 := hs18.step hbw19
  clear k0_0 k0_1
  have k0_0 := hs20.cellAt 0 rfl 0 rfl
  have k0_1 := hs20.cellAt 0 rfl 1 rfl
  by_cases h : affFault p (ar, l) = 0
  · have H1 := Lib.hid (show isAffineF p (ar, l) = (affIs p (ar, l), 0) by unfold isAffineF; rw [if_pos h])
    have HH := Lib.hid (affFault_zero h)
    rw [h]
    clear h
    go_wp2_with fail
    refine (isAffine1_c p (ar, l) _ _ _ (Rd.mono HR.out hs20.bel) HH.out.1 HH.out.2).mono ?_
    rintro e w21 ⟨rfl, hbw21⟩
    have hz_w21 : w19.heap.size ≤ w21.heap.size := by have h9 := hbw21.size; (try simp at h9); omega
    have hs22 := hs20.step hbw21
    clear k0_0 k0_1
    have k0_0 := hs22.cellAt 0 rfl 0 rfl
    have k0_1 := hs22.cellAt 0 rfl 1 rfl
    go_wp2_with fail
    refine bodyPost_ret (v := .tuple #[.bool (affIs p (ar, l)), .int .i64 0]) (by simp [results, Try.results21, go_sem]) rfl ⟨by rw [H1.out], hs22.bel⟩
  · have H1 := Lib.hid (show isAffineF p (ar, l) = (false, affFault p (ar, l)) by unfold isAffineF; rw [if_neg h])
    generalize affFault p (ar, l) = F at *
    have hF : (F != 0) = true := by simp [h]
    clear h
    go_wp2_with fail
    refine bodyPost_ret (v := .tuple #[.bool false, .int .i64 F]) (by simp [results, Try.results21, go_sem]) rfl ⟨by rw [H1.out], hs20.bel⟩
set_option maxRecDepth 100000 in
set_option maxHeartbeats 2000000 in
theorem l07Rel_c (p : Int) (r : RelT) (pb po : Nat) (v0 v1 : Value) (w : World) (hr : Rd w [v0, v1] r) (d0 : w.cell? ⟨pb, po, none⟩ = some v0) (d1 : w.cell? ⟨pb, po + 1, none⟩ = some v1) :
    Calls Try.prog 53 #[.int .i64 p, .pointer (some ⟨pb, po, none⟩)] w fun e w' => e = .returned (.int .i64 (affFault p r)) ∧ Below w.heap.size w w' := by
  have HR := Lib.hid hr
  have HD0 := Lib.hid d0
  have HD1 := Lib.hid d1
  clear hr d0 d1
  go_enter Try.func53, Try.ntmps53
  go_wp2_with fail
  refine (l07Prime_c p _).mono ?_
  rintro e w23 ⟨rfl, rfl⟩
  cases h1 : isPr p with
  | false =>
    have H1 := Lib.hid (show affFault p r = 2 by simp [affFault, h1])
    clear h1
    go_wp2_with fail
    go_ret
    exact ⟨ret_int H1.out.symm, Below.refl _ _⟩
  | true =>
    have HI := Lib.hid h1
    clear h1
    go_wp2_with fail
    refine (l01Ok_c p r pb po _ _ _ (Rd.mono HR.out (St.start w).bel) (cellL (St.start w).bel HD0.out) (cellL (St.start w).bel HD1.out)).mono ?_
    rintro e w24 ⟨rfl, hbw24⟩
    have hz_w24 : w.heap.size ≤ w24.heap.size := by have h9 := hbw24.size; (try simp at h9); omega
    have hs25 := (St.start w).step hbw24
    cases h2 : relOk p r with
    | false =>
      have H1 := Lib.hid (show affFault p r = 1 by simp [affFault, HI.out, h2])
      clear h2
      go_wp2_with fail
      go_ret
      exact ⟨ret_int H1.out.symm, hs25.bel⟩
    | true =>
      have H1 := Lib.hid (show affFault p r = 0 by simp [affFault, HI.out, h2])
      clear h2
      go_wp2_with fail
      go_ret
      exact ⟨ret_int H1.out.symm, hs25.bel⟩
set_option maxRecDepth 100000 in
set_option maxHeartbeats 4000000 in
theorem l07Is_c (p : Int) (r : RelT) (pb po : Nat) (v0 v1 : Value) (w : World) (hr : Rd w [v0, v1] r) (d0 : w.cell? ⟨pb, po, none⟩ = some v0) (d1 : w.cell? ⟨pb, po + 1, none⟩ = some v1) (hp : isPr p = true) (hrk : relOk p r = true) :
    Calls Try.prog 54 #[.int .i64 p, .pointer (some ⟨pb, po, none⟩)] w fun e w' => e = .returned (.bool (affIs p r)) ∧ Below w.heap.size w w' := by
  obtain ⟨ar, l⟩ := r
  have hp2 : p = 2 ∨ p = 3 := isPr_true hp
  have hok := affOp_ok hp
  have hA : affIs p (ar, l) = (decide (0 < l.length) && keepsP p (affOp p) (ar, l)) := rfl
  have CA := fun (W : World) => l07Affine_c p W (by omega) (by omega)
  unfold affOp at hok hA
  generalize hT : tableTo (affF p) p 3 (p ^ 3).toNat = tb at *
  have HOK := Lib.hid hok
  have HA := Lib.hid hA
  have CA := Lib.hid CA
  have HRK := Lib.hid hrk
  have HD0 := Lib.hid d0
  clear hT hok hA hp hrk d0
  have HR := Lib.hid hr
  have z26 := rd_cons rfl hr
  obtain ⟨rfl, hIar⟩ := rd_i1 z26.1
  obtain ⟨a, c, rfl, hRl⟩ := rd_list z26.2
  clear hr z26
  have hb0 := (rdSl_len hRl).2
  unfold maxLen at hb0
  clear hRl
  have d1_ := cellL (St.start w).bel d1
  go_enter Try.func54, Try.ntmps54
  go_wp2_with fail
  refine (CA.out _).mono ?_
  rintro e w27 ⟨v3, rfl, fr3, hbw27⟩
  have hz_w27 : w.heap.size ≤ w27.heap.size := by have h9 := hbw27.size; (try simp at h9); omega
  have hs28 := (St.start w).step hbw27
  clear d1_
  have d1_ := cellL hs28.bel d1
  obtain ⟨a3, c3, rfl, _⟩ := rd_list fr3.rd
  have HFR := Lib.hid (rd_op (k := 3) ⟨by decide, by decide⟩ fr3.rd)
  clear fr3
  have hs29 := hs28.alloc #[.int .i64 3, .slice a3 tb.length c3] 36 (n := w27.heap.size) (by simp)
  have HFR_30 := Lib.hid (Rd.mono HFR.out (belowA _ (.cells #[.int .i64 3, .slice a3 tb.length c3] 36)))
  clear HFR
  clear d1_
  have k0_0 := hs29.cellAt 0 rfl 0 rfl
  have k0_1 := hs29.cellAt 0 rfl 1 rfl
  have d1_ := cellL hs29.bel d1
  by_cases hl : l.length = 0
  · have hd : ¬ ((0 : Int) < l.length) := by omega
    have H1 := Lib.hid (show affIs p (ar, l) = false by rw [HA.out, decide_eq_false (by omega), Bool.false_and])
    have hl0 : l.length = 0 := hl
    clear hl
    go_wp2_with fail
    go_ret
    exact ⟨ret_bool H1.out.symm, hs29.bel⟩
  · have hd : (0 : Int) < l.length := by omega
    have H1 := Lib.hid (show affIs p (ar, l) = keepsP p (3, tb) (ar, l) by rw [HA.out, decide_eq_true (by omega), Bool.true_and])
    clear hl
    go_wp2_with fail
    refine (l02Keeps_c p (3, tb) (ar, l) _ _ pb po _ _ _ _ _ HFR_30.out (hs29.cellAt 0 rfl 0 rfl) (hs29.cellAt 0 rfl 1 rfl) (Rd.mono HR.out hs29.bel) (cellL hs29.bel HD0.out) (cellL hs29.bel d1) HOK.out HRK.out).mono ?_
    rintro e w31 ⟨rfl, hbw31⟩
    have hz_w31 : w27.heap.size + 1 ≤ w31.heap.size := by have h9 := hbw31.size; (try simp at h9); omega
    have hs32 := hs29.step hbw31
    have HFR_33 := Lib.hid (Rd.mono HFR_30.out hbw31)
    clear HFR_30
    clear k0_0 k0_1 d1_
    have k0_0 := hs32.cellAt 0 rfl 0 rfl
    have k0_1 := hs32.cellAt 0 rfl 1 rfl
    have d1_ := cellL hs32.bel d1
    go_wp2_with fail
    go_ret
    exact ⟨ret_bool H1.out.symm, hs32.bel⟩
set_option maxRecDepth 100000 in
set_option maxHeartbeats 2000000 in
theorem sIsAffine_c (p : Int) (r : RelT) (v0 v1 : Value) (w : World) (hr : Rd w [v0, v1] r) :
    Calls Try.prog 19 #[.int .i64 p, .agg #[v0, v1]] w fun e w' => e = .returned (.tuple #[.bool (isAffineF p r).1, .int .i64 (isAffineF p r).2]) ∧ Below w.heap.size w w' := by
  obtain ⟨ar, l⟩ := r
  have HR := Lib.hid hr
  have z34 := rd_cons rfl hr
  obtain ⟨rfl, hIar⟩ := rd_i1 z34.1
  obtain ⟨a, c, rfl, hRl⟩ := rd_list z34.2
  clear hr z34
  clear hRl
  have hs35 := (St.start w).alloc #[.int .i64 ar, .slice a l.length c] 49 (n := w.heap.size) (by simp)
  have k0_0 := hs35.cellAt 0 rfl 0 rfl
  have k0_1 := hs35.cellAt 0 rfl 1 rfl
  go_enter Try.func19, Try.ntmps19
  go_wp2_with fail
  refine (l07Rel_c p (ar, l) _ _ _ _ _ (Rd.mono HR.out hs35.bel) (hs35.cellAt 0 rfl 0 rfl) (hs35.cellAt 0 rfl 1 rfl)).mono ?_
  rintro e w36 ⟨rfl, hbw36⟩
  have hz_w36 : w.heap.size + 1 ≤ w36.heap.size := by have h9 := hbw36.size; (try simp at h9); omega
  have hs37 := hs35.step hbw36
  clear k0_0 k0_1
  have k0_0 := hs37.cellAt 0 rfl 0 rfl
  have k0_1 := hs37.cellAt 0 rfl 1 rfl
  by_cases h : affFault p (ar, l) = 0
  · have H1 := Lib.hid (show isAffineF p (ar, l) = (affIs p (ar, l), 0) by unfold isAffineF; rw [if_pos h])
    have HH := Lib.hid (affFault_zero h)
    rw [h]
    clear h
    go_wp2_with fail
    refine (l07Is_c p (ar, l) _ _ _ _ _ (Rd.mono HR.out hs37.bel) (hs37.cellAt 0 rfl 0 rfl) (hs37.cellAt 0 rfl 1 rfl) HH.out.1 HH.out.2).mono ?_
    rintro e w38 ⟨rfl, hbw38⟩
    have hz_w38 : w36.heap.size ≤ w38.heap.size := by have h9 := hbw38.size; (try simp at h9); omega
    have hs39 := hs37.step hbw38
    clear k0_0 k0_1
    have k0_0 := hs39.cellAt 0 rfl 0 rfl
    have k0_1 := hs39.cellAt 0 rfl 1 rfl
    go_wp2_with fail
    refine bodyPost_ret (v := .tuple #[.bool (affIs p (ar, l)), .int .i64 0]) (by simp [results, Try.results19, go_sem]) rfl ⟨by rw [H1.out], hs39.bel⟩
  · have H1 := Lib.hid (show isAffineF p (ar, l) = (false, affFault p (ar, l)) by unfold isAffineF; rw [if_neg h])
    generalize affFault p (ar, l) = F at *
    have hF : (F != 0) = true := by simp [h]
    clear h
    go_wp2_with fail
    refine bodyPost_ret (v := .tuple #[.bool false, .int .i64 F]) (by simp [results, Try.results19, go_sem]) rfl ⟨by rw [H1.out], hs37.bel⟩

end Go.Proofs.Ytjkjfjpajmjglaa
