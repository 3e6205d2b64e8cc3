/-
  CONTRACTS: decimal numbers and the text of a system, both sides.
-/
import Derived.Test.YtjnkkjgkinmhkaaDoorSysB
namespace Go.Proofs.YtjnkkjgkinmhkaaDoor
open Go.RowKit Go.Shelf Go.IntWalk
open Rep (Rd Own sz)
set_option linter.unusedSimpArgs false
set_option linter.unusedVariables false

/-- The digits of a number below 100. -/
def decB (n : Nat) : List UInt8 := if n < 10 then [UInt8.ofNat (48 + n)] else [UInt8.ofNat (48 + n / 10), UInt8.ofNat (48 + n % 10)]
theorem decB_len (n : Nat) : (decB n).length ≤ 2 := by unfold decB; split <;> simp
theorem upto12 {n : Int} (h0 : 0 ≤ n) (h1 : n ≤ 12) : n = 0 ∨ n = 1 ∨ n = 2 ∨ n = 3 ∨ n = 4 ∨ n = 5 ∨ n = 6 ∨ n = 7 ∨ n = 8 ∨ n = 9 ∨ n = 10 ∨ n = 11 ∨ n = 12 := by omega
set_option maxRecDepth 100000 in
set_option maxHeartbeats 4000000 in
theorem small_c (n : Int) (w : World) (h0 : 0 ≤ n) (h1 : n ≤ 12) :
    Calls Tryd.prog 105 #[.int .i64 n] w fun e w' => e = .returned (.string ⟨(decB n.toNat).toArray⟩) ∧ w = w' := by
  rcases upto12 h0 h1 with rfl | rfl | rfl | rfl | rfl | rfl | rfl | rfl | rfl | rfl | rfl | rfl | rfl <;>
  · go_enter Tryd.func105, Tryd.ntmps105
    go_wp2_with fail
    go_ret
    exact ⟨rfl, rfl⟩
set_option maxRecDepth 100000 in
set_option maxHeartbeats 4000000 in
theorem formatIntI_c (n : Int) (w : World) (h0 : 0 ≤ n) (h1 : n ≤ 12) :
    Calls Tryd.prog 89 #[.int .i64 n, .int .i64 10] w fun e w' => e = .returned (.string ⟨(decB n.toNat).toArray⟩) ∧ w = w' := by
  go_enter Tryd.func89, Tryd.ntmps89
  have h2 : n < 100 := by omega
  go_wp2_with fail
  refine (small_c n _ h0 h1).mono ?_
  rintro e w1 ⟨rfl, rfl⟩
  go_wp2_with fail
  go_ret
  exact ⟨rfl, rfl⟩
set_option maxRecDepth 100000 in
theorem formatInt_c (n : Int) (w : World) (h0 : 0 ≤ n) (h1 : n ≤ 12) :
    Calls Tryd.prog 68 #[.int .i64 n, .int .i64 10] w fun e w' => e = .returned (.string ⟨(decB n.toNat).toArray⟩) ∧ w = w' := by
  go_enter Tryd.func68, Tryd.ntmps68
  go_wp2_with fail
  refine (formatIntI_c n _ h0 h1).mono ?_
  rintro e w1 ⟨rfl, rfl⟩
  go_wp2_with fail
  go_ret
  exact ⟨rfl, rfl⟩
set_option maxRecDepth 100000 in
theorem dec_c (n : Int) (w : World) (h0 : 0 ≤ n) (h1 : n ≤ 12) :
    Calls Tryd.prog 44 #[.int .i64 n] w fun e w' => e = .returned (.string ⟨(decB n.toNat).toArray⟩) ∧ w = w' := by
  go_enter Tryd.func44, Tryd.ntmps44
  go_wp2_with fail
  refine (formatInt_c n _ h0 h1).mono ?_
  rintro e w1 ⟨rfl, rfl⟩
  go_wp2_with fail
  go_ret
  exact ⟨rfl, rfl⟩
theorem one_byteAt (w : World) (b : Nat) (d : UInt8) (hc : w.cell? ⟨b, 0, none⟩ = some (.int .u8 (d.toNat : Int))) : (convert 79 9 (.slice (some ⟨b, 0, none⟩) 1 1)).run Tryd.prog w = .ok (.string ⟨[d].toArray⟩) w := by
  refine run_convert_bytes_back _ _ _ 5 _ _ [d] Tryd.underlying79 Tryd.underlying5 Tryd.underlying9 (fun j hj => ?_)
  obtain rfl : j = 0 := by simp at hj; omega
  exact hc
theorem one_byte (w : World) (d : UInt8) : (convert 79 9 (.slice (some ⟨w.heap.size, 0, none⟩) 1 1)).run Tryd.prog (w.alloc (.cells #[.int .u8 (d.toNat : Int)] 5)) = .ok (.string ⟨[d].toArray⟩) (w.alloc (.cells #[.int .u8 (d.toNat : Int)] 5)) := by
  refine run_convert_bytes_back _ _ _ 5 _ _ [d] Tryd.underlying79 Tryd.underlying5 Tryd.underlying9 (fun j hj => ?_)
  obtain rfl : j = 0 := by simp at hj; omega
  show (w.alloc _).cell? ⟨w.heap.size, 0, none⟩ = _
  rw [cell_at_block (heap_alloc_new w _)]
  rfl
set_option maxRecDepth 100000 in
set_option maxHeartbeats 4000000 in
theorem Decimal1_c (n : Int) (w : World) (h0 : 0 ≤ n) (h1 : n ≤ 9) :
    Calls Tryd.prog 40 #[.int .i64 n] w fun e w' => e = .returned (.string ⟨(decB n.toNat).toArray⟩) ∧ Below w.heap.size w w' := by
  obtain ⟨m, rfl⟩ : ∃ m : Nat, n = m := ⟨n.toNat, by omega⟩
  have hcv := one_byte w (UInt8.ofNat (48 + m))
  have hm : (UInt8.ofNat (48 + m)).toNat = 48 + m := by simp [UInt8.toNat_ofNat]; omega
  rw [hm] at hcv
  have hw8 : IntKind.u8.wrap (48 + (m : Int)) = 48 + (m : Int) := by simp [IntKind.wrap, IntKind.signed, IntKind.bits]; omega
  have hw6 : IntKind.i64.wrap (48 + (m : Int)) = 48 + (m : Int) := i64_in _ (by omega)
  have hlt : ¬ 10 ≤ (m : Int) := by omega
  have hd : decB m = [UInt8.ofNat (48 + m)] := by unfold decB; rw [if_pos (by omega)]
  rw [show (((48 + m : Nat) : Int)) = 48 + (m : Int) by omega] at hcv
  have HD := Lib.hid hd
  clear hd hm
  go_enter Tryd.func40, Tryd.ntmps40
  go_wp2_with fail
  go_ret
  refine ⟨?_, belowA _ _⟩
  show _ = Ending.returned (.string ⟨(decB m).toArray⟩)
  rw [HD.out]
  simp
theorem decimal_two {m : Nat} (h0 : 10 ≤ m) (h1 : m ≤ 12) : decB m = decB (m / 10) ++ [UInt8.ofNat (48 + m % 10)] := by
  have : m = 10 ∨ m = 11 ∨ m = 12 := by omega
  rcases this with rfl | rfl | rfl <;> decide
set_option maxRecDepth 100000 in
set_option maxHeartbeats 4000000 in
theorem Decimal_c (n : Int) (w : World) (h0 : 0 ≤ n) (h1 : n ≤ 12) :
    Calls Tryd.prog 40 #[.int .i64 n] w fun e w' => e = .returned (.string ⟨(decB n.toNat).toArray⟩) ∧ Below w.heap.size w w' := by
  by_cases h9 : n ≤ 9
  · exact Decimal1_c n w h0 h9
  obtain ⟨m, rfl⟩ : ∃ m : Nat, n = m := ⟨n.toNat, by omega⟩
  have HD := Lib.hid (decimal_two (m := m) (by omega) (by omega))
  have hge : 10 ≤ (m : Int) := by omega
  have hq : (m : Int).tdiv 10 = 1 := by rw [Int.tdiv_eq_ediv_of_nonneg (by omega)]; omega
  obtain ⟨r, hr⟩ : ∃ r : Nat, m % 10 = r := ⟨_, rfl⟩
  have hmr : (m : Int).tmod 10 = r := by rw [Int.tmod_eq_emod_of_nonneg (by omega)]; omega
  have hr9 : r ≤ 2 := by omega
  have hw1 : IntKind.i64.wrap (1 : Int) = 1 := by decide
  have hwr : IntKind.i64.wrap (r : Int) = r := i64_in _ (by omega)
  have hw8 : IntKind.u8.wrap (48 + (r : Int)) = 48 + (r : Int) := by simp [IntKind.wrap, IntKind.signed, IntKind.bits]; omega
  have hw6 : IntKind.i64.wrap (48 + (r : Int)) = 48 + (r : Int) := i64_in _ (by omega)
  go_enter Tryd.func40, Tryd.ntmps40
  have hcv0 := fun W b => one_byteAt W b (UInt8.ofNat (48 + r))
  have hm : (UInt8.ofNat (48 + r)).toNat = 48 + r := by simp [UInt8.toNat_ofNat]; omega
  rw [hm, show (((48 + r : Nat) : Int)) = 48 + (r : Int) by omega] at hcv0
  have HCV := Lib.hid hcv0
  have HDR := Lib.hid (show decB m = decB (1 : Int).toNat ++ [UInt8.ofNat (48 + r)] by rw [HD.out, hr, show m / 10 = 1 by omega]; rfl)
  clear hcv0 hm hr HD
  have hdl : (decB 1).length = 1 := rfl
  go_upto_region 2 with fail
  refine wp_region_noPanic (wp_region_tree4 (fun w' => Hid (0 ≤ w'.heap.size)) (.float 0 (.float 1 (.float 3 (.float 4 (.float 5 (.float 6 (.fork2 2 (.hard 7 (.hard 8 (.float 9 (.float 10 .nil)))) 7 (.fork2 2 (.hard 8 (.float 9 (.float 10 .nil))) 8 (.hard 2 (.float 9 (.float 10 .nil))))))))))) (by kernel_rfl) (by kernel_rfl) (by kernel_rfl) rfl ?_ (fun _ _ _ _ _ h => h) ?_)
  · exact (by first | exact Lib.hid trivial | exact Lib.hid (Nat.zero_le _))
  have hs1 := (St.start w).drew
  have hz_wd2 : w.heap.size ≤ (w.drew).heap.size := by simp
  generalize hgen_wd2 : w.drew = wd2 at *
  have HG_wd2 := Lib.hid hgen_wd2
  clear hgen_wd2
  (repeat (first | (apply t4_skip rfl (by rfl); try simp only [Act.put, List.setIfInBounds_toArray, List.set_cons_zero, List.set_cons_succ]) | (apply t4_float rfl (by rfl); (· (intro w' hS; go_simp <;> with_reducible rfl)); (try simp only [Act.put, List.setIfInBounds_toArray, List.set_cons_zero, List.set_cons_succ]))))
  refine t4_fork2 ?_ ?_
  · refine t4_hard rfl (by rfl) (fun K hK => ?_)
    go_wp2_with (go_at_call 40; refine (Decimal1_c 1 _ (by omega) (by omega)).mono ?_; rintro e w3 ⟨rfl, hbw3⟩)
    have hz_w3 : wd2.heap.size ≤ w3.heap.size := by have h9 := hbw3.size; (try simp at h9); omega
    have hs4 := hs1.step hbw3
    refine ⟨(by first | exact Lib.hid trivial | exact Lib.hid (Nat.zero_le _)), ?_⟩
    (repeat (first | (apply t4_skip rfl (by rfl); try simp only [Act.put, List.setIfInBounds_toArray, List.set_cons_zero, List.set_cons_succ]) | (apply t4_float rfl (by rfl); (· (intro w' hS; go_simp <;> with_reducible rfl)); (try simp only [Act.put, List.setIfInBounds_toArray, List.set_cons_zero, List.set_cons_succ]))))
    refine t4_hard rfl (by rfl) (fun K hK => ?_)
    go_wp2_with fail
    have hs5 := hs4.alloc #[.int .u8 (48 + (r : Int))] 5 (n := w3.heap.size) (by simp)
    refine ⟨(by first | exact Lib.hid trivial | exact Lib.hid (Nat.zero_le _)), ?_⟩
    (repeat (first | (apply t4_skip rfl (by rfl); try simp only [Act.put, List.setIfInBounds_toArray, List.set_cons_zero, List.set_cons_succ]) | (apply t4_float rfl (by rfl); (· (intro w' hS; go_simp <;> with_reducible rfl)); (try simp only [Act.put, List.setIfInBounds_toArray, List.set_cons_zero, List.set_cons_succ]))))
    refine t4_hard rfl (by rfl) (fun K hK => ?_)
    have hcv := HCV.out (w3.alloc (.cells #[.int .u8 (48 + (r : Int))] 5)) _ (hs5.cellAt 0 rfl 0 rfl)
    go_wp2_with fail
    refine ⟨(by first | exact Lib.hid trivial | exact Lib.hid (Nat.zero_le _)), ?_⟩
    (repeat (first | (apply t4_skip rfl (by rfl); try simp only [Act.put, List.setIfInBounds_toArray, List.set_cons_zero, List.set_cons_succ]) | (apply t4_float rfl (by rfl); (· (intro w' hS; go_simp <;> with_reducible rfl)); (try simp only [Act.put, List.setIfInBounds_toArray, List.set_cons_zero, List.set_cons_succ]))))
    have k0_0 := hs5.cellAt 0 rfl 0 rfl
    refine t4_nil (NoPanic.normal ?_)
    go_wp2_with fail
    go_ret
    refine ⟨?_, hs5.bel⟩
    show _ = Ending.returned (.string ⟨(decB m).toArray⟩)
    rw [HDR.out]
    simp only [UInt8.ofNat_add] at *
    exact congrArg (fun z => Ending.returned (.string z)) (Go.ByteArray.mk_append_mk (decB 1) _)
  · refine t4_hard rfl (by rfl) (fun K hK => ?_)
    go_wp2_with fail
    have hs6 := hs1.alloc #[.int .u8 (48 + (r : Int))] 5 (n := wd2.heap.size) (by simp)
    refine ⟨(by first | exact Lib.hid trivial | exact Lib.hid (Nat.zero_le _)), ?_⟩
    (repeat (first | (apply t4_skip rfl (by rfl); try simp only [Act.put, List.setIfInBounds_toArray, List.set_cons_zero, List.set_cons_succ]) | (apply t4_float rfl (by rfl); (· (intro w' hS; go_simp <;> with_reducible rfl)); (try simp only [Act.put, List.setIfInBounds_toArray, List.set_cons_zero, List.set_cons_succ]))))
    refine t4_fork2 ?_ ?_
    · refine t4_hard rfl (by rfl) (fun K hK => ?_)
      go_wp2_with (go_at_call 40; refine (Decimal1_c 1 _ (by omega) (by omega)).mono ?_; rintro e w7 ⟨rfl, hbw7⟩)
      have hz_w7 : wd2.heap.size + 1 ≤ w7.heap.size := by have h9 := hbw7.size; (try simp at h9); omega
      have hs8 := hs6.step hbw7
      refine ⟨(by first | exact Lib.hid trivial | exact Lib.hid (Nat.zero_le _)), ?_⟩
      (repeat (first | (apply t4_skip rfl (by rfl); try simp only [Act.put, List.setIfInBounds_toArray, List.set_cons_zero, List.set_cons_succ]) | (apply t4_float rfl (by rfl); (· (intro w' hS; go_simp <;> with_reducible rfl)); (try simp only [Act.put, List.setIfInBounds_toArray, List.set_cons_zero, List.set_cons_succ]))))
      refine t4_hard rfl (by rfl) (fun K hK => ?_)
      have hcv := HCV.out w7 _ (hs8.cellAt 0 rfl 0 rfl)
      go_wp2_with fail
      refine ⟨(by first | exact Lib.hid trivial | exact Lib.hid (Nat.zero_le _)), ?_⟩
      (repeat (first | (apply t4_skip rfl (by rfl); try simp only [Act.put, List.setIfInBounds_toArray, List.set_cons_zero, List.set_cons_succ]) | (apply t4_float rfl (by rfl); (· (intro w' hS; go_simp <;> with_reducible rfl)); (try simp only [Act.put, List.setIfInBounds_toArray, List.set_cons_zero, List.set_cons_succ]))))
      have k0_0 := hs8.cellAt 0 rfl 0 rfl
      refine t4_nil (NoPanic.normal ?_)
      go_wp2_with fail
      go_ret
      refine ⟨?_, hs8.bel⟩
      show _ = Ending.returned (.string ⟨(decB m).toArray⟩)
      rw [HDR.out]
      simp only [UInt8.ofNat_add] at *
      exact congrArg (fun z => Ending.returned (.string z)) (Go.ByteArray.mk_append_mk (decB 1) _)
    · refine t4_hard rfl (by rfl) (fun K hK => ?_)
      have hcv := HCV.out (wd2.alloc (.cells #[.int .u8 (48 + (r : Int))] 5)) _ (hs6.cellAt 0 rfl 0 rfl)
      go_wp2_with fail
      refine ⟨(by first | exact Lib.hid trivial | exact Lib.hid (Nat.zero_le _)), ?_⟩
      (repeat (first | (apply t4_skip rfl (by rfl); try simp only [Act.put, List.setIfInBounds_toArray, List.set_cons_zero, List.set_cons_succ]) | (apply t4_float rfl (by rfl); (· (intro w' hS; go_simp <;> with_reducible rfl)); (try simp only [Act.put, List.setIfInBounds_toArray, List.set_cons_zero, List.set_cons_succ]))))
      refine t4_hard rfl (by rfl) (fun K hK => ?_)
      go_wp2_with (go_at_call 40; refine (Decimal1_c 1 _ (by omega) (by omega)).mono ?_; rintro e w9 ⟨rfl, hbw9⟩)
      have hz_w9 : wd2.heap.size + 1 ≤ w9.heap.size := by have h9 := hbw9.size; (try simp at h9); omega
      have hs10 := hs6.step hbw9
      refine ⟨(by first | exact Lib.hid trivial | exact Lib.hid (Nat.zero_le _)), ?_⟩
      (repeat (first | (apply t4_skip rfl (by rfl); try simp only [Act.put, List.setIfInBounds_toArray, List.set_cons_zero, List.set_cons_succ]) | (apply t4_float rfl (by rfl); (· (intro w' hS; go_simp <;> with_reducible rfl)); (try simp only [Act.put, List.setIfInBounds_toArray, List.set_cons_zero, List.set_cons_succ]))))
      have k0_0 := hs10.cellAt 0 rfl 0 rfl
      refine t4_nil (NoPanic.normal ?_)
      go_wp2_with fail
      go_ret
      refine ⟨?_, hs10.bel⟩
      show _ = Ending.returned (.string ⟨(decB m).toArray⟩)
      rw [HDR.out]
      simp only [UInt8.ofNat_add] at *
      exact congrArg (fun z => Ending.returned (.string z)) (Go.ByteArray.mk_append_mk (decB 1) _)
/-! ### The text of a system -/
def digsB (l : List Int) : List UInt8 := l.flatMap (fun a => decB a.toNat)
def eqnB (e : Eqn) : List UInt8 := digsB e.1 ++ [32, 61, 32] ++ decB e.2.toNat ++ [10]
def headB (p u : Int) : List UInt8 := [115, 121, 115, 116, 101, 109, 32] ++ decB p.toNat ++ [32] ++ decB u.toNat ++ [10]
def textB (s : Sys) : List UInt8 := headB s.1 s.2.1 ++ s.2.2.flatMap eqnB
def textF (s : Sys) : List UInt8 := if validS s = true then textB s else []
def strV (l : List UInt8) : Value := .string ⟨l.toArray⟩
theorem digsB_len (l : List Int) : (digsB l).length ≤ 2 * l.length := by
  induction l with
  | nil => simp [digsB]
  | cons a l ih => have := decB_len a.toNat; simp only [digsB, List.flatMap_cons, List.length_append, List.length_cons] at ih ⊢; omega
theorem digsB_snoc (l : List Int) (k : Nat) (h : k < l.length) : digsB (l.take (k + 1)) = digsB (l.take k) ++ decB l[k].toNat := by
  unfold digsB; rw [List.take_succ_eq_append_getElem h, List.flatMap_append, List.flatMap_cons, List.flatMap_nil, List.append_nil]
set_option maxRecDepth 100000 in
set_option maxHeartbeats 4000000 in
theorem digits_c (l : List Int) (v : Value) (w : World) (h : Rd w [v] l) (hl : ∀ a, a ∈ l → 0 ≤ a ∧ a ≤ 12) (hn : l.length ≤ 1000) :
    Calls Tryd.prog 47 #[v] w fun e w' => e = .returned (.string ⟨(digsB l).toArray⟩) ∧ w = w' := by
  obtain ⟨a, c, rfl, _⟩ := rd_list h
  have HL := Lib.hid h
  have HB := Lib.hid hl
  clear h hl
  go_enter Tryd.func47, Tryd.ntmps47
  go_wp2_with fail
  go_loopw [3, 8] (fun xs xi wl => ∃ k : Nat, k ≤ l.length ∧ xs = .string ⟨(digsB (l.take k)).toArray⟩ ∧ xi = .int .i64 k ∧ w = wl) (fun _ xi _ => l.length - (intOf xi).toNat)
  case atStart => exact ⟨0, Nat.zero_le _, rfl, rfl, rfl⟩
  case round =>
    obtain ⟨k, hk, rfl, rfl, rfl⟩ := hrel
    by_cases hlt : k < l.length
    · have hkI : (k : Int) < l.length := by omega
      obtain ⟨b, o, rfl, q0, _⟩ := rd_int_at HL.out k hlt
      have hb := HB.out _ (List.getElem_mem hlt)
      have HS := Lib.hid (digsB_snoc l k hlt)
      have h1 := digsB_len (l.take k)
      have h2 := decB_len l[k].toNat
      rw [List.length_take] at h1
      generalize l[k] = A at *
      generalize digsB (l.take k) = X at *
      go_wp2_with fail
      refine (dec_c A _ hb.1 hb.2).mono ?_
      rintro e w1 ⟨rfl, rfl⟩
      generalize decB A.toNat = Y at *
      have hno : ¬ (9223372036854775807 < X.length + Y.length) := by omega
      go_wp2_with fail
      exact ⟨⟨k + 1, hlt, by rw [HS.out, ← Go.ByteArray.mk_append_mk], by go_num, trivial⟩, by simp [intOf]; omega⟩
    · obtain rfl : k = l.length := by omega
      have hnl : ¬ ((l.length : Int) < l.length) := by omega
      rw [List.take_length]
      go_wp2_with fail
      go_ret
      exact ⟨rfl, rfl⟩
theorem head_eq (P Q : List UInt8) : (((((⟨#[115, 121, 115, 116, 101, 109, 32]⟩ : ByteArray) ++ ⟨P.toArray⟩) ++ ⟨#[32]⟩) ++ ⟨Q.toArray⟩) ++ ⟨#[10]⟩) = ⟨([115, 121, 115, 116, 101, 109, 32] ++ P ++ [32] ++ Q ++ [10]).toArray⟩ := by
  apply ByteArray.ext
  simp [ByteArray.data_append]
theorem eqn_eq (X L R : List UInt8) : (⟨X.toArray⟩ : ByteArray) ++ (((⟨L.toArray⟩ ++ ⟨#[32, 61, 32]⟩) ++ ⟨R.toArray⟩) ++ ⟨#[10]⟩) = ⟨(X ++ (L ++ [32, 61, 32] ++ R ++ [10])).toArray⟩ := by
  apply ByteArray.ext
  simp [ByteArray.data_append]
theorem eqnB_snoc (l : List Eqn) (k : Nat) (h : k < l.length) : (l.take (k + 1)).flatMap eqnB = (l.take k).flatMap eqnB ++ eqnB l[k] := by
  rw [List.take_succ_eq_append_getElem h, List.flatMap_append, List.flatMap_cons, List.flatMap_nil, List.append_nil]
theorem eqnB_len {p : Int} {U : Nat} {l : List Eqn} (hU : U ≤ 12) (he : ∀ e, e ∈ l → eqnOk p U e = true) : (l.flatMap eqnB).length ≤ 40 * l.length := by
  induction l with
  | nil => simp
  | cons e l ih =>
    have h1 := ih (fun x hx => he x (List.mem_cons_of_mem _ hx))
    have h2 : e.1.length = U := by
      have h := he e (List.mem_cons_self ..)
      simp only [eqnOk, valsOk, Bool.and_eq_true, decide_eq_true_eq] at h
      omega
    have h3 := digsB_len e.1
    have h4 := decB_len e.2.toNat
    simp only [List.flatMap_cons, List.length_append, List.length_cons, eqnB, List.length_nil] at h1 ⊢
    omega
set_option maxRecDepth 100000 in
set_option maxHeartbeats 4000000 in
theorem SystemText_c (s : Sys) (v0 v1 v2 : Value) (w : World) (hx : Rd w [v0, v1, v2] s) :
    Calls Tryd.prog 25 #[.agg #[v0, v1, v2]] w fun e w' => e = .returned (.string ⟨(textF s).toArray⟩) ∧ Below w.heap.size w w' := by
  obtain ⟨p, u, l⟩ := s
  have HX := Lib.hid hx
  have z := rd_cons rfl hx
  obtain ⟨rfl, _⟩ := rd_i1 z.1
  have z2 := rd_cons rfl z.2
  obtain ⟨rfl, _⟩ := rd_i1 z2.1
  obtain ⟨a, c, rfl, _⟩ := rd_list z2.2
  have HL := Lib.hid z2.2
  clear hx z z2
  have hs11 := (St.start w).alloc #[.int .i64 p, .int .i64 u, .slice a l.length c] 24 (n := w.heap.size) (by simp)
  have k0_0 := hs11.cellAt 0 rfl 0 rfl
  have k0_1 := hs11.cellAt 0 rfl 1 rfl
  have k0_2 := hs11.cellAt 0 rfl 2 rfl
  go_enter Tryd.func25, Tryd.ntmps25
  go_wp2_with fail
  refine (ValidSystem_c (p, u, l) _ _ _ _ (Rd.mono HX.out hs11.bel)).mono ?_
  rintro e w12 ⟨rfl, hbw12⟩
  have hz_w12 : w.heap.size + 1 ≤ w12.heap.size := by have h9 := hbw12.size; (try simp at h9); omega
  have hs13 := hs11.step hbw12
  clear k0_0 k0_1 k0_2
  have k0_0 := hs13.cellAt 0 rfl 0 rfl
  have k0_1 := hs13.cellAt 0 rfl 1 rfl
  have k0_2 := hs13.cellAt 0 rfl 2 rfl
  cases hok : validS (p, u, l) with
  | false =>
    have HT := Lib.hid (show textF (p, u, l) = [] by unfold textF; rw [hok]; rfl)
    clear hok
    go_wp2_with fail
    go_ret
    exact ⟨by rw [HT.out]; rfl, hs13.bel⟩
  | true =>
    have HT := Lib.hid (show textF (p, u, l) = headB p u ++ l.flatMap eqnB by unfold textF; rw [if_pos hok]; rfl)
    obtain ⟨hp, hu, hl24, he⟩ := validS_get hok
    obtain ⟨U, rfl⟩ : ∃ U : Nat, u = U := ⟨u.toNat, by omega⟩
    have HE := Lib.hid he
    clear hok he
    have h1 := decB_len p.toNat
    have h2 := decB_len U
    have HH := Lib.hid (show headB p (U : Int) = [115, 121, 115, 116, 101, 109, 32] ++ decB p.toNat ++ [32] ++ decB U ++ [10] by unfold headB; rw [Int.toNat_natCast])
    have HHE := Lib.hid (head_eq (decB p.toNat) (decB U))
    rw [← HH.out] at HHE
    have hb1 : ¬ (9223372036854775807 < 7 + (decB p.toNat).length) := by omega
    have hb2 : ¬ (9223372036854775807 < 7 + (decB p.toNat).length + 1) := by omega
    have hb3 : ¬ (9223372036854775807 < 7 + (decB p.toNat).length + 1 + (decB U).length) := by omega
    have hb4 : ¬ (9223372036854775807 < 7 + (decB p.toNat).length + 1 + (decB U).length + 1) := by omega
    go_upto_region 3 with fail
    refine wp_region_noPanic (wp_region_tree4 (fun w' => w'.cell? ⟨w.heap.size, 0, none⟩ = some (.int .i64 p) ∧ w'.cell? ⟨w.heap.size, 1, none⟩ = some (.int .i64 (U : Int)) ∧ w'.cell? ⟨w.heap.size, 2, none⟩ = some (.slice a l.length c)) (.float 0 (.float 1 (.float 5 (.float 6 (.hard 2 (.float 3 (.float 4 (.hard 7 (.float 8 (.float 9 (.float 10 .nil))))))))))) (by kernel_rfl) (by kernel_rfl) (by kernel_rfl) rfl ?_ (fun _ _ _ _ _ h => h) ?_)
    · exact ⟨(hs13.drew).cellAt 0 rfl 0 rfl, (hs13.drew).cellAt 0 rfl 1 rfl, (hs13.drew).cellAt 0 rfl 2 rfl⟩
    have hs14 := hs13.drew
    clear k0_0 k0_1 k0_2
    have hz_wd15 : w12.heap.size ≤ (w12.drew).heap.size := by simp
    generalize hgen_wd15 : w12.drew = wd15 at *
    have HG_wd15 := Lib.hid hgen_wd15
    clear hgen_wd15
    (repeat (first | (apply t4_skip rfl (by rfl); try simp only [Act.put, List.setIfInBounds_toArray, List.set_cons_zero, List.set_cons_succ]) | (apply t4_float rfl (by rfl); (· (intro w' hS; go_simp <;> with_reducible rfl)); (try simp only [Act.put, List.setIfInBounds_toArray, List.set_cons_zero, List.set_cons_succ]))))
    refine t4_hard rfl (by rfl) (fun K hK => ?_)
    go_wp2_with (go_at_call 44; refine (dec_c p _ (by omega) (by omega)).mono ?_; rintro e w5 ⟨rfl, rfl⟩)
    refine ⟨⟨hs14.cellAt 0 rfl 0 rfl, hs14.cellAt 0 rfl 1 rfl, hs14.cellAt 0 rfl 2 rfl⟩, ?_⟩
    (repeat (first | (apply t4_skip rfl (by rfl); try simp only [Act.put, List.setIfInBounds_toArray, List.set_cons_zero, List.set_cons_succ]) | (apply t4_float rfl (by rfl); (· (intro w' hS; go_simp <;> with_reducible rfl)); (try simp only [Act.put, List.setIfInBounds_toArray, List.set_cons_zero, List.set_cons_succ]))))
    refine t4_hard rfl (by rfl) (fun K hK => ?_)
    go_wp2_with (go_at_call 44; refine (dec_c (U : Int) _ (by omega) (by omega)).mono ?_; rintro e w6 ⟨rfl, rfl⟩)
    refine ⟨⟨hs14.cellAt 0 rfl 0 rfl, hs14.cellAt 0 rfl 1 rfl, hs14.cellAt 0 rfl 2 rfl⟩, ?_⟩
    (repeat (first | (apply t4_skip rfl (by rfl); try simp only [Act.put, List.setIfInBounds_toArray, List.set_cons_zero, List.set_cons_succ]) | (apply t4_float rfl (by rfl); (· (intro w' hS; go_simp <;> with_reducible rfl)); (try simp only [Act.put, List.setIfInBounds_toArray, List.set_cons_zero, List.set_cons_succ]))))
    have k0_0 := hs14.cellAt 0 rfl 0 rfl
    have k0_1 := hs14.cellAt 0 rfl 1 rfl
    have k0_2 := hs14.cellAt 0 rfl 2 rfl
    refine t4_nil (NoPanic.normal ?_)
    have HST := Lib.hid (hs14.low (B' := w.heap.size + 1) (bx' := [(w.heap.size, #[.int .i64 p, .int .i64 U, .slice a l.length c], 24)]) (by omega) (by (try simp) <;> omega) (fun x hx => by simp only [List.mem_cons, List.not_mem_nil, or_false] at hx; rcases hx with rfl; (refine ⟨?_, ?_⟩ <;> (try simp) <;> (try omega))))
    have HHL := Lib.hid (show (headB p (U : Int)).length ≤ 13 by rw [HH.out]; simp only [List.length_append, List.length_cons, List.length_nil]; omega)
    clear hb1 hb2 hb3 hb4 h1 h2
    go_wp2_with fail
    clear k0_0 k0_1 k0_2
    go_loopw [3, 22] (fun xs xi wl => ∃ k : Nat, k ≤ l.length ∧ xs = .string ⟨(headB p (U : Int) ++ (l.take k).flatMap eqnB).toArray⟩ ∧ xi = .int .i64 k ∧ Hid (St w (w.heap.size + 1) wl [(w.heap.size, #[.int .i64 p, .int .i64 U, .slice a l.length c], 24)])) (fun _ xi _ => l.length - (intOf xi).toNat)
    case atStart => exact ⟨0, Nat.zero_le _, by rw [HHE.out]; simp, rfl, HST.out⟩
    case round =>
      clear HST
      obtain ⟨k, hk, rfl, rfl, hst⟩ := hrel
      have hs0 := hst.out
      have hszr := hst.out.hi
      have k0_0 := hs0.cellAt 0 rfl 0 rfl
      have k0_1 := hs0.cellAt 0 rfl 1 rfl
      have k0_2 := hs0.cellAt 0 rfl 2 rfl
      by_cases hlt : k < l.length
      · have hkI : (k : Int) < l.length := by omega
        obtain ⟨_, _, eS, hSl⟩ := rd_list HL.out
        simp only [Value.slice.injEq] at eS
        obtain ⟨rfl, -, rfl⟩ := eS
        obtain ⟨b, o, y0, y1, rfl, p0, p1, hy⟩ := rdSl_two rfl hSl k hlt
        have hq := HE.out _ (List.getElem_mem hlt)
        have HSN := Lib.hid (eqnB_snoc l k hlt)
        have hlX : ((l.take k).flatMap eqnB).length ≤ 40 * (l.take k).length := eqnB_len (by omega) (fun e he => HE.out e (List.mem_of_mem_take he))
        rw [List.length_take] at hlX
        have hXL : (headB p (U : Int) ++ (l.take k).flatMap eqnB).length ≤ 2000 := by rw [List.length_append]; have := HHL.out; omega
        generalize l[k] = E at *
        obtain ⟨L, R⟩ := E
        obtain ⟨a1, c1, rfl, _⟩ := rd_list (rd_cons rfl hy).1
        obtain ⟨rfl, _⟩ := rd_i1 (rd_cons rfl hy).2
        have HL1 := Lib.hid (rd_cons rfl hy).1
        simp only [eqnOk, valsOk, Bool.and_eq_true, decide_eq_true_eq, List.all_eq_true] at hq
        obtain ⟨⟨hlen, hall⟩, hR⟩ := hq
        have hR2 := inB_true hR
        have HAL := Lib.hid (show ∀ x, x ∈ L → 0 ≤ x ∧ x ≤ 12 from fun x hx => by have := inB_true (hall x hx); omega)
        have hLU : L.length ≤ 12 := by omega
        clear hall hR hSl hy hlX hlen
        have q0 := cellL hs0.bel p0
        have q1 := cellL hs0.bel p1
        clear p0 p1
        have hd1 := digsB_len L
        have hd2 := decB_len R.toNat
        have hb1 : ¬ (9223372036854775807 < (digsB L).length + 3) := by omega
        have hb2 : ¬ (9223372036854775807 < (digsB L).length + 3 + (decB R.toNat).length) := by omega
        have hb3 : ¬ (9223372036854775807 < (digsB L).length + 3 + (decB R.toNat).length + 1) := by omega
        have HXS := Lib.hid (show (headB p (U : Int) ++ (l.take (k + 1)).flatMap eqnB) = (headB p (U : Int) ++ (l.take k).flatMap eqnB) ++ (digsB L ++ [32, 61, 32] ++ decB R.toNat ++ [10]) by rw [HSN.out, List.append_assoc]; rfl)
        generalize headB p (U : Int) ++ (l.take k).flatMap eqnB = X at *
        have HXE := Lib.hid (eqn_eq X (digsB L) (decB R.toNat))
        have hb4 : ¬ (9223372036854775807 < X.length + ((digsB L).length + 3 + (decB R.toNat).length + 1)) := by omega
        clear hd1 hd2
        go_upto_region 7 with fail
        have hs16 := hs0.alloc #[.slice a1 L.length c1, .int .i64 R] 43 (n := wr.heap.size) (by simp)
        have q0_17 := cellL (belowA _ (.cells #[.slice a1 L.length c1, .int .i64 R] 43)) q0
        clear q0
        have q1_18 := cellL (belowA _ (.cells #[.slice a1 L.length c1, .int .i64 R] 43)) q1
        clear q1
        clear k0_0 k0_1 k0_2
        have k0_0 := hs16.cellAt 0 rfl 0 rfl
        have k0_1 := hs16.cellAt 0 rfl 1 rfl
        have k0_2 := hs16.cellAt 0 rfl 2 rfl
        have k1_0 := hs16.cellAt 1 rfl 0 rfl
        have k1_1 := hs16.cellAt 1 rfl 1 rfl
        have hz_wE : wr.heap.size + 1 ≤ ((wr.alloc (.cells #[.slice a1 L.length c1, .int .i64 R] 43))).heap.size := by simp
        generalize hgen_wE : (wr.alloc (.cells #[.slice a1 L.length c1, .int .i64 R] 43)) = wE at *
        clear hgen_wE
        refine wp_region_noPanic (wp_region_tree4 (fun w' => w'.cell? ⟨w.heap.size, 0, none⟩ = some (.int .i64 p) ∧ w'.cell? ⟨w.heap.size, 1, none⟩ = some (.int .i64 U) ∧ w'.cell? ⟨w.heap.size, 2, none⟩ = some (.slice (some ⟨b, o, none⟩) l.length c) ∧ w'.cell? ⟨wr.heap.size, 0, none⟩ = some (.slice a1 L.length c1) ∧ w'.cell? ⟨wr.heap.size, 1, none⟩ = some (.int .i64 R) ∧ w'.cell? ⟨b, o + k * 2, none⟩ = some (.slice a1 L.length c1) ∧ w'.cell? ⟨b, o + k * 2 + 1, none⟩ = some (.int .i64 R)) (.float 0 (.float 1 (.float 2 (.float 5 (.float 6 (.hard 3 (.float 4 (.hard 7 (.float 8 (.float 9 (.float 10 (.float 11 .nil)))))))))))) (by kernel_rfl) (by kernel_rfl) (by kernel_rfl) rfl ?_ (fun _ _ _ _ _ h => h) ?_)
        · exact ⟨(hs16.drew).cellAt 0 rfl 0 rfl, (hs16.drew).cellAt 0 rfl 1 rfl, (hs16.drew).cellAt 0 rfl 2 rfl, (hs16.drew).cellAt 1 rfl 0 rfl, (hs16.drew).cellAt 1 rfl 1 rfl, cellL (belowD _) q0_17, cellL (belowD _) q1_18⟩
        have hs19 := hs16.drew
        have q0_20 := cellL (belowD _) q0_17
        clear q0_17
        have q1_21 := cellL (belowD _) q1_18
        clear q1_18
        clear k0_0 k0_1 k0_2 k1_0 k1_1
        have hz_wd22 : wE.heap.size ≤ (wE.drew).heap.size := by simp
        generalize hgen_wd22 : wE.drew = wd22 at *
        have HG_wd22 := Lib.hid hgen_wd22
        clear hgen_wd22
        (repeat (first | (apply t4_skip rfl (by rfl); try simp only [Act.put, List.setIfInBounds_toArray, List.set_cons_zero, List.set_cons_succ]) | (apply t4_float rfl (by rfl); (· (intro w' hS; go_simp <;> with_reducible rfl)); (try simp only [Act.put, List.setIfInBounds_toArray, List.set_cons_zero, List.set_cons_succ]))))
        refine t4_hard rfl (by rfl) (fun K hK => ?_)
        go_wp2_with (go_at_call 47; refine (digits_c L _ _ (Rd.mono HL1.out hs19.bel) HAL.out (by omega)).mono ?_; rintro e w5 ⟨rfl, rfl⟩)
        refine ⟨⟨hs19.cellAt 0 rfl 0 rfl, hs19.cellAt 0 rfl 1 rfl, hs19.cellAt 0 rfl 2 rfl, hs19.cellAt 1 rfl 0 rfl, hs19.cellAt 1 rfl 1 rfl, q0_20, q1_21⟩, ?_⟩
        (repeat (first | (apply t4_skip rfl (by rfl); try simp only [Act.put, List.setIfInBounds_toArray, List.set_cons_zero, List.set_cons_succ]) | (apply t4_float rfl (by rfl); (· (intro w' hS; go_simp <;> with_reducible rfl)); (try simp only [Act.put, List.setIfInBounds_toArray, List.set_cons_zero, List.set_cons_succ]))))
        refine t4_hard rfl (by rfl) (fun K hK => ?_)
        go_wp2_with (go_at_call 44; refine (dec_c R _ (by omega) (by omega)).mono ?_; rintro e w6 ⟨rfl, rfl⟩)
        refine ⟨⟨hs19.cellAt 0 rfl 0 rfl, hs19.cellAt 0 rfl 1 rfl, hs19.cellAt 0 rfl 2 rfl, hs19.cellAt 1 rfl 0 rfl, hs19.cellAt 1 rfl 1 rfl, q0_20, q1_21⟩, ?_⟩
        (repeat (first | (apply t4_skip rfl (by rfl); try simp only [Act.put, List.setIfInBounds_toArray, List.set_cons_zero, List.set_cons_succ]) | (apply t4_float rfl (by rfl); (· (intro w' hS; go_simp <;> with_reducible rfl)); (try simp only [Act.put, List.setIfInBounds_toArray, List.set_cons_zero, List.set_cons_succ]))))
        have k0_0 := hs19.cellAt 0 rfl 0 rfl
        have k0_1 := hs19.cellAt 0 rfl 1 rfl
        have k0_2 := hs19.cellAt 0 rfl 2 rfl
        have k1_0 := hs19.cellAt 1 rfl 0 rfl
        have k1_1 := hs19.cellAt 1 rfl 1 rfl
        refine t4_nil (NoPanic.normal ?_)
        have hs23 := hs19.low (B' := w.heap.size + 1) (bx' := [(w.heap.size, #[.int .i64 p, .int .i64 U, .slice (some ⟨b, o, none⟩) l.length c], 24)]) (by omega) (by (try simp) <;> omega) (fun x hx => by simp only [List.mem_cons, List.not_mem_nil, or_false] at hx; rcases hx with rfl <;> (refine ⟨?_, ?_⟩ <;> (try simp) <;> (try omega)))
        go_wp2_with fail
        go_roundw
        case rel => exact ⟨k + 1, hlt, by rw [HXS.out, ← HXE.out], by go_num, hs23⟩
        case measure => simp [intOf]; omega
      · obtain rfl : k = l.length := by omega
        have hnl : ¬ ((l.length : Int) < l.length) := by omega
        rw [List.take_length, ← HT.out]
        go_wp2_with fail
        go_ret
        exact ⟨rfl, hs0.bel⟩
theorem eqn_eq2 (X L R : List UInt8) : (⟨(X ++ L).toArray⟩ : ByteArray) ++ (((⟨#[32, 61, 32]⟩ : ByteArray) ++ ⟨R.toArray⟩) ++ ⟨#[10]⟩) = ⟨(X ++ (L ++ [32, 61, 32] ++ R ++ [10])).toArray⟩ := by
  apply ByteArray.ext
  simp [ByteArray.data_append]
theorem shead_eq (P Q : List UInt8) : (((((⟨#[115, 121, 115, 116, 101, 109, 32]⟩ : ByteArray) ++ ⟨P.toArray⟩) ++ ⟨#[32]⟩) ++ ⟨Q.toArray⟩) ++ ⟨#[10]⟩) = ⟨([115, 121, 115, 116, 101, 109, 32] ++ P ++ [32] ++ Q ++ [10]).toArray⟩ := by
  apply ByteArray.ext
  simp [ByteArray.data_append]
set_option maxRecDepth 100000 in
set_option maxHeartbeats 4000000 in
theorem l07Text_c (p : Int) (U : Nat) (l : List Eqn) (sb : Nat) (a : Option Addr) (c : Nat) (w : World) (hx : Rd w [.slice a l.length c] l)
    (c0 : w.cell? ⟨sb, 0, none⟩ = some (.int .i64 p)) (c1 : w.cell? ⟨sb, 1, none⟩ = some (.int .i64 U)) (c2 : w.cell? ⟨sb, 2, none⟩ = some (.slice a l.length c)) (hok : validS (p, (U : Int), l) = true) :
    Calls Tryd.prog 19 #[.pointer (some ⟨sb, 0, none⟩)] w fun e w' => e = .returned (.string ⟨(textB (p, (U : Int), l)).toArray⟩) ∧ Below w.heap.size w w' := by
  have HL := Lib.hid hx
  have HT := Lib.hid (show textB (p, (U : Int), l) = headB p (U : Int) ++ l.flatMap eqnB from rfl)
  obtain ⟨hp, hu, hl24, he⟩ := validS_get hok
  have HE := Lib.hid he
  clear hok he hx
  have h1 := decB_len p.toNat
  have h2 := decB_len U
  have HH := Lib.hid (show headB p (U : Int) = [115, 121, 115, 116, 101, 109, 32] ++ decB p.toNat ++ [32] ++ decB U ++ [10] by unfold headB; rw [Int.toNat_natCast])
  have HHE := Lib.hid (shead_eq (decB p.toNat) (decB U))
  rw [← HH.out] at HHE
  have hb1 : ¬ (9223372036854775807 < 7 + (decB p.toNat).length) := by omega
  have hb2 : ¬ (9223372036854775807 < 7 + (decB p.toNat).length + 1) := by omega
  have hb3 : ¬ (9223372036854775807 < 7 + (decB p.toNat).length + 1 + (decB U).length) := by omega
  have hb4 : ¬ (9223372036854775807 < 7 + (decB p.toNat).length + 1 + (decB U).length + 1) := by omega
  have c0_ := cellL (St.start w).bel c0
  clear c0_
  have c0_ := cellL (St.start w).bel c0
  have c1_ := cellL (St.start w).bel c1
  clear c0_ c1_
  have c0_ := cellL (St.start w).bel c0
  have c1_ := cellL (St.start w).bel c1
  have c2_ := cellL (St.start w).bel c2
  go_enter Tryd.func19, Tryd.ntmps19
  go_upto_region 1 with fail
  refine wp_region_noPanic (wp_region_tree4 (fun w' => w'.cell? ⟨sb, 0, none⟩ = some (.int .i64 p) ∧ w'.cell? ⟨sb, 1, none⟩ = some (.int .i64 U) ∧ w'.cell? ⟨sb, 2, none⟩ = some (.slice a l.length c)) (.float 0 (.float 1 (.float 2 (.float 3 (.float 7 (.float 8 (.float 9 (.float 10 (.hard 4 (.float 5 (.float 6 (.hard 11 (.float 12 (.float 13 (.float 14 .nil))))))))))))))) (by kernel_rfl) (by kernel_rfl) (by kernel_rfl) rfl ?_ (fun _ _ _ _ _ h => h) ?_)
  · exact ⟨cellL ((St.start w).drew).bel c0, cellL ((St.start w).drew).bel c1, cellL ((St.start w).drew).bel c2⟩
  have hs24 := (St.start w).drew
  clear c0_ c1_ c2_
  have hz_wd25 : w.heap.size ≤ (w.drew).heap.size := by simp
  generalize hgen_wd25 : w.drew = wd25 at *
  have HG_wd25 := Lib.hid hgen_wd25
  clear hgen_wd25
  (repeat (first | (apply t4_skip rfl (by rfl); try simp only [Act.put, List.setIfInBounds_toArray, List.set_cons_zero, List.set_cons_succ]) | (apply t4_float rfl (by rfl); (· (intro w' hS; go_simp <;> with_reducible rfl)); (try simp only [Act.put, List.setIfInBounds_toArray, List.set_cons_zero, List.set_cons_succ]))))
  refine t4_hard rfl (by rfl) (fun K hK => ?_)
  go_wp2_with (go_at_call 40; refine (Decimal_c p _ (by omega) (by omega)).mono ?_; rintro e w26 ⟨rfl, hbw26⟩)
  have hz_w26 : wd25.heap.size ≤ w26.heap.size := by have h9 := hbw26.size; (try simp at h9); omega
  have hs27 := hs24.step hbw26
  refine ⟨⟨cellL hs27.bel c0, cellL hs27.bel c1, cellL hs27.bel c2⟩, ?_⟩
  (repeat (first | (apply t4_skip rfl (by rfl); try simp only [Act.put, List.setIfInBounds_toArray, List.set_cons_zero, List.set_cons_succ]) | (apply t4_float rfl (by rfl); (· (intro w' hS; go_simp <;> with_reducible rfl)); (try simp only [Act.put, List.setIfInBounds_toArray, List.set_cons_zero, List.set_cons_succ]))))
  refine t4_hard rfl (by rfl) (fun K hK => ?_)
  go_wp2_with (go_at_call 40; refine (Decimal_c (U : Int) _ (by omega) (by omega)).mono ?_; rintro e w28 ⟨rfl, hbw28⟩)
  have hz_w28 : w26.heap.size ≤ w28.heap.size := by have h9 := hbw28.size; (try simp at h9); omega
  have hs29 := hs27.step hbw28
  refine ⟨⟨cellL hs29.bel c0, cellL hs29.bel c1, cellL hs29.bel c2⟩, ?_⟩
  (repeat (first | (apply t4_skip rfl (by rfl); try simp only [Act.put, List.setIfInBounds_toArray, List.set_cons_zero, List.set_cons_succ]) | (apply t4_float rfl (by rfl); (· (intro w' hS; go_simp <;> with_reducible rfl)); (try simp only [Act.put, List.setIfInBounds_toArray, List.set_cons_zero, List.set_cons_succ]))))
  have c0_ := cellL hs29.bel c0
  have c1_ := cellL hs29.bel c1
  have c2_ := cellL hs29.bel c2
  refine t4_nil (NoPanic.normal ?_)
  have HHL := Lib.hid (show (headB p (U : Int)).length ≤ 13 by rw [HH.out]; simp only [List.length_append, List.length_cons, List.length_nil]; omega)
  have HB0 := Lib.hid hs29.bel
  clear hb1 hb2 hb3 hb4 h1 h2
  go_wp2_with fail
  clear c0_ c1_ c2_
  go_loopw [3, 4] (fun xs xi wl => ∃ k : Nat, k ≤ l.length ∧ xs = .string ⟨(headB p (U : Int) ++ (l.take k).flatMap eqnB).toArray⟩ ∧ xi = .int .i64 k ∧ Hid (Below w.heap.size w wl)) (fun _ xi _ => l.length - (intOf xi).toNat)
  case atStart => exact ⟨0, Nat.zero_le _, by rw [HHE.out]; simp, rfl, HB0.out⟩
  case round =>
    clear HB0
    obtain ⟨k, hk, rfl, rfl, hbl⟩ := hrel
    have d0 := cellL hbl.out c0
    have d1 := cellL hbl.out c1
    have d2 := cellL hbl.out c2
    by_cases hlt : k < l.length
    · have hkI : (k : Int) < l.length := by omega
      obtain ⟨_, _, eS, hSl⟩ := rd_list HL.out
      simp only [Value.slice.injEq] at eS
      obtain ⟨rfl, -, rfl⟩ := eS
      obtain ⟨b, o, y0, y1, rfl, p0, p1, hy⟩ := rdSl_two rfl hSl k hlt
      have hq := HE.out _ (List.getElem_mem hlt)
      have HSN := Lib.hid (eqnB_snoc l k hlt)
      have hlX : ((l.take k).flatMap eqnB).length ≤ 40 * (l.take k).length := eqnB_len (by omega) (fun e he => HE.out e (List.mem_of_mem_take he))
      rw [List.length_take] at hlX
      have hXL : (headB p (U : Int) ++ (l.take k).flatMap eqnB).length ≤ 2000 := by rw [List.length_append]; have := HHL.out; omega
      generalize l[k] = E at *
      obtain ⟨L, R⟩ := E
      obtain ⟨a1, c1', rfl, _⟩ := rd_list (rd_cons rfl hy).1
      obtain ⟨rfl, _⟩ := rd_i1 (rd_cons rfl hy).2
      have HL1 := Lib.hid (rd_cons rfl hy).1
      simp only [eqnOk, valsOk, Bool.and_eq_true, decide_eq_true_eq, List.all_eq_true] at hq
      obtain ⟨⟨hlen, hall⟩, hR⟩ := hq
      have hR2 := inB_true hR
      have HAL := Lib.hid (show ∀ x, x ∈ L → 0 ≤ x ∧ x ≤ 12 from fun x hx => by have := inB_true (hall x hx); omega)
      have hLU : L.length ≤ 12 := by omega
      clear hall hR hSl hy hlX hlen
      have q0 := cellL hbl.out p0
      have q1 := cellL hbl.out p1
      have P0 := Lib.hid p0
      have P1 := Lib.hid p1
      clear p0 p1
      have HXS := Lib.hid (show (headB p (U : Int) ++ (l.take (k + 1)).flatMap eqnB) = (headB p (U : Int) ++ (l.take k).flatMap eqnB) ++ (digsB L ++ [32, 61, 32] ++ decB R.toNat ++ [10]) by rw [HSN.out, List.append_assoc]; rfl)
      generalize headB p (U : Int) ++ (l.take k).flatMap eqnB = X at *
      have HXE := Lib.hid (eqn_eq2 X (digsB L) (decB R.toNat))
      go_wp2_with fail
      clear d0 d1 d2 q0 q1
      go_loopw [3, 5] (fun xs xi wl => ∃ q : Nat, q ≤ L.length ∧ xs = .string ⟨(X ++ digsB (L.take q)).toArray⟩ ∧ xi = .int .i64 q ∧ Hid (Below w.heap.size w wl)) (fun _ xi _ => L.length - (intOf xi).toNat)
      case atStart => exact ⟨0, Nat.zero_le _, by simp [digsB], rfl, hbl.out⟩
      case round =>
        clear hbl
        obtain ⟨q, hq, rfl, rfl, hbl⟩ := hrel
        have d0 := cellL hbl.out c0
        have d1 := cellL hbl.out c1
        have d2 := cellL hbl.out c2
        have q0 := cellL hbl.out P0.out
        have q1 := cellL hbl.out P1.out
        by_cases hqL : q < L.length
        · have hqI : (q : Int) < L.length := by omega
          obtain ⟨b1, o1, rfl, m0, _⟩ := rd_int_at HL1.out q hqL
          have m1 := cellL hbl.out m0
          have hA := HAL.out _ (List.getElem_mem hqL)
          have HS := Lib.hid (digsB_snoc L q hqL)
          have hd1 := digsB_len (L.take q)
          rw [List.length_take] at hd1
          generalize L[q] = A at *
          go_wp2_with fail
          refine (Decimal_c A _ hA.1 hA.2).mono ?_
          rintro e w5 ⟨rfl, hb5⟩
          have hdA := decB_len A.toNat
          have HBL := Lib.hid (hbl.out.trans (hb5.mono hbl.out.size))
          clear d0 d1 d2 q0 q1 m1 hb5 hbl
          have hb0 : ¬ (9223372036854775807 < X.length + (digsB (L.take q)).length + (decB A.toNat).length) := by omega
          go_wp2_with fail
          exact ⟨⟨q + 1, hqL, by rw [HS.out, ← List.append_assoc]; exact congrArg Value.string (Go.ByteArray.mk_append_mk _ _), by go_num, HBL.out⟩, by simp [intOf]; omega⟩
        · obtain rfl : q = L.length := by omega
          have hnl : ¬ ((L.length : Int) < L.length) := by omega
          rw [List.take_length]
          have hd1 := digsB_len L
          have hd2 := decB_len R.toNat
          go_wp2_with fail
          refine (Decimal_c R _ (by omega) (by omega)).mono ?_
          rintro e w5 ⟨rfl, hb5⟩
          have HBL := Lib.hid (hbl.out.trans (hb5.mono hbl.out.size))
          clear d0 d1 d2 q0 q1 hb5 hbl
          have hb1 : ¬ (9223372036854775807 < 3 + (decB R.toNat).length) := by omega
          have hb2 : ¬ (9223372036854775807 < 3 + (decB R.toNat).length + 1) := by omega
          have hb3 : ¬ (9223372036854775807 < X.length + (digsB L).length + (3 + (decB R.toNat).length + 1)) := by omega
          go_wp2_with fail
          exact ⟨⟨k + 1, hlt, by rw [HXS.out, ← HXE.out], by go_num, HBL.out⟩, by simp [intOf]; omega⟩
    · obtain rfl : k = l.length := by omega
      have hnl : ¬ ((l.length : Int) < l.length) := by omega
      rw [List.take_length, ← HT.out]
      go_wp2_with fail
      go_ret
      exact ⟨rfl, hbl.out⟩

end Go.Proofs.YtjnkkjgkinmhkaaDoor
