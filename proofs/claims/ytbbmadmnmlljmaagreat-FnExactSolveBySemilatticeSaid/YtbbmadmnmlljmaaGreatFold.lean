/-
  CONTRACTS: the number of a tuple, the value of an operation, folding; both sides.
-/
import Derived.Test.YtbbmadmnmlljmaaGreatTmplT
namespace Go.Proofs.YtbbmadmnmlljmaaGreat
open Go.RowKit Go.Shelf Go.IntWalk
open Rep (Rd Own sz)
set_option linter.unusedSimpArgs false
set_option linter.unusedVariables false

theorem codeL_take {size : Int} {l : List Int} {k : Nat} (hk : k < l.length) : codeL size (l.take (k + 1)) = codeL size (l.take k) * size + l[k] := by
  rw [List.take_succ_eq_append_getElem hk, codeL_snoc]
theorem codeL_step {size : Int} (hs : 1 ≤ size) {l : List Int} (hv : ∀ a, a ∈ l → 0 ≤ a ∧ a ≤ size - 1) (hp : size ^ l.length ≤ 1000000000000) {k : Nat} (hk : k < l.length) :
    0 ≤ codeL size (l.take k) * size ∧ codeL size (l.take k) * size ≤ 1000000000000 ∧ 0 ≤ codeL size (l.take k) * size + l[k] ∧ codeL size (l.take k) * size + l[k] ≤ 1000000000000 ∧ 0 ≤ l[k] := by
  have ha := hv _ (List.getElem_mem hk)
  have h1 := codeL_bd hs (l.take k) (fun a h => hv a (List.mem_of_mem_take h))
  have h2 := codeL_bd hs (l.take (k + 1)) (fun a h => hv a (List.mem_of_mem_take h))
  rw [codeL_take hk] at h2
  have h3 : size ^ (l.take (k + 1)).length ≤ size ^ l.length := pow_le_of hs (by rw [List.length_take]; omega)
  have h4 : 0 ≤ codeL size (l.take k) * size := Int.mul_nonneg h1.1 (by omega)
  omega
set_option maxRecDepth 100000 in
set_option maxHeartbeats 1000000 in
theorem indexOf_c (size : Int) (l : List Int) (v : Value) (w : World) (r : Rd w [v] l) (hs : 1 ≤ size) (hv : ∀ a, a ∈ l → 0 ≤ a ∧ a ≤ size - 1) (hp : size ^ l.length ≤ 1000000000000) :
    Calls Tryz.prog 147 #[.int .i64 size, v] w fun e w' => e = .returned (.int .i64 (codeL size l)) ∧ w = w' := by
  obtain ⟨a, c, rfl, h0⟩ := rd_list r
  have hb0 := (rdSl_len h0).2
  unfold maxLen at hb0
  have HR := Lib.hid r
  have HV := Lib.hid hv
  have HPP := Lib.hid hp
  clear r h0 hv hp
  go_enter Tryz.func147, Tryz.ntmps147
  go_wp2_with fail
  go_loop [5, 10] (fun q i => ∃ (k : Nat) (Q : Int), k ≤ l.length ∧ i = .int .i64 k ∧ q = .int .i64 Q ∧ Hid (Q = codeL size (l.take k))) (fun _ i => l.length - (intOf i).toNat)
  case atStart => exact ⟨0, 0, Nat.zero_le _, rfl, rfl, rfl⟩
  case round =>
    obtain ⟨k, Q, hk, rfl, rfl, hq⟩ := hrel
    by_cases hlt : k < l.length
    · obtain ⟨b, o, rfl, q0, _⟩ := rd_int_at HR.out k hlt
      have hst := codeL_step hs HV.out HPP.out hlt
      have HT := Lib.hid (codeL_take (size := size) hlt)
      rw [← hq.out] at hst
      have HQ2 := Lib.hid (show Q * size + l[k] = codeL size (l.take (k + 1)) by rw [HT.out, hq.out])
      clear HT
      generalize l[k] = A at *
      obtain ⟨g1, g2, g3, g4, g5⟩ := hst
      go_wp2_with fail
      go_round
      case rel => exact ⟨k + 1, Q * size + A, by omega, by go_num, rfl, HQ2.out⟩
      case measure => simp [intOf]; omega
    · obtain rfl : k = l.length := by omega
      have HQ2 := Lib.hid (show Q = codeL size l by rw [hq.out, List.take_length])
      go_wp2_with fail
      go_ret
      exact ⟨ret_int HQ2.out, rfl⟩
set_option maxRecDepth 100000 in
set_option maxHeartbeats 1000000 in
theorem l01Code_c (size : Int) (l : List Int) (v : Value) (w : World) (r : Rd w [v] l) (hs : 1 ≤ size) (hv : ∀ a, a ∈ l → 0 ≤ a ∧ a ≤ size - 1) (hp : size ^ l.length ≤ 1000000000000) :
    Calls Tryz.prog 117 #[.int .i64 size, v] w fun e w' => e = .returned (.int .i64 (codeL size l)) ∧ w = w' := by
  obtain ⟨a, c, rfl, h0⟩ := rd_list r
  have hb0 := (rdSl_len h0).2
  unfold maxLen at hb0
  have HR := Lib.hid r
  have HV := Lib.hid hv
  have HPP := Lib.hid hp
  clear r h0 hv hp
  go_enter Tryz.func117, Tryz.ntmps117
  go_wp2_with fail
  go_loop [5, 6] (fun q i => ∃ (k : Nat) (Q : Int), k ≤ l.length ∧ i = .int .i64 k ∧ q = .int .i64 Q ∧ Hid (Q = codeL size (l.take k))) (fun _ i => l.length - (intOf i).toNat)
  case atStart => exact ⟨0, 0, Nat.zero_le _, rfl, rfl, rfl⟩
  case round =>
    obtain ⟨k, Q, hk, rfl, rfl, hq⟩ := hrel
    by_cases hlt : k < l.length
    · obtain ⟨b, o, rfl, q0, _⟩ := rd_int_at HR.out k hlt
      have hst := codeL_step hs HV.out HPP.out hlt
      have HT := Lib.hid (codeL_take (size := size) hlt)
      rw [← hq.out] at hst
      have HQ2 := Lib.hid (show Q * size + l[k] = codeL size (l.take (k + 1)) by rw [HT.out, hq.out])
      clear HT
      generalize l[k] = A at *
      obtain ⟨g1, g2, g3, g4, g5⟩ := hst
      go_wp2_with fail
      go_round
      case rel => exact ⟨k + 1, Q * size + A, by omega, by go_num, rfl, HQ2.out⟩
      case measure => simp [intOf]; omega
    · obtain rfl : k = l.length := by omega
      have HQ2 := Lib.hid (show Q = codeL size l by rw [hq.out, List.take_length])
      go_wp2_with fail
      go_ret
      exact ⟨ret_int HQ2.out, rfl⟩
/-- The value of an operation at its arguments. -/
def valOf (size : Int) (f : OpT) (args : List Int) : Int := f.2.getD (codeL size args).toNat 0
theorem valOf_at {size : Int} {f : OpT} {args : List Int} (hok : opOk size f = true) (hlen : (args.length : Int) = f.1) (hv : ∀ a, a ∈ args → 0 ≤ a ∧ a ≤ size - 1) :
    ∃ k : Nat, ∃ hk : k < f.2.length, codeL size args = (k : Int) ∧ valOf size f args = f.2[k] ∧ 0 ≤ valOf size f args ∧ valOf size f args ≤ size - 1 ∧ f.2.length ≤ 64 ∧ size ^ args.length ≤ 64 := by
  obtain ⟨hs, har, ht⟩ := opOk_get hok
  have h1 := codeL_bd hs.1 args hv
  have h2 := valsOk_len ht
  have h3 := pow64 hs har
  have h4 : args.length = f.1.toNat := by omega
  rw [h4] at h1
  refine ⟨(codeL size args).toNat, by omega, by omega, ?_⟩
  have hk : (codeL size args).toNat < f.2.length := by omega
  have e : valOf size f args = f.2[(codeL size args).toNat] := by simp [valOf, List.getD, hk]
  have hv2 : ∀ a, a ∈ f.2 → 0 ≤ a ∧ a ≤ size - 1 := by
    simp only [valsOk, Bool.and_eq_true, List.all_eq_true] at ht
    exact fun a h => inB_true (ht.2 a h)
  have h5 := hv2 _ (List.getElem_mem hk)
  rw [← e] at h5
  exact ⟨e, h5.1, h5.2, by omega, by rw [h4]; omega⟩
set_option maxRecDepth 100000 in
set_option maxHeartbeats 2000000 in
theorem at_c (size : Int) (f : OpT) (args : List Int) (v0 v1 va : Value) (w : World) (hf : Rd w [v0, v1] f) (ha : Rd w [va] args) (hok : opOk size f = true) (hlen : (args.length : Int) = f.1) (hv : ∀ a, a ∈ args → 0 ≤ a ∧ a ≤ size - 1) :
    Calls Tryz.prog 84 #[.agg #[v0, v1], .int .i64 size, va] w fun e w' => e = .returned (.int .i64 (valOf size f args)) ∧ Below w.heap.size w w' := by
  obtain ⟨k, hk, e1, e2, _, _, e5, e6⟩ := valOf_at hok hlen hv
  have hs := (opOk_get hok).1
  obtain ⟨ar, l⟩ := f
  have HCK := Lib.hid e1
  have HE2 := Lib.hid e2
  have HV := Lib.hid hv
  have HP6 := Lib.hid e6
  have z := rd_cons rfl hf
  obtain ⟨rfl, _⟩ := rd_i1 z.1
  have HRL := Lib.hid z.2
  obtain ⟨a, c, rfl, _⟩ := rd_list HRL.out
  simp only at hk e5 hlen
  obtain ⟨b, o, rfl, q0, _⟩ := rd_int_at HRL.out k hk
  obtain ⟨a2, c2, rfl, _⟩ := rd_list ha
  have HA := Lib.hid ha
  clear hf z e1 e2 hv e6 ha hlen hok
  have q0_ := cellL (St.start w).bel q0
  have hs1 := (St.start w).alloc #[.int .i64 ar, .slice (some ⟨b, o, none⟩) l.length c] 48 (n := w.heap.size) (by simp)
  clear q0_
  have k0_0 := hs1.cellAt 0 rfl 0 rfl
  have k0_1 := hs1.cellAt 0 rfl 1 rfl
  have q0_ := cellL hs1.bel q0
  go_enter Tryz.func84, Tryz.ntmps84
  have hkl : (k : Int) < l.length := by omega
  have ejw : IntKind.i64.wrap (k : Int) = (k : Int) := i64_in _ (by omega)
  go_upto_region 1 with fail
  refine wp_region_noPanic (wp_region_tree4 (fun w' => w'.cell? ⟨w.heap.size, 0, none⟩ = some (.int .i64 ar) ∧ w'.cell? ⟨w.heap.size, 1, none⟩ = some (.slice (some ⟨b, o, none⟩) l.length c) ∧ w'.cell? ⟨b, o + k, none⟩ = some (.int .i64 l[k])) (.float 0 (.float 1 (.float 2 (.float 3 (.hard 4 (.float 5 (.float 6 (.float 7 .nil)))))))) (by kernel_rfl) (by kernel_rfl) (by kernel_rfl) rfl ?_ (fun _ _ _ _ _ h => h) ?_)
  · exact ⟨(hs1.drew).cellAt 0 rfl 0 rfl, (hs1.drew).cellAt 0 rfl 1 rfl, cellL (hs1.drew).bel q0⟩
  have hs2 := hs1.drew
  clear k0_0 k0_1 q0_
  have hz_wd3 : w.heap.size + 1 ≤ ((w.alloc (.cells #[.int .i64 ar, .slice (some ⟨b, o, none⟩) l.length c] 48)).drew).heap.size := by simp
  generalize hgen_wd3 : (w.alloc (.cells #[.int .i64 ar, .slice (some ⟨b, o, none⟩) l.length c] 48)).drew = wd3 at *
  have HG_wd3 := Lib.hid hgen_wd3
  clear hgen_wd3
  (repeat (first | (apply t4_skip rfl (by rfl); try simp only [Act.put, List.setIfInBounds_toArray, List.set_cons_zero, List.set_cons_succ]) | (apply t4_float rfl (by rfl); (· (intro w' hS; go_simp <;> with_reducible rfl)); (try simp only [Act.put, List.setIfInBounds_toArray, List.set_cons_zero, List.set_cons_succ]))))
  refine t4_hard rfl (by rfl) (fun K hK => ?_)
  go_wp2_with (go_at_call 147; refine (indexOf_c size args _ _ (Rd.mono HA.out hs2.bel) hs.1 HV.out (by have := HP6.out; omega)).mono ?_; rintro e w4 ⟨rfl, rfl, rfl⟩)
  rw [HCK.out]
  refine ⟨⟨hs2.cellAt 0 rfl 0 rfl, hs2.cellAt 0 rfl 1 rfl, cellL hs2.bel q0⟩, ?_⟩
  (repeat (first | (apply t4_skip rfl (by rfl); try simp only [Act.put, List.setIfInBounds_toArray, List.set_cons_zero, List.set_cons_succ]) | (apply t4_float rfl (by rfl); (· (intro w' hS; go_simp <;> with_reducible rfl)); (try simp only [Act.put, List.setIfInBounds_toArray, List.set_cons_zero, List.set_cons_succ]))))
  have k0_0 := hs2.cellAt 0 rfl 0 rfl
  have k0_1 := hs2.cellAt 0 rfl 1 rfl
  have q0_ := cellL hs2.bel q0
  refine t4_nil (NoPanic.normal ?_)
  go_wp2_with fail
  go_ret
  exact ⟨ret_int HE2.out.symm, hs2.bel⟩
set_option maxRecDepth 100000 in
set_option maxHeartbeats 2000000 in
theorem l02Value_c (size : Int) (f : OpT) (args : List Int) (pb po : Nat) (v0 v1 va : Value) (w : World) (hf : Rd w [v0, v1] f) (hc1 : w.cell? ⟨pb, po + 1, none⟩ = some v1) (ha : Rd w [va] args) (hok : opOk size f = true) (hlen : (args.length : Int) = f.1) (hv : ∀ a, a ∈ args → 0 ≤ a ∧ a ≤ size - 1) :
    Calls Tryz.prog 72 #[.int .i64 size, .pointer (some ⟨pb, po, none⟩), va] w fun e w' => e = .returned (.int .i64 (valOf size f args)) ∧ Below w.heap.size w w' := by
  obtain ⟨k, hk, e1, e2, _, _, e5, e6⟩ := valOf_at hok hlen hv
  have hs := (opOk_get hok).1
  obtain ⟨ar, l⟩ := f
  have HCK := Lib.hid e1
  have HE2 := Lib.hid e2
  have HV := Lib.hid hv
  have HP6 := Lib.hid e6
  have z := rd_cons rfl hf
  obtain ⟨rfl, _⟩ := rd_i1 z.1
  have HRL := Lib.hid z.2
  obtain ⟨a, c, rfl, _⟩ := rd_list HRL.out
  simp only at hk e5 hlen
  obtain ⟨b, o, rfl, q0, _⟩ := rd_int_at HRL.out k hk
  obtain ⟨a2, c2, rfl, _⟩ := rd_list ha
  have HA := Lib.hid ha
  clear hf z e1 e2 hv e6 ha hlen hok
  have q0_ := cellL (St.start w).bel q0
  clear q0_
  have q0_ := cellL (St.start w).bel q0
  have hc1_ := cellL (St.start w).bel hc1
  go_enter Tryz.func72, Tryz.ntmps72
  have hkl : (k : Int) < l.length := by omega
  have ejw : IntKind.i64.wrap (k : Int) = (k : Int) := i64_in _ (by omega)
  go_upto_region 1 with fail
  refine wp_region_noPanic (wp_region_tree4 (fun w' => w'.cell? ⟨b, o + k, none⟩ = some (.int .i64 l[k]) ∧ w'.cell? ⟨pb, po + 1, none⟩ = some (.slice (some ⟨b, o, none⟩) l.length c)) (.float 0 (.float 1 (.float 2 (.float 3 (.float 4 (.float 5 (.hard 6 (.float 7 (.float 8 (.float 9 .nil)))))))))) (by kernel_rfl) (by kernel_rfl) (by kernel_rfl) rfl ?_ (fun _ _ _ _ _ h => h) ?_)
  · exact ⟨cellL ((St.start w).drew).bel q0, cellL ((St.start w).drew).bel hc1⟩
  have hs5 := (St.start w).drew
  clear q0_ hc1_
  have hz_wd6 : w.heap.size ≤ (w.drew).heap.size := by simp
  generalize hgen_wd6 : w.drew = wd6 at *
  have HG_wd6 := Lib.hid hgen_wd6
  clear hgen_wd6
  (repeat (first | (apply t4_skip rfl (by rfl); try simp only [Act.put, List.setIfInBounds_toArray, List.set_cons_zero, List.set_cons_succ]) | (apply t4_float rfl (by rfl); (· (intro w' hS; go_simp <;> with_reducible rfl)); (try simp only [Act.put, List.setIfInBounds_toArray, List.set_cons_zero, List.set_cons_succ]))))
  refine t4_hard rfl (by rfl) (fun K hK => ?_)
  go_wp2_with (go_at_call 117; refine (l01Code_c size args _ _ (Rd.mono HA.out hs5.bel) hs.1 HV.out (by have := HP6.out; omega)).mono ?_; rintro e w7 ⟨rfl, rfl, rfl⟩)
  rw [HCK.out]
  refine ⟨⟨cellL hs5.bel q0, cellL hs5.bel hc1⟩, ?_⟩
  (repeat (first | (apply t4_skip rfl (by rfl); try simp only [Act.put, List.setIfInBounds_toArray, List.set_cons_zero, List.set_cons_succ]) | (apply t4_float rfl (by rfl); (· (intro w' hS; go_simp <;> with_reducible rfl)); (try simp only [Act.put, List.setIfInBounds_toArray, List.set_cons_zero, List.set_cons_succ]))))
  have q0_ := cellL hs5.bel q0
  have hc1_ := cellL hs5.bel hc1
  refine t4_nil (NoPanic.normal ?_)
  go_wp2_with fail
  go_ret
  exact ⟨ret_int HE2.out.symm, hs5.bel⟩
theorem rd_lit2 {w : World} {b : Nat} {x y : Int} (hx : I64 x) (hy : I64 y) (h0 : w.cell? ⟨b, 0, none⟩ = some (.int .i64 x)) (h1 : w.cell? ⟨b, 1, none⟩ = some (.int .i64 y)) : Rd w [.slice (some ⟨b, 0, none⟩) 2 2] [x, y] := by
  refine ⟨_, _, rfl, by simp, by decide, fun i hi => ?_⟩
  match i, hi with
  | 0, _ =>
    refine ⟨b, 0, [.int .i64 x], rfl, ⟨rfl, hx⟩, fun j hj => ?_⟩
    obtain rfl : j = 0 := by simp at hj; omega
    simpa using h0
  | 1, _ =>
    refine ⟨b, 0, [.int .i64 y], rfl, ⟨rfl, hy⟩, fun j hj => ?_⟩
    obtain rfl : j = 0 := by simp at hj; omega
    simpa [sz] using h1
/-- Folding: the values from the left, two at a time. -/
def foldV (size : Int) (f : OpT) (a : Int) (l : List Int) : Int := l.foldl (fun x y => valOf size f [x, y]) a
theorem foldV_in {size : Int} {f : OpT} (hok : opOk size f = true) (h2 : f.1 = 2) : ∀ (l : List Int) (a : Int), (0 ≤ a ∧ a ≤ size - 1) → (∀ y, y ∈ l → 0 ≤ y ∧ y ≤ size - 1) → 0 ≤ foldV size f a l ∧ foldV size f a l ≤ size - 1
  | [], a, ha, _ => ha
  | y :: l, a, ha, hl => by
    have hy := hl y (List.mem_cons_self ..)
    obtain ⟨_, _, _, _, g1, g2, _⟩ := valOf_at (args := [a, y]) hok (by simp [h2]) (by intro z hz; simp at hz; rcases hz with rfl | rfl <;> assumption)
    exact foldV_in hok h2 l (valOf size f [a, y]) ⟨g1, g2⟩ (fun z hz => hl z (List.mem_cons_of_mem _ hz))
theorem foldV_take {size : Int} {f : OpT} {a : Int} {l : List Int} {k : Nat} (hk : k < l.length) : foldV size f a (l.take (k + 1)) = valOf size f [foldV size f a (l.take k), l[k]] := by
  unfold foldV
  rw [List.take_succ_eq_append_getElem hk, List.foldl_append]; rfl
set_option maxRecDepth 100000 in
set_option maxHeartbeats 4000000 in
theorem l06Fold_c (size : Int) (f : OpT) (z : Int) (m : List Int) (pb po : Nat) (v0 v1 va : Value) (w : World) (hf : Rd w [v0, v1] f) (hc1 : w.cell? ⟨pb, po + 1, none⟩ = some v1) (ha : Rd w [va] (z :: m)) (hok : opOk size f = true) (h2 : f.1 = 2) (hv : ∀ a, a ∈ z :: m → 0 ≤ a ∧ a ≤ size - 1) :
    Calls Tryz.prog 31 #[.int .i64 size, .pointer (some ⟨pb, po, none⟩), va] w fun e w' => e = .returned (.int .i64 (foldV size f z m)) ∧ Below w.heap.size w w' := by
  have hs := (opOk_get hok).1
  have HOK := Lib.hid hok
  have HF := Lib.hid hf
  have HH2 := Lib.hid h2
  have HV := Lib.hid hv
  obtain ⟨a, c, rfl, hra⟩ := rd_list ha
  have hb0 := (rdSl_len hra).2
  unfold maxLen at hb0
  have HA := Lib.hid ha
  obtain ⟨b, o, rfl, q0, _⟩ := rd_int_at ha 0 (by simp)
  simp only [List.getElem_cons_zero, Nat.add_zero] at q0
  have hlen : (z :: m).length = m.length + 1 := by simp
  rw [hlen] at hb0
  rw [hlen] at HA ⊢
  clear hok hf h2 hv ha hra hlen
  have hc1_ := cellL (St.start w).bel hc1
  clear hc1_
  have hc1_ := cellL (St.start w).bel hc1
  have q0_ := cellL (St.start w).bel q0
  go_enter Tryz.func31, Tryz.ntmps31
  go_wp2_with fail
  go_loopw [7, 8] (fun x i wl => ∃ (k : Nat) (X : Int), k ≤ m.length ∧ i = .int .i64 ((k : Int) + 1) ∧ x = .int .i64 X ∧ 0 ≤ X ∧ X ≤ size - 1 ∧ Hid (Below w.heap.size w wl) ∧ Hid (X = foldV size f z (m.take k))) (fun _ i _ => m.length + 1 - (intOf i).toNat)
  case atStart =>
    have := HV.out z (List.mem_cons_self ..)
    exact ⟨0, z, Nat.zero_le _, by simp, rfl, this.1, this.2, Below.refl _ _, rfl⟩
  case round =>
    obtain ⟨k, X, hk, rfl, rfl, hx0, hx1, hbl, hx⟩ := hrel
    have hsr := (St.start w).step hbl.out
    have hc1_ := cellL hsr.bel hc1
    have q0_ := cellL hsr.bel q0
    clear hbl
    by_cases hlt : k < m.length
    · obtain ⟨b', o', e1, q1, hIy⟩ := rd_int_at HA.out (k + 1) (by simp; omega)
      simp only [Option.some.injEq, Addr.mk.injEq, and_true] at e1
      obtain ⟨rfl, rfl⟩ := e1
      simp only [List.getElem_cons_succ] at q1 hIy
      have hy := HV.out m[k] (List.mem_cons_of_mem _ (List.getElem_mem hlt))
      have HT := Lib.hid (foldV_take (size := size) (f := f) (a := z) hlt)
      generalize m[k] = Y at *
      clear hc1_ q0_
      have hc1_ := cellL hsr.bel hc1
      have q0_ := cellL hsr.bel q0
      have q1_ := cellL hsr.bel q1
      clear hc1_ q0_ q1_
      have hc1_ := cellL hsr.bel hc1
      have q0_ := cellL hsr.bel q0
      have q1_ := cellL hsr.bel q1
      have hsz := (opOk_get HOK.out).1
      have HVV := Lib.hid (show ∀ a, a ∈ [X, Y] → 0 ≤ a ∧ a ≤ size - 1 by intro a ha; simp at ha; rcases ha with rfl | rfl; exact ⟨hx0, hx1⟩; exact hy)
      have HIX := Lib.hid (i64_of X hx0 (by omega))
      have HIY := Lib.hid hIy
      have HN := Lib.hid (show valOf size f [X, Y] = foldV size f z (m.take (k + 1)) by rw [HT.out, hx.out])
      obtain ⟨g1, g2⟩ : 0 ≤ valOf size f [X, Y] ∧ valOf size f [X, Y] ≤ size - 1 := by
        obtain ⟨_, _, _, _, g1, g2, _⟩ := valOf_at (args := [X, Y]) HOK.out (by simp [HH2.out]) HVV.out
        exact ⟨g1, g2⟩
      clear hIy
      go_wp2_with fail
      have hs8 := hsr.alloc #[.int .i64 X, .int .i64 Y] 2 (n := wr.heap.size) (by simp)
      clear hc1_ q0_ q1_
      have k0_0 := hs8.cellAt 0 rfl 0 rfl
      have k0_1 := hs8.cellAt 0 rfl 1 rfl
      have hc1_ := cellL hs8.bel hc1
      have q0_ := cellL hs8.bel q0
      have q1_ := cellL hs8.bel q1
      go_wp2_with fail
      refine (l02Value_c size f [X, Y] pb po _ _ _ _ (Rd.mono HF.out hs8.bel) (cellL hs8.bel hc1) (rd_lit2 HIX.out HIY.out (hs8.cellAt 0 rfl 0 rfl) (hs8.cellAt 0 rfl 1 rfl)) HOK.out (by simp [HH2.out]) HVV.out).mono ?_
      rintro e w9 ⟨rfl, hbw9⟩
      have hz_w9 : wr.heap.size + 1 ≤ w9.heap.size := by have h9 := hbw9.size; (try simp at h9); omega
      have hs10 := hs8.step hbw9
      clear k0_0 k0_1 hc1_ q0_ q1_
      have k0_0 := hs10.cellAt 0 rfl 0 rfl
      have k0_1 := hs10.cellAt 0 rfl 1 rfl
      have hc1_ := cellL hs10.bel hc1
      have q0_ := cellL hs10.bel q0
      have q1_ := cellL hs10.bel q1
      generalize valOf size f [X, Y] = N at *
      go_wp2_with fail
      go_roundw
      case rel => exact ⟨k + 1, N, by omega, by go_num, rfl, g1, g2, hs10.bel, HN.out⟩
      case measure => simp [intOf]; omega
    · obtain rfl : k = m.length := by omega
      have HQ := Lib.hid (show X = foldV size f z m by rw [hx.out, List.take_length])
      go_wp2_with fail
      go_ret
      exact ⟨ret_int HQ.out, hsr.bel⟩
set_option maxRecDepth 100000 in
set_option maxHeartbeats 4000000 in
theorem folded_c (size : Int) (f : OpT) (z : Int) (m : List Int) (v0 v1 va : Value) (w : World) (hf : Rd w [v0, v1] f) (ha : Rd w [va] (z :: m)) (hok : opOk size f = true) (h2 : f.1 = 2) (hv : ∀ a, a ∈ z :: m → 0 ≤ a ∧ a ≤ size - 1) :
    Calls Tryz.prog 41 #[.int .i64 size, .agg #[v0, v1], va] w fun e w' => e = .returned (.int .i64 (foldV size f z m)) ∧ Below w.heap.size w w' := by
  have hs := (opOk_get hok).1
  have HOK := Lib.hid hok
  have HF := Lib.hid hf
  have HH2 := Lib.hid h2
  have HV := Lib.hid hv
  have zf := rd_cons rfl hf
  obtain ⟨e0, _⟩ := rd_i1 zf.1
  obtain ⟨af, cf, e1, _⟩ := rd_list zf.2
  subst e0 e1
  obtain ⟨a, c, rfl, hra⟩ := rd_list ha
  have hb0 := (rdSl_len hra).2
  unfold maxLen at hb0
  have hc0 := (rdSl_len hra).1
  have HA := Lib.hid ha
  obtain ⟨b, o, rfl, q0, _⟩ := rd_int_at ha 0 (by simp)
  simp only [List.getElem_cons_zero, Nat.add_zero] at q0
  have hlen : (z :: m).length = m.length + 1 := by simp
  rw [hlen] at hb0 hc0
  rw [hlen] at HA ⊢
  clear hok hf h2 hv ha hra hlen zf
  have q0_ := cellL (St.start w).bel q0
  have hs11 := (St.start w).alloc #[.int .i64 f.1, .slice af f.2.length cf] 48 (n := w.heap.size) (by simp)
  clear q0_
  have k0_0 := hs11.cellAt 0 rfl 0 rfl
  have k0_1 := hs11.cellAt 0 rfl 1 rfl
  have q0_ := cellL hs11.bel q0
  rcases (show c = 1 ∨ 2 ≤ c by omega) with rfl | hc2
  · obtain rfl : m = [] := List.length_eq_zero_iff.1 (by omega)
    simp only [List.length_nil, Nat.zero_add] at *
    go_enter Tryz.func41, Tryz.ntmps41
    go_wp2_with fail
    go_loopw [7, 16] (fun x i wl => x = .int .i64 z ∧ i = .int .i64 0 ∧ Hid (Below ((w.alloc (.cells #[.int .i64 f.1, .slice af f.2.length cf] 48))).heap.size ((w.alloc (.cells #[.int .i64 f.1, .slice af f.2.length cf] 48))) wl)) (fun _ _ _ => 0)
    case atStart => exact ⟨rfl, by simp, Below.refl _ _⟩
    case round =>
      obtain ⟨rfl, rfl, hbl⟩ := hrel
      have hbl2 := hbl.out
      have hz_wr : w.heap.size + 1 ≤ wr.heap.size := by have h9 := hbl2.size; (try simp at h9); omega
      have hs12 := hs11.step hbl2
      clear k0_0 k0_1 q0_
      have k0_0 := hs12.cellAt 0 rfl 0 rfl
      have k0_1 := hs12.cellAt 0 rfl 1 rfl
      have q0_ := cellL hs12.bel q0
      clear hbl2 hbl
      go_wp2_with fail
      go_ret
      exact ⟨rfl, hs12.bel⟩
  · have hc3 : ¬ c = 1 := by omega
    go_enter Tryz.func41, Tryz.ntmps41
    go_wp2_with fail
    go_loopw [7, 16] (fun x i wl => ∃ (k : Nat) (X : Int), k ≤ m.length ∧ i = .int .i64 k ∧ x = .int .i64 X ∧ 0 ≤ X ∧ X ≤ size - 1 ∧ Hid (Below ((w.alloc (.cells #[.int .i64 f.1, .slice af f.2.length cf] 48))).heap.size ((w.alloc (.cells #[.int .i64 f.1, .slice af f.2.length cf] 48))) wl) ∧ Hid (X = foldV size f z (m.take k))) (fun _ i _ => m.length - (intOf i).toNat)
    case atStart =>
      have := HV.out z (List.mem_cons_self ..)
      exact ⟨0, z, Nat.zero_le _, by simp, rfl, this.1, this.2, Below.refl _ _, rfl⟩
    case round =>
      obtain ⟨k, X, hk, rfl, rfl, hx0, hx1, hbl, hx⟩ := hrel
      have hbl2 := hbl.out
      have hz_wr : w.heap.size + 1 ≤ wr.heap.size := by have h9 := hbl2.size; (try simp at h9); omega
      have hs13 := hs11.step hbl2
      clear k0_0 k0_1 q0_
      have k0_0 := hs13.cellAt 0 rfl 0 rfl
      have k0_1 := hs13.cellAt 0 rfl 1 rfl
      have q0_ := cellL hs13.bel q0
      have HBL := Lib.hid hbl2
      clear hbl2 hbl
      by_cases hlt : k < m.length
      · obtain ⟨b', o', e1, q1, hIy⟩ := rd_int_at HA.out (k + 1) (by simp; omega)
        simp only [Option.some.injEq, Addr.mk.injEq, and_true] at e1
        obtain ⟨rfl, rfl⟩ := e1
        simp only [List.getElem_cons_succ] at q1 hIy
        rw [show o + (k + 1) = o + 1 + k by omega] at q1
        have hy := HV.out m[k] (List.mem_cons_of_mem _ (List.getElem_mem hlt))
        have HT := Lib.hid (foldV_take (size := size) (f := f) (a := z) hlt)
        generalize m[k] = Y at *
        clear k0_0 k0_1 q0_
        have k0_0 := hs13.cellAt 0 rfl 0 rfl
        have k0_1 := hs13.cellAt 0 rfl 1 rfl
        have q0_ := cellL hs13.bel q0
        have q1_ := cellL hs13.bel q1
        clear k0_0 k0_1 q0_ q1_
        have k0_0 := hs13.cellAt 0 rfl 0 rfl
        have k0_1 := hs13.cellAt 0 rfl 1 rfl
        have q0_ := cellL hs13.bel q0
        have q1_ := cellL hs13.bel q1
        have HVV := Lib.hid (show ∀ a, a ∈ [X, Y] → 0 ≤ a ∧ a ≤ size - 1 by intro a ha; simp at ha; rcases ha with rfl | rfl; exact ⟨hx0, hx1⟩; exact hy)
        have HIX := Lib.hid (i64_of X hx0 (by omega))
        have HIY := Lib.hid hIy
        have HN := Lib.hid (show valOf size f [X, Y] = foldV size f z (m.take (k + 1)) by rw [HT.out, hx.out])
        obtain ⟨g1, g2⟩ : 0 ≤ valOf size f [X, Y] ∧ valOf size f [X, Y] ≤ size - 1 := by
          obtain ⟨_, _, _, _, g1, g2, _⟩ := valOf_at (args := [X, Y]) HOK.out (by simp [HH2.out]) HVV.out
          exact ⟨g1, g2⟩
        clear hIy
        go_wp2_with fail
        have hs14 := hs13.alloc #[.int .i64 X, .int .i64 Y] 2 (n := wr.heap.size) (by simp)
        have HBL_15 := Lib.hid (HBL.out.trans (((belowA _ (.cells #[.int .i64 X, .int .i64 Y] 2))).mono HBL.out.size))
        clear HBL
        clear k0_0 k0_1 q0_ q1_
        have k0_0 := hs14.cellAt 0 rfl 0 rfl
        have k0_1 := hs14.cellAt 0 rfl 1 rfl
        have k1_0 := hs14.cellAt 1 rfl 0 rfl
        have k1_1 := hs14.cellAt 1 rfl 1 rfl
        have q0_ := cellL hs14.bel q0
        have q1_ := cellL hs14.bel q1
        go_wp2_with fail
        refine (at_c size f [X, Y] _ _ _ _ (Rd.mono HF.out hs14.bel) (rd_lit2 HIX.out HIY.out (hs14.cellAt 1 rfl 0 rfl) (hs14.cellAt 1 rfl 1 rfl)) HOK.out (by simp [HH2.out]) HVV.out).mono ?_
        rintro e w16 ⟨rfl, hbw16⟩
        have hz_w16 : wr.heap.size + 1 ≤ w16.heap.size := by have h9 := hbw16.size; (try simp at h9); omega
        have hs17 := hs14.step hbw16
        have HBL_18 := Lib.hid (HBL_15.out.trans ((hbw16).mono HBL_15.out.size))
        clear HBL_15
        clear k0_0 k0_1 k1_0 k1_1 q0_ q1_
        have k0_0 := hs17.cellAt 0 rfl 0 rfl
        have k0_1 := hs17.cellAt 0 rfl 1 rfl
        have k1_0 := hs17.cellAt 1 rfl 0 rfl
        have k1_1 := hs17.cellAt 1 rfl 1 rfl
        have q0_ := cellL hs17.bel q0
        have q1_ := cellL hs17.bel q1
        generalize valOf size f [X, Y] = N at *
        go_wp2_with fail
        go_roundw
        case rel => exact ⟨k + 1, N, by omega, by go_num, rfl, g1, g2, HBL_18.out, HN.out⟩
        case measure => simp [intOf]; omega
      · obtain rfl : k = m.length := by omega
        have HQ := Lib.hid (show X = foldV size f z m by rw [hx.out, List.take_length])
        go_wp2_with fail
        go_ret
        exact ⟨ret_int HQ.out, hs13.bel⟩

end Go.Proofs.YtbbmadmnmlljmaaGreat
