/-
  CONTRACTS: the number of a tuple, the value of an operation, folding; both sides.
-/
import Derived.Test.YtoblfnoaepbhfaaTmplT
namespace Go.Proofs.Ytoblfnoaepbhfaa
open Go.RowKit Go.Shelf Go.IntWalk
open Rep (Rd Own sz)
set_option linter.unusedSimpArgs false
set_option linter.unusedVariables false

theorem codeL_take {size : Int} {l : List Int} {k : Nat} (hk : k < l.length) : codeL size (l.take (k + 1)) = codeL size (l.take k) * size + l[k] := by
  rw [List.take_succ_eq_append_getElem hk, codeL_snoc]
theorem codeL_step {size : Int} (hs : 1 ≤ size) {l : List Int} (hv : ∀ a, a ∈ l → 0 ≤ a ∧ a ≤ size - 1) (hp : size ^ l.length ≤ 1000000000000) {k : Nat} (hk : k < l.length) :
    0 ≤ codeL size (l.take k) * size ∧ codeL size (l.take k) * size ≤ 1000000000000 ∧ 0 ≤ codeL size (l.take k) * size + l[k] ∧ codeL size (l.take k) * size + l[k] ≤ 1000000000000 ∧ 0 ≤ l[k] := by
  have ha := hv _ (List.getElem_mem hk)
  have h1 := codeL_bd hs (l.take k) (fun a h => hv a (List.mem_of_mem_take h))
  have h2 := codeL_bd hs (l.take (k + 1)) (fun a h => hv a (List.mem_of_mem_take h))
  rw [codeL_take hk] at h2
  have h3 : size ^ (l.take (k + 1)).length ≤ size ^ l.length := pow_le_of hs (by rw [List.length_take]; omega)
  have h4 : 0 ≤ codeL size (l.take k) * size := Int.mul_nonneg h1.1 (by omega)
  omega
set_option maxRecDepth 100000 in
set_option maxHeartbeats 1000000 in
theorem indexOf_c (size : Int) (l : List Int) (v : Value) (w : World) (r : Rd w [v] l) (hs : 1 ≤ size) (hv : ∀ a, a ∈ l → 0 ≤ a ∧ a ≤ size - 1) (hp : size ^ l.length ≤ 1000000000000) :
    Calls Try.prog 132 #[.int .i64 size, v] w fun e w' => e = .returned (.int .i64 (codeL size l)) ∧ w = w' := by
  obtain ⟨a, c, rfl, h0⟩ := rd_list r
  have hb0 := (rdSl_len h0).2
  unfold maxLen at hb0
  have HR := Lib.hid r
  have HV := Lib.hid hv
  have HPP := Lib.hid hp
  clear r h0 hv hp
  go_enter Try.func132, Try.ntmps132
  go_wp2_with fail
  go_loop [5, 10] (fun q i => ∃ (k : Nat) (Q : Int), k ≤ l.length ∧ i = .int .i64 k ∧ q = .int .i64 Q ∧ Hid (Q = codeL size (l.take k))) (fun _ i => l.length - (intOf i).toNat)
  case atStart => exact ⟨0, 0, Nat.zero_le _, rfl, rfl, rfl⟩
  case round =>
    obtain ⟨k, Q, hk, rfl, rfl, hq⟩ := hrel
    by_cases hlt : k < l.length
    · obtain ⟨b, o, rfl, q0, _⟩ := rd_int_at HR.out k hlt
      have hst := codeL_step hs HV.out HPP.out hlt
      have HT := Lib.hid (codeL_take (size := size) hlt)
      rw [← hq.out] at hst
      have HQ2 := Lib.hid (show Q * size + l[k] = codeL size (l.take (k + 1)) by rw [HT.out, hq.out])
      clear HT
      generalize l[k] = A at *
      obtain ⟨g1, g2, g3, g4, g5⟩ := hst
      go_wp2_with fail
      go_round
      case rel => exact ⟨k + 1, Q * size + A, by omega, by go_num, rfl, HQ2.out⟩
      case measure => simp [intOf]; omega
    · obtain rfl : k = l.length := by omega
      have HQ2 := Lib.hid (show Q = codeL size l by rw [hq.out, List.take_length])
      go_wp2_with fail
      go_ret
      exact ⟨ret_int HQ2.out, rfl⟩
set_option maxRecDepth 100000 in
set_option maxHeartbeats 1000000 in
theorem l01Code_c (size : Int) (l : List Int) (v : Value) (w : World) (r : Rd w [v] l) (hs : 1 ≤ size) (hv : ∀ a, a ∈ l → 0 ≤ a ∧ a ≤ size - 1) (hp : size ^ l.length ≤ 1000000000000) :
    Calls Try.prog 123 #[.int .i64 size, v] w fun e w' => e = .returned (.int .i64 (codeL size l)) ∧ w = w' := by
  obtain ⟨a, c, rfl, h0⟩ := rd_list r
  have hb0 := (rdSl_len h0).2
  unfold maxLen at hb0
  have HR := Lib.hid r
  have HV := Lib.hid hv
  have HPP := Lib.hid hp
  clear r h0 hv hp
  go_enter Try.func123, Try.ntmps123
  go_wp2_with fail
  go_loop [5, 6] (fun q i => ∃ (k : Nat) (Q : Int), k ≤ l.length ∧ i = .int .i64 k ∧ q = .int .i64 Q ∧ Hid (Q = codeL size (l.take k))) (fun _ i => l.length - (intOf i).toNat)
  case atStart => exact ⟨0, 0, Nat.zero_le _, rfl, rfl, rfl⟩
  case round =>
    obtain ⟨k, Q, hk, rfl, rfl, hq⟩ := hrel
    by_cases hlt : k < l.length
    · obtain ⟨b, o, rfl, q0, _⟩ := rd_int_at HR.out k hlt
      have hst := codeL_step hs HV.out HPP.out hlt
      have HT := Lib.hid (codeL_take (size := size) hlt)
      rw [← hq.out] at hst
      have HQ2 := Lib.hid (show Q * size + l[k] = codeL size (l.take (k + 1)) by rw [HT.out, hq.out])
      clear HT
      generalize l[k] = A at *
      obtain ⟨g1, g2, g3, g4, g5⟩ := hst
      go_wp2_with fail
      go_round
      case rel => exact ⟨k + 1, Q * size + A, by omega, by go_num, rfl, HQ2.out⟩
      case measure => simp [intOf]; omega
    · obtain rfl : k = l.length := by omega
      have HQ2 := Lib.hid (show Q = codeL size l by rw [hq.out, List.take_length])
      go_wp2_with fail
      go_ret
      exact ⟨ret_int HQ2.out, rfl⟩
/-- The value of an operation at its arguments. -/
def valOf (size : Int) (f : OpT) (args : List Int) : Int := f.2.getD (codeL size args).toNat 0
theorem valOf_at {size : Int} {f : OpT} {args : List Int} (hok : opOk size f = true) (hlen : (args.length : Int) = f.1) (hv : ∀ a, a ∈ args → 0 ≤ a ∧ a ≤ size - 1) :
    ∃ k : Nat, ∃ hk : k < f.2.length, codeL size args = (k : Int) ∧ valOf size f args = f.2[k] ∧ 0 ≤ valOf size f args ∧ valOf size f args ≤ size - 1 ∧ f.2.length ≤ 64 ∧ size ^ args.length ≤ 64 := by
  obtain ⟨hs, har, ht⟩ := opOk_get hok
  have h1 := codeL_bd hs.1 args hv
  have h2 := valsOk_len ht
  have h3 := pow64 hs har
  have h4 : args.length = f.1.toNat := by omega
  rw [h4] at h1
  refine ⟨(codeL size args).toNat, by omega, by omega, ?_⟩
  have hk : (codeL size args).toNat < f.2.length := by omega
  have e : valOf size f args = f.2[(codeL size args).toNat] := by simp [valOf, List.getD, hk]
  have hv2 : ∀ a, a ∈ f.2 → 0 ≤ a ∧ a ≤ size - 1 := by
    simp only [valsOk, Bool.and_eq_true, List.all_eq_true] at ht
    exact fun a h => inB_true (ht.2 a h)
  have h5 := hv2 _ (List.getElem_mem hk)
  rw [← e] at h5
  exact ⟨e, h5.1, h5.2, by omega, by rw [h4]; omega⟩
set_option maxRecDepth 100000 in
set_option maxHeartbeats 2000000 in
theorem l02Value_c (size : Int) (f : OpT) (args : List Int) (pb po : Nat) (v0 v1 va : Value) (w : World) (hf : Rd w [v0, v1] f) (hc1 : w.cell? ⟨pb, po + 1, none⟩ = some v1) (ha : Rd w [va] args) (hok : opOk size f = true) (hlen : (args.length : Int) = f.1) (hv : ∀ a, a ∈ args → 0 ≤ a ∧ a ≤ size - 1) :
    Calls Try.prog 154 #[.int .i64 size, .pointer (some ⟨pb, po, none⟩), va] w fun e w' => e = .returned (.int .i64 (valOf size f args)) ∧ Below w.heap.size w w' := by
  obtain ⟨k, hk, e1, e2, _, _, e5, e6⟩ := valOf_at hok hlen hv
  have hs := (opOk_get hok).1
  obtain ⟨ar, l⟩ := f
  have HCK := Lib.hid e1
  have HE2 := Lib.hid e2
  have HV := Lib.hid hv
  have HP6 := Lib.hid e6
  have z := rd_cons rfl hf
  obtain ⟨rfl, _⟩ := rd_i1 z.1
  have HRL := Lib.hid z.2
  obtain ⟨a, c, rfl, _⟩ := rd_list HRL.out
  simp only at hk e5 hlen
  obtain ⟨b, o, rfl, q0, _⟩ := rd_int_at HRL.out k hk
  obtain ⟨a2, c2, rfl, _⟩ := rd_list ha
  have HA := Lib.hid ha
  clear hf z e1 e2 hv e6 ha hlen hok
  have q0_ := cellL (St.start w).bel q0
  clear q0_
  have q0_ := cellL (St.start w).bel q0
  have hc1_ := cellL (St.start w).bel hc1
  go_enter Try.func154, Try.ntmps154
  have hkl : (k : Int) < l.length := by omega
  have ejw : IntKind.i64.wrap (k : Int) = (k : Int) := i64_in _ (by omega)
  go_upto_region 1 with fail
  refine wp_region_noPanic (wp_region_tree4 (fun w' => w'.cell? ⟨b, o + k, none⟩ = some (.int .i64 l[k]) ∧ w'.cell? ⟨pb, po + 1, none⟩ = some (.slice (some ⟨b, o, none⟩) l.length c)) (.float 0 (.float 1 (.float 2 (.float 3 (.float 4 (.float 5 (.hard 6 (.float 7 (.float 8 (.float 9 .nil)))))))))) (by kernel_rfl) (by kernel_rfl) (by kernel_rfl) rfl ?_ (fun _ _ _ _ _ h => h) ?_)
  · exact ⟨cellL ((St.start w).drew).bel q0, cellL ((St.start w).drew).bel hc1⟩
  have hs1 := (St.start w).drew
  clear q0_ hc1_
  have hz_wd2 : w.heap.size ≤ (w.drew).heap.size := by simp
  generalize hgen_wd2 : w.drew = wd2 at *
  have HG_wd2 := Lib.hid hgen_wd2
  clear hgen_wd2
  (repeat (first | (apply t4_skip rfl (by rfl); try simp only [Act.put, List.setIfInBounds_toArray, List.set_cons_zero, List.set_cons_succ]) | (apply t4_float rfl (by rfl); (· (intro w' hS; go_simp <;> with_reducible rfl)); (try simp only [Act.put, List.setIfInBounds_toArray, List.set_cons_zero, List.set_cons_succ]))))
  refine t4_hard rfl (by rfl) (fun K hK => ?_)
  go_wp2_with (go_at_call 123; refine (l01Code_c size args _ _ (Rd.mono HA.out hs1.bel) hs.1 HV.out (by have := HP6.out; omega)).mono ?_; rintro e w3 ⟨rfl, rfl, rfl⟩)
  rw [HCK.out]
  refine ⟨⟨cellL hs1.bel q0, cellL hs1.bel hc1⟩, ?_⟩
  (repeat (first | (apply t4_skip rfl (by rfl); try simp only [Act.put, List.setIfInBounds_toArray, List.set_cons_zero, List.set_cons_succ]) | (apply t4_float rfl (by rfl); (· (intro w' hS; go_simp <;> with_reducible rfl)); (try simp only [Act.put, List.setIfInBounds_toArray, List.set_cons_zero, List.set_cons_succ]))))
  have q0_ := cellL hs1.bel q0
  have hc1_ := cellL hs1.bel hc1
  refine t4_nil (NoPanic.normal ?_)
  go_wp2_with fail
  go_ret
  exact ⟨ret_int HE2.out.symm, hs1.bel⟩
theorem rd_lit2 {w : World} {b : Nat} {x y : Int} (hx : I64 x) (hy : I64 y) (h0 : w.cell? ⟨b, 0, none⟩ = some (.int .i64 x)) (h1 : w.cell? ⟨b, 1, none⟩ = some (.int .i64 y)) : Rd w [.slice (some ⟨b, 0, none⟩) 2 2] [x, y] := by
  refine ⟨_, _, rfl, by simp, by decide, fun i hi => ?_⟩
  match i, hi with
  | 0, _ =>
    refine ⟨b, 0, [.int .i64 x], rfl, ⟨rfl, hx⟩, fun j hj => ?_⟩
    obtain rfl : j = 0 := by simp at hj; omega
    simpa using h0
  | 1, _ =>
    refine ⟨b, 0, [.int .i64 y], rfl, ⟨rfl, hy⟩, fun j hj => ?_⟩
    obtain rfl : j = 0 := by simp at hj; omega
    simpa [sz] using h1
/-- Folding: the values from the left, two at a time. -/
def foldV (size : Int) (f : OpT) (a : Int) (l : List Int) : Int := l.foldl (fun x y => valOf size f [x, y]) a
theorem foldV_in {size : Int} {f : OpT} (hok : opOk size f = true) (h2 : f.1 = 2) : ∀ (l : List Int) (a : Int), (0 ≤ a ∧ a ≤ size - 1) → (∀ y, y ∈ l → 0 ≤ y ∧ y ≤ size - 1) → 0 ≤ foldV size f a l ∧ foldV size f a l ≤ size - 1
  | [], a, ha, _ => ha
  | y :: l, a, ha, hl => by
    have hy := hl y (List.mem_cons_self ..)
    obtain ⟨_, _, _, _, g1, g2, _⟩ := valOf_at (args := [a, y]) hok (by simp [h2]) (by intro z hz; simp at hz; rcases hz with rfl | rfl <;> assumption)
    exact foldV_in hok h2 l (valOf size f [a, y]) ⟨g1, g2⟩ (fun z hz => hl z (List.mem_cons_of_mem _ hz))
theorem foldV_take {size : Int} {f : OpT} {a : Int} {l : List Int} {k : Nat} (hk : k < l.length) : foldV size f a (l.take (k + 1)) = valOf size f [foldV size f a (l.take k), l[k]] := by
  unfold foldV
  rw [List.take_succ_eq_append_getElem hk, List.foldl_append]; rfl

end Go.Proofs.Ytoblfnoaepbhfaa
