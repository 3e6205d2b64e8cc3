/-
  CONTRACTS: all answers of a system, the reference's side.
-/
import Derived.Test.YtkbeihkjhmillaaAnswers
import Derived.Test.YtkbeihkjhmillaaZeros
namespace Go.Proofs.Ytkbeihkjhmillaa
open Go.RowKit Go.Shelf Go.IntWalk
open Rep (Rd Own sz)
set_option linter.unusedSimpArgs false
set_option linter.unusedVariables false

def stopOne (p : Int) (v : List Int) (m : Nat) (e : Eqn) : Bool := decide (lastTo e.1 e.1.length < (v.length : Int)) && !holdsE p (v ++ List.replicate m 0) e
theorem stopE_one (p : Int) (eqs : List Eqn) (v : List Int) (m : Nat) : stopE p eqs v m = eqs.any (stopOne p v m) := rfl
theorem ansE_stop {p : Nat} {eqs : List Eqn} {v : List Int} {m : Nat} (h : stopE p eqs v m = true) : ansE p eqs m v = [] := by
  cases m <;> (unfold ansE; rw [if_pos h])
theorem ansE_zero {p : Nat} {eqs : List Eqn} {v : List Int} (h : stopE p eqs v 0 = false) : ansE p eqs 0 v = [v] := by
  unfold ansE; rw [if_neg (by rw [h]; decide)]
theorem ansE_succ {p : Nat} {eqs : List Eqn} {v : List Int} {m : Nat} (h : stopE p eqs v (m + 1) = false) : ansE p eqs (m + 1) v = (List.range p).flatMap (fun (a : Nat) => ansE p eqs m (v ++ [(a : Int)])) := by
  conv => lhs; unfold ansE
  rw [if_neg (by rw [h]; decide)]
def ansUp (p : Nat) (eqs : List Eqn) (m : Nat) (v : List Int) (k : Nat) : List (List Int) := (List.range k).flatMap (fun (a : Nat) => ansE p eqs m (v ++ [(a : Int)]))
theorem ansUp_succ (p : Nat) (eqs : List Eqn) (m : Nat) (v : List Int) (k : Nat) : ansUp p eqs m v (k + 1) = ansUp p eqs m v k ++ ansE p eqs m (v ++ [(k : Int)]) := by
  unfold ansUp
  rw [List.range_succ, List.flatMap_append]
  simp
theorem ansUp_length {p : Nat} {eqs : List Eqn} {U : Nat} (hU : ∀ e, e ∈ eqs → e.1.length = U) (m : Nat) (v : List Int) (hv : v.length + 1 + m = U) : ∀ k, (ansUp p eqs m v k).length ≤ k * p ^ m
  | 0 => by simp [ansUp]
  | k + 1 => by
    rw [ansUp_succ, List.length_append, Nat.add_mul, Nat.one_mul]
    have h1 := ansUp_length (p := p) hU m v hv k
    have h2 := ansE_length (p := p) hU m (v ++ [(k : Int)]) (by simp; omega)
    omega
def AnsSpec (p U : Nat) (eqs : List Eqn) (sb : Nat) (w0 : World) (m : Nat) : Prop :=
  ∀ (v : List Int) (out : List (List Int)) (av ao : Option Addr) (nv no cv co : Nat) (w : World) (A V : Nat → Prop), nv = v.length → no = out.length → v.length + m = U → (∀ a, a ∈ v → 0 ≤ a ∧ a < p) → out.length + 3 ^ m ≤ 1000000 → Below w0.heap.size w0 w →
    (∀ k, A k → w0.heap.size ≤ k ∧ k < w.heap.size) → Ip V w [.slice av nv cv] v → (∀ k, V k → ¬ A k) → AccP A 25 w (.slice ao no co) out →
    Calls Try.prog 98 #[.pointer (some ⟨sb, 0, none⟩), .slice av nv cv, .slice ao no co] w fun e w' => ∃ a n c, e = .returned (.slice a n c) ∧ n = (out ++ ansE p eqs m v).length ∧ AccP (fun k => A k ∨ w.heap.size ≤ k) 25 w' (.slice a n c) (out ++ ansE p eqs m v) ∧ ButP A w w'
set_option maxRecDepth 100000 in
set_option maxHeartbeats 16000000 in
theorem ans_step (p U : Nat) (eqs : List Eqn) (sb : Nat) (w0 : World) (a : Option Addr) (c : Nat) (hl : Rd w0 [.slice a eqs.length c] eqs) (c0 : w0.cell? ⟨sb, 0, none⟩ = some (.int .i64 p)) (c1 : w0.cell? ⟨sb, 1, none⟩ = some (.int .i64 U)) (c2 : w0.cell? ⟨sb, 2, none⟩ = some (.slice a eqs.length c))
    (hp2 : 2 ≤ p) (hp3 : p ≤ 3) (hu1 : 1 ≤ U) (hu : U ≤ 12) (hel : eqs.length ≤ 1000) (he : ∀ e, e ∈ eqs → eqnOk p U e = true) (m : Nat) (ih : ∀ m', m' < m → AnsSpec p U eqs sb w0 m') : AnsSpec p U eqs sb w0 m := by
  intro v out av ao nv no cv co w A V hnv hno' hvm hv hout hb0 hA hV hVA hac
  subst hnv hno'
  have HL := Lib.hid (Rd.mono hl hb0)
  have d0 := cellL hb0 c0
  have d1 := cellL hb0 c1
  have d2 := cellL hb0 c2
  have HE := Lib.hid he
  have HLE := Lib.hid (show ∀ e, e ∈ eqs → e.1.length = U from fun e h => (eqn_good (he e h)).1)
  have HV := Lib.hid hV
  have HACC := Lib.hid hac
  have HVV := Lib.hid hv
  have HIH := Lib.hid ih
  have HA := Lib.hid hA
  have HVA := Lib.hid hVA
  have HB0 := Lib.hid hb0
  have hlen := hac.len
  have hvU : (v.length : Int) ≤ U := by omega
  have HVM := Lib.hid hvm
  have HC0 := Lib.hid c0
  have HC1 := Lib.hid c1
  have HC2 := Lib.hid c2
  have HVO := Lib.hid (show valsOk p (v ++ List.replicate m 0) U = true by
    unfold valsOk
    rw [Bool.and_eq_true, decide_eq_true_eq, List.all_eq_true]
    refine ⟨by simp; omega, fun b hb => inB_mk ?_⟩
    rcases List.mem_append.1 hb with h | h
    · have := hv b h; omega
    · have := List.eq_of_mem_replicate h; omega)
  clear hl c0 c1 c2 he hV hac hv ih hA hVA hb0 hlen hvm
  have d0_ := cellL (St.start w).bel d0
  clear d0_
  have d0_ := cellL (St.start w).bel d0
  have d1_ := cellL (St.start w).bel d1
  clear d0_ d1_
  have d0_ := cellL (St.start w).bel d0
  have d1_ := cellL (St.start w).bel d1
  have d2_ := cellL (St.start w).bel d2
  go_enter Try.func98, Try.ntmps98
  go_wp2_with fail
  go_loopw [8] (fun i wl => ∃ k : Nat, k ≤ eqs.length ∧ i = .int .i64 k ∧ Hid (Below w.heap.size w wl) ∧ Hid (∀ j (hj : j < eqs.length), j < k → stopOne p v m eqs[j] = false)) (fun i _ => eqs.length - (intOf i).toNat)
  case atStart => exact ⟨0, Nat.zero_le _, rfl, Below.refl _ _, fun j _ hj => absurd hj (Nat.not_lt_zero _)⟩
  case round =>
    clear d0_ d1_ d2_
    obtain ⟨k, hk, rfl, hbl, hno⟩ := hrel
    have hsr := (St.start w).step hbl.out
    have HBL := hbl
    have d0_ := cellL hsr.bel d0
    have d1_ := cellL hsr.bel d1
    have d2_ := cellL hsr.bel d2
    by_cases hlt : k < eqs.length
    · obtain ⟨bl, ol, u0, u1, rfl, q0, q1, hx⟩ := rd_two_at rfl HL.out k hlt
      have zx := rd_cons rfl hx
      obtain ⟨ae, ce, ee, _⟩ := rd_list zx.1
      obtain ⟨e1, hI1⟩ := rd_i1 zx.2
      have HLEN := Lib.hid (HLE.out _ (List.getElem_mem hlt))
      rw [HLEN.out] at ee
      subst ee e1
      have HX := Lib.hid hx
      have HEL := Lib.hid (Rd.mono zx.1 hbl.out)
      have HEK := Lib.hid (HE.out _ (List.getElem_mem hlt))
      have HSO := Lib.hid (show stopOne p v m eqs[k] = (decide (lastTo eqs[k].1 U < (v.length : Int)) && !holdsE p (v ++ List.replicate m 0) eqs[k]) by unfold stopOne; rw [HLEN.out])
      clear hx zx
      clear d0_ d1_ d2_
      have d0_ := cellL hsr.bel d0
      have d1_ := cellL hsr.bel d1
      have d2_ := cellL hsr.bel d2
      have q0_ := cellL hsr.bel q0
      clear d0_ d1_ d2_ q0_
      have d0_ := cellL hsr.bel d0
      have d1_ := cellL hsr.bel d1
      have d2_ := cellL hsr.bel d2
      have q0_ := cellL hsr.bel q0
      have q1_ := cellL hsr.bel q1
      have hkl : (k : Int) < eqs.length := by omega
      go_wp2_with fail
      obtain ⟨wo, hwo⟩ : ∃ x, x = wr := ⟨_, rfl⟩
      subst hwo
      go_loop [9, 10] (fun la i => ∃ k2 : Nat, k2 ≤ U ∧ i = .int .i64 k2 ∧ la = .int .i64 (lastTo eqs[k].1 k2)) (fun _ i => U - (intOf i).toNat)
      case atStart => exact ⟨0, Nat.zero_le _, rfl, rfl⟩
      case round =>
        obtain ⟨k2, hk2, rfl, rfl⟩ := hrel
        by_cases hl2 : k2 < U
        · obtain ⟨b3, o3, eq3, t0, t1⟩ := rd_int_at HEL.out k2 (by rw [HLEN.out]; exact hl2)
          subst eq3
          have hlb := lastTo_bd eqs[k].1 k2
          have HLS := Lib.hid (show lastTo eqs[k].1 (k2 + 1) = if eqs[k].1[k2]'(by rw [HLEN.out]; exact hl2) = 0 then lastTo eqs[k].1 k2 else (k2 : Int) by
            rw [lastTo]
            have h9 := HLEN.out
            simp only [List.getD, List.getElem?_eq_getElem (show k2 < eqs[k].1.length by omega), Option.getD_some])
          generalize eqs[k].1[k2]'(by rw [HLEN.out]; exact hl2) = NN at *
          have hk2U : (k2 : Int) < U := by omega
          by_cases hz : NN = 0
          · have hz2 : (NN != 0) = false := by simp [hz]
            have HZ := Lib.hid hz
            clear hz
            go_wp2_with fail
            go_round
            case rel => exact ⟨k2 + 1, hl2, by go_num, by rw [HLS.out, if_pos HZ.out]⟩
            case measure => simp [intOf]; omega
          · have hz2 : (NN != 0) = true := by simp [hz]
            have HZ := Lib.hid hz
            clear hz
            go_wp2_with fail
            go_round
            case rel => exact ⟨k2 + 1, hl2, by go_num, by rw [HLS.out, if_neg HZ.out]⟩
            case measure => simp [intOf]; omega
        · obtain rfl : U = k2 := by omega
          have hlb := lastTo_bd eqs[k].1 U
          by_cases hst : lastTo eqs[k].1 U < (v.length : Int)
          · have HUM := Lib.hid (show IntKind.i64.wrap ((U : Int) - (v.length : Int)) = m by rw [IntKind.wrap_i64]; have := HVM.out; omega)
            have hszw := hsr.hi
            go_upto_region 11 with fail
            refine wp_region_noPanic (wp_region_tree4 (fun w' => w'.cell? ⟨sb, 0, none⟩ = some (.int .i64 p) ∧ w'.cell? ⟨sb, 1, none⟩ = some (.int .i64 U) ∧ w'.cell? ⟨sb, 2, none⟩ = some (.slice (some ⟨bl, ol, none⟩) eqs.length c) ∧ w'.cell? ⟨bl, ol + k * 2, none⟩ = some (.slice ae U ce) ∧ w'.cell? ⟨bl, ol + k * 2 + 1, none⟩ = some (.int .i64 eqs[k].2)) (.float 0 (.float 1 (.float 2 (.float 3 (.float 4 (.float 5 (.float 6 (.float 7 (.float 8 (.float 9 (.float 10 (.float 11 (.float 12 (.float 13 (.float 14 (.float 16 (.float 17 (.float 18 (.float 19 (.float 20 (.float 21 (.hard 15 (.hard 22 (.hard 23 (.float 24 (.float 25 .nil)))))))))))))))))))))))))) (by kernel_rfl) (by kernel_rfl) (by kernel_rfl) rfl ?_ (fun _ _ _ _ _ h => h) ?_)
            · exact ⟨cellL (hsr.drew).bel d0, cellL (hsr.drew).bel d1, cellL (hsr.drew).bel d2, cellL (hsr.drew).bel q0, cellL (hsr.drew).bel q1⟩
            have hs1 := hsr.drew
            have HBL_2 := Lib.hid (HBL.out.trans (((belowD _)).mono HBL.out.size))
            clear HBL
            clear d0_ d1_ d2_ q0_ q1_
            have hz_wd3 : wo.heap.size ≤ (wo.drew).heap.size := by simp
            generalize hgen_wd3 : wo.drew = wd3 at *
            have HG_wd3 := Lib.hid hgen_wd3
            clear hgen_wd3
            (repeat (first | (apply t4_skip rfl (by rfl); try simp only [Act.put, List.setIfInBounds_toArray, List.set_cons_zero, List.set_cons_succ]) | (apply t4_float rfl (by rfl); (· (intro w' hS; go_simp <;> with_reducible rfl)); (try simp only [Act.put, List.setIfInBounds_toArray, List.set_cons_zero, List.set_cons_succ]))))
            refine t4_hard rfl (by rfl) (fun K hK => ?_)
            go_wp2_with (go_at_call 122; refine (l00Own_c v _ _ (Ip.mono HV.out hs1.bel).rd (by omega)).mono ?_; rintro e w4 ⟨v4, rfl, hA4, hbw4⟩)
            have hz_w4 : wd3.heap.size ≤ w4.heap.size := by have h9 := hbw4.size; (try simp at h9); omega
            have hs5 := hs1.step hbw4
            have HBL_6 := Lib.hid (HBL_2.out.trans ((hbw4).mono HBL_2.out.size))
            clear HBL_2
            obtain ⟨a4, c4, rfl, _⟩ := hA4.len
            have HA4 := Lib.hid hA4
            clear hA4
            refine ⟨⟨cellL hs5.bel d0, cellL hs5.bel d1, cellL hs5.bel d2, cellL hs5.bel q0, cellL hs5.bel q1⟩, ?_⟩
            (repeat (first | (apply t4_skip rfl (by rfl); try simp only [Act.put, List.setIfInBounds_toArray, List.set_cons_zero, List.set_cons_succ]) | (apply t4_float rfl (by rfl); (· (intro w' hS; go_simp <;> with_reducible rfl)); (try simp only [Act.put, List.setIfInBounds_toArray, List.set_cons_zero, List.set_cons_succ]))))
            refine t4_hard rfl (by rfl) (fun K hK => ?_)
            refine wp_append_zeros _ _ _ _ _ rfl E_ints rfl Try.underlying2 rfl HA4.out (by omega) m (by rw [← HUM.out]; rfl) (by have := HVM.out; omega) ?_
            intro a9 c9 w9 hrd9 hB9 hK9
            have HRD9 := Lib.hid hrd9
            have hs9 := hs5.stepB (hB9.mono (by omega))
            have HBL9 := Lib.hid (HBL_6.out.trans (hB9.mono (by omega)))
            clear hrd9 hB9 hK9
            clear HBL_6
            have HBL := HBL9
            clear HBL9
            refine hK _ _ ⟨⟨cellL hs9.bel d0, cellL hs9.bel d1, cellL hs9.bel d2, cellL hs9.bel q0, cellL hs9.bel q1⟩, ?_⟩
            (repeat (first | (apply t4_skip rfl (by rfl); try simp only [Act.put, List.setIfInBounds_toArray, List.set_cons_zero, List.set_cons_succ]) | (apply t4_float rfl (by rfl); (· (intro w' hS; go_simp <;> with_reducible rfl)); (try simp only [Act.put, List.setIfInBounds_toArray, List.set_cons_zero, List.set_cons_succ]))))
            refine t4_hard rfl (by rfl) (fun K hK => ?_)
            go_wp2_with (go_at_call 106; refine (l07Holds_c p U eqs[k] (v ++ List.replicate m 0) _ _ _ _ _ _ (Rd.mono HX.out hs9.bel) HRD9.out (cellL hs9.bel q0) (cellL hs9.bel q1) (by omega) (by omega) (by omega) HEK.out HVO.out).mono ?_; rintro e w7 ⟨rfl, nw7, rfl⟩)
            have hs8 := hs9.drewN nw7
            have HBL_9 := Lib.hid (HBL.out.trans (((drewN_below _ nw7)).mono HBL.out.size))
            clear HBL
            refine ⟨⟨cellL hs8.bel d0, cellL hs8.bel d1, cellL hs8.bel d2, cellL hs8.bel q0, cellL hs8.bel q1⟩, ?_⟩
            (repeat (first | (apply t4_skip rfl (by rfl); try simp only [Act.put, List.setIfInBounds_toArray, List.set_cons_zero, List.set_cons_succ]) | (apply t4_float rfl (by rfl); (· (intro w' hS; go_simp <;> with_reducible rfl)); (try simp only [Act.put, List.setIfInBounds_toArray, List.set_cons_zero, List.set_cons_succ]))))
            have d0_ := cellL hs8.bel d0
            have d1_ := cellL hs8.bel d1
            have d2_ := cellL hs8.bel d2
            have q0_ := cellL hs8.bel q0
            have q1_ := cellL hs8.bel q1
            refine t4_nil (NoPanic.normal ?_)
            cases hq : holdsE p (v ++ List.replicate m 0) eqs[k] with
            | true =>
              have HNS := Lib.hid (show stopOne p v m eqs[k] = false by rw [HSO.out, hq]; simp)
              clear hq
              go_wp2_with fail
              go_roundw
              case rel =>
                refine ⟨k + 1, hlt, by go_num, HBL_9.out, fun j hj hjk => ?_⟩
                rcases Nat.lt_or_ge j k with h | h
                · exact hno.out j hj h
                · obtain rfl : j = k := by omega
                  exact HNS.out
              case measure => simp [intOf]; omega
            | false =>
              have HST := Lib.hid (show stopE p eqs v m = true by
                rw [stopE_one, List.any_eq_true]
                exact ⟨_, List.getElem_mem hlt, by rw [HSO.out, hq, decide_eq_true hst]; rfl⟩)
              clear hq
              go_wp2_with fail
              go_ret
              rw [ansE_stop HST.out, List.append_nil]
              exact ⟨ao, out.length, co, rfl, rfl, (AccP.mono HACC.out hs8.bel).wk (fun z h => .inl h), ButP.of hs8.bel⟩
          · have HNS := Lib.hid (show stopOne p v m eqs[k] = false by rw [HSO.out, decide_eq_false hst, Bool.false_and])
            go_upto_region 11 with fail
            refine wp_region_noPanic (wp_region_tree4 (fun w' => w'.cell? ⟨sb, 0, none⟩ = some (.int .i64 p) ∧ w'.cell? ⟨sb, 1, none⟩ = some (.int .i64 U) ∧ w'.cell? ⟨sb, 2, none⟩ = some (.slice (some ⟨bl, ol, none⟩) eqs.length c) ∧ w'.cell? ⟨bl, ol + k * 2, none⟩ = some (.slice ae U ce) ∧ w'.cell? ⟨bl, ol + k * 2 + 1, none⟩ = some (.int .i64 eqs[k].2)) (.float 0 (.float 1 (.float 2 (.float 3 (.float 4 (.float 5 (.float 6 (.float 7 (.float 8 (.float 9 (.float 10 (.float 11 (.float 12 (.float 13 (.float 14 (.float 16 (.float 17 (.float 18 (.float 19 (.float 20 (.float 21 (.hard 15 (.hard 22 (.hard 23 (.float 24 (.float 25 .nil)))))))))))))))))))))))))) (by kernel_rfl) (by kernel_rfl) (by kernel_rfl) rfl ?_ (fun _ _ _ _ _ h => h) ?_)
            · exact ⟨cellL (hsr.drew).bel d0, cellL (hsr.drew).bel d1, cellL (hsr.drew).bel d2, cellL (hsr.drew).bel q0, cellL (hsr.drew).bel q1⟩
            have hs10 := hsr.drew
            have HBL_11 := Lib.hid (HBL.out.trans (((belowD _)).mono HBL.out.size))
            clear HBL
            clear d0_ d1_ d2_ q0_ q1_
            have hz_wd12 : wo.heap.size ≤ (wo.drew).heap.size := by simp
            generalize hgen_wd12 : wo.drew = wd12 at *
            have HG_wd12 := Lib.hid hgen_wd12
            clear hgen_wd12
            (repeat (first | (apply t4_skip rfl (by rfl); try simp only [Act.put, List.setIfInBounds_toArray, List.set_cons_zero, List.set_cons_succ]) | (apply t4_float rfl (by rfl); (· (intro w' hS; go_simp <;> with_reducible rfl)); (try simp only [Act.put, List.setIfInBounds_toArray, List.set_cons_zero, List.set_cons_succ]))))
            refine t4_hskip rfl (by rfl) ?_ ?_
            · exact ⟨cellL hs10.bel d0, cellL hs10.bel d1, cellL hs10.bel d2, cellL hs10.bel q0, cellL hs10.bel q1⟩
            (try simp only [Act.put, List.setIfInBounds_toArray, List.set_cons_zero, List.set_cons_succ])
            (repeat (first | (apply t4_skip rfl (by rfl); try simp only [Act.put, List.setIfInBounds_toArray, List.set_cons_zero, List.set_cons_succ]) | (apply t4_float rfl (by rfl); (· (intro w' hS; go_simp <;> with_reducible rfl)); (try simp only [Act.put, List.setIfInBounds_toArray, List.set_cons_zero, List.set_cons_succ]))))
            refine t4_hskip rfl (by rfl) ?_ ?_
            · exact ⟨cellL hs10.bel d0, cellL hs10.bel d1, cellL hs10.bel d2, cellL hs10.bel q0, cellL hs10.bel q1⟩
            (try simp only [Act.put, List.setIfInBounds_toArray, List.set_cons_zero, List.set_cons_succ])
            (repeat (first | (apply t4_skip rfl (by rfl); try simp only [Act.put, List.setIfInBounds_toArray, List.set_cons_zero, List.set_cons_succ]) | (apply t4_float rfl (by rfl); (· (intro w' hS; go_simp <;> with_reducible rfl)); (try simp only [Act.put, List.setIfInBounds_toArray, List.set_cons_zero, List.set_cons_succ]))))
            refine t4_hskip rfl (by rfl) ?_ ?_
            · exact ⟨cellL hs10.bel d0, cellL hs10.bel d1, cellL hs10.bel d2, cellL hs10.bel q0, cellL hs10.bel q1⟩
            (try simp only [Act.put, List.setIfInBounds_toArray, List.set_cons_zero, List.set_cons_succ])
            (repeat (first | (apply t4_skip rfl (by rfl); try simp only [Act.put, List.setIfInBounds_toArray, List.set_cons_zero, List.set_cons_succ]) | (apply t4_float rfl (by rfl); (· (intro w' hS; go_simp <;> with_reducible rfl)); (try simp only [Act.put, List.setIfInBounds_toArray, List.set_cons_zero, List.set_cons_succ]))))
            have d0_ := cellL hs10.bel d0
            have d1_ := cellL hs10.bel d1
            have d2_ := cellL hs10.bel d2
            have q0_ := cellL hs10.bel q0
            have q1_ := cellL hs10.bel q1
            refine t4_nil (NoPanic.normal ?_)
            go_wp2_with fail
            go_roundw
            case rel =>
              refine ⟨k + 1, hlt, by go_num, HBL_11.out, fun j hj hjk => ?_⟩
              rcases Nat.lt_or_ge j k with h | h
              · exact hno.out j hj h
              · obtain rfl : j = k := by omega
                exact HNS.out
            case measure => simp [intOf]; omega
    · have HNS := Lib.hid (show stopE p eqs v m = false by
        rw [stopE_one, List.any_eq_false]
        intro x hx
        obtain ⟨j, hj, rfl⟩ := List.getElem_of_mem hx
        rw [hno.out j hj (by omega)]; decide)
      have hke : ¬ (k : Int) < eqs.length := by omega
      by_cases hm : m = 0
      · subst hm
        have hbq : ((v.length : Int) == (U : Int)) = true := by simp; have := HVM.out; omega
        have hszw := hsr.hi
        go_wp2_with fail
        refine (l00Own_c v _ _ (Ip.mono HV.out hsr.bel).rd (by omega)).mono ?_
        rintro e w13 ⟨v4, rfl, hA4, hbw13⟩
        have hz_w13 : wr.heap.size ≤ w13.heap.size := by have h9 := hbw13.size; (try simp at h9); omega
        have hs14 := hsr.step hbw13
        clear d0_ d1_ d2_
        have d0_ := cellL hs14.bel d0
        have d1_ := cellL hs14.bel d1
        have d2_ := cellL hs14.bel d2
        obtain ⟨a4, c4, rfl, _⟩ := hA4.len
        have HY := Lib.hid (Fresh.ip hA4.fresh)
        clear hA4
        go_wp2_with (at_builtin; refine wpList_append_accP _ rfl _ _ _ rfl E_lists rfl (AccP.mono HACC.out (hs14.step (belowA w13 (.cells #[.slice a4 v.length c4] 25))).bel) (Ip.mono HY.out (belowA _ _)) (fun z h1 h2 => by have := (HA.out z h1).2; omega) ⟨w13.heap.size, 0, none⟩ 1 rfl (news1 (cell_at_block (heap_alloc_new _ _))) (by omega) ?_; intro a7 c7 w7 hA7 hB7)
        go_wp2_with fail
        go_ret
        rw [ansE_zero HNS.out]
        refine ⟨a7, out.length + 1, c7, rfl, by simp, AccP.wk hA7 (fun z h => ?_), (ButP.of (A := A) (hs14.step (belowA w13 (.cells #[.slice a4 v.length c4] 25))).bel).trans hB7 (fun z h => .inl h)⟩
        rcases h with h | h | h
        · exact .inl h
        · exact .inr (by omega)
        · exact .inr (by simp at h; omega)
      · obtain ⟨m', rfl⟩ : ∃ m', m = m' + 1 := ⟨m - 1, by omega⟩
        have hbq : ((v.length : Int) == (U : Int)) = false := by simp; have := HVM.out; omega
        have hszw := hsr.hi
        have HACW := Lib.hid (AccP.mono HACC.out hsr.bel)
        have HBPW := Lib.hid (ButP.of (A := A) hsr.bel)
        have HCP := Lib.hid (ansUp_length (p := p) HLE.out m' v (by have := HVM.out; omega))
        have hpw := Nat.pow_le_pow_left hp3 m'
        have hps : 3 ^ (m' + 1) = 3 ^ m' * 3 := rfl
        clear hbl HBL hno
        go_wp2_with fail
        clear d0_ d1_ d2_
        go_loopw [2, 11] (fun o i wl => ∃ (k a2 : _) (n2 c2 : Nat), k ≤ p ∧ i = .int .i64 (k : Nat) ∧ o = .slice a2 n2 c2 ∧ Hid (n2 = (out ++ ansUp p eqs m' v k).length) ∧ Hid (AccP (fun z => (A z ∨ w.heap.size ≤ z) ∧ z < wl.heap.size) 25 wl (.slice a2 n2 c2) (out ++ ansUp p eqs m' v k)) ∧ Hid (ButP A w wl)) (fun _ i _ => p - (intOf i).toNat)
        case atStart => exact ⟨0, ao, out.length, co, Nat.zero_le _, rfl, rfl, by simp [ansUp, Hid], by simpa [ansUp, Hid] using AccP.wk HACW.out.tight (fun z h => ⟨.inl h.1, h.2⟩), HBPW.out⟩
        case round =>
          clear HACW HBPW hsr
          obtain ⟨k, a2, n2, c2, hk, rfl, rfl, hn2, hac, hbp⟩ := hrel
          have hb0r := HB0.out.trans (hbp.out.below (fun k h => (HA.out k h).1) HB0.out.size)
          have hsr := (St.start w0).step hb0r
          have hc0 := HC0.out
          have hc1 := HC1.out
          have hc2 := HC2.out
          have hszr := hbp.out.size
          have hc0_ := cellL (St.start w0).bel hc0
          clear hc0_
          have hc0_ := cellL (St.start w0).bel hc0
          have hc1_ := cellL (St.start w0).bel hc1
          clear hc0_ hc1_
          have hc0_ := cellL (St.start w0).bel hc0
          have hc1_ := cellL (St.start w0).bel hc1
          have hc2_ := cellL (St.start w0).bel hc2
          clear hc0_ hc1_ hc2_
          have hc0_ := cellL hsr.bel hc0
          have hc1_ := cellL hsr.bel hc1
          have hc2_ := cellL hsr.bel hc2
          by_cases hlt : k < p
          · have HUS := Lib.hid (ansUp_succ p eqs m' v k)
            have HVR := Lib.hid (Ip.butP HV.out hbp.out HVA.out)
            have hlk := HCP.out k
            have hkm : k * p ^ m' ≤ 2 * 3 ^ m' := Nat.mul_le_mul (by omega) hpw
            have hn2' : n2 = out.length + (ansUp p eqs m' v k).length := by rw [hn2.out, List.length_append]
            have HN2 := Lib.hid hn2'
            clear hn2'
            go_wp2_with fail
            refine (l00Own_c v _ _ HVR.out.rd (by omega)).mono ?_
            rintro e w15 ⟨v4, rfl, hA4, hbw15⟩
            have hz_w15 : wr.heap.size ≤ w15.heap.size := by have h9 := hbw15.size; (try simp at h9); omega
            have hs16 := hsr.step hbw15
            clear hc0_ hc1_ hc2_
            have hc0_ := cellL hs16.bel hc0
            have hc1_ := cellL hs16.bel hc1
            have hc2_ := cellL hs16.bel hc2
            obtain ⟨a4, c4, rfl, _⟩ := hA4.len
            go_wp2_with (at_builtin; refine wpList_append_ints _ rfl _ _ _ rfl E_ints rfl (Acc.mono hA4 (belowA _ (.cells #[.int .i64 k] 2))) (by omega) (by simp) ⟨w15.heap.size, 0, none⟩ 1 rfl (ns := [(k : Int)]) (news1 (cell_at_block (heap_alloc_new _ _))) (fun b hb => by simp at hb; subst hb; exact ⟨by omega, by omega⟩) (by simp; omega) ?_; intro a9 c9 w9 hA9 hB9 hK9)
            have hsz9 := hA9.len
            have hb9 : Below wr.heap.size wr w9 := (hbw15.trans ((belowA w15 (.cells #[.int .i64 k] 2)).mono (by omega))).trans hB9
            have hsr9 := hs16.stepB ((belowA w15 (.cells #[.int .i64 k] 2)).mono (by have := hs16.hi; omega))
            have HIP9 := Lib.hid (show Ip (fun z => wr.heap.size ≤ z) w9 [.slice a9 (v.length + 1) c9] (v ++ [(k : Int)]) from hA9.fresh.ip.wk (fun z h => h.1))
            have HAC9 := Lib.hid (AccP.mono hac.out hb9)
            have HB9 := Lib.hid hb9
            have hc0' := cellL (hb0r.trans (hb9.mono (by have := hb0r.size; omega))) hc0
            have hc1' := cellL (hb0r.trans (hb9.mono (by have := hb0r.size; omega))) hc1
            have hc2' := cellL (hb0r.trans (hb9.mono (by have := hb0r.size; omega))) hc2
            have HB09 := Lib.hid (hb0r.trans (hb9.mono (by have := hb0r.size; omega)))
            have hz9 := hb9.size
            clear hA9 hB9 hK9 hA4 hb9 hsr9 hsz9
            go_wp2_with fail
            refine (HIH.out m' (by omega) (v ++ [(k : Int)]) (out ++ ansUp p eqs m' v k) a9 a2 (v.length + 1) n2 c9 c2 w9 (fun z => (A z ∨ w.heap.size ≤ z) ∧ z < wr.heap.size) (fun z => wr.heap.size ≤ z) (by simp) hn2.out (by have := HVM.out; simp; omega) (fun b hb => ?_) (by rw [List.length_append]; omega) HB09.out (fun z h => ⟨?_, by omega⟩) HIP9.out (fun z h1 h2 => by omega) HAC9.out).mono ?_
            · rcases List.mem_append.1 hb with h | h
              · exact HVV.out b h
              · obtain rfl : b = (k : Int) := by simpa using h
                omega
            · rcases h.1 with h1 | h1
              · exact (HA.out z h1).1
              · have := HB0.out.size; omega
            · rintro e w10 ⟨a10, n10, c10, rfl, hn10, hac10, hbp10⟩
              have HN10 := Lib.hid hn10
              have HAC10 := Lib.hid hac10
              have HBP10 := Lib.hid ((hbp.out.trans (ButP.of (A := fun _ => False) HB9.out) (fun z h => h.elim)).trans hbp10 (fun z h => h.1))
              clear hn10 hac10 hbp10
              go_wp2_with fail
              go_roundw
              case rel =>
                refine ⟨k + 1, a10, n10, c10, hlt, by go_num, rfl, ?_, ?_, HBP10.out⟩
                · show n10 = _
                  rw [HN10.out, HUS.out, List.append_assoc]
                · rw [HUS.out, ← List.append_assoc]
                  exact HAC10.out.tight.wk (fun z h => ⟨by
                    rcases h.1 with h1 | h1
                    · exact h1.1
                    · exact .inr (by omega), h.2⟩)
              case measure => simp [intOf]; omega
          · obtain rfl : k = p := by omega
            go_wp2_with fail
            go_ret
            rw [ansE_succ HNS.out]
            refine ⟨a2, n2, c2, rfl, hn2.out, hac.out.wk (fun z h => h.1), hbp.out⟩

end Go.Proofs.Ytkbeihkjhmillaa
