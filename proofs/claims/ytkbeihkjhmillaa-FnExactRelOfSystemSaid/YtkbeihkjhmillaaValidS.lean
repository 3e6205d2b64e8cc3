/-
  CONTRACTS: ValidSystem of the program and of the reference.
-/
import Derived.Test.YtkbeihkjhmillaaPred
import Derived.Test.YtkbeihkjhmillaaBase
import Derived.Deep.RegionHeld3
namespace Go.Proofs.Ytkbeihkjhmillaa
open Go.RowKit Go.Shelf
open Rep (Rd Own sz)
set_option linter.unusedSimpArgs false
set_option linter.unusedVariables false

def valsOk (size : Int) (l : List Int) (n : Int) : Bool := decide ((l.length : Int) = n) && l.all (fun a => inB a 0 (size - 1))
def eqnOk (p u : Int) (e : Eqn) : Bool := valsOk p e.1 u && inB e.2 0 (p - 1)
def validS (s : Sys) : Bool := isPr s.1 && inB s.2.1 1 12 && decide (s.2.2.length ≤ 24) && s.2.2.all (eqnOk s.1 s.2.1)
theorem all_of_any {α : Type} (l : List α) (q : α → Bool) : (!l.any fun a => !q a) = l.all q := by
  induction l with
  | nil => rfl
  | cons x xs ih => simp [← ih]

set_option maxHeartbeats 400000 in
theorem isValue_c (size v : Int) (w : World) (h0 : -1000 ≤ size) (h1 : size ≤ 1000000000) :
    Calls Try.prog 113 #[.int .i64 size, .int .i64 v] w fun e w' => e = .returned (.bool (inB v 0 (size - 1))) ∧ w = w' := by
  go_enter Try.func113, Try.ntmps113
  go_wp2_with fail
  refine (within_c _ _ _ _).mono ?_
  rintro e w1 ⟨rfl, rfl⟩
  go_wp2_with fail
  go_ret
  exact ⟨rfl, rfl⟩
set_option maxHeartbeats 400000 in
theorem areValues1_by (size : Int) (b : Nat) (w : World) (l : List Int) (h0 : -1000 ≤ size) (h1 : size ≤ 1000000000) (hc : w.cell? ⟨b, 0, none⟩ = some (.int .i64 size)) :
    PredI 112 #[.pointer (some ⟨b, 0, none⟩)] w l (fun a => !inB a 0 (size - 1)) := by
  intro W x u0 hb hr _
  obtain ⟨rfl, _⟩ := rd_i1 hr
  have hc' := cellL hb hc
  show Calls Try.prog 112 #[_, .pointer (some ⟨b, 0, none⟩)] W _
  go_enter Try.func112, Try.ntmps112
  go_wp2_with fail
  refine (isValue_c size x _ h0 h1).mono ?_
  rintro e w1 ⟨rfl, rfl⟩
  go_wp2_with fail
  go_ret
  exact ⟨rfl, Below.refl _ _⟩
set_option maxRecDepth 100000 in
set_option maxHeartbeats 1000000 in
theorem areValues_c (size : Int) (l : List Int) (v : Value) (n : Int) (w : World) (r : Rd w [v] l) (h0 : -1000 ≤ size) (h1 : size ≤ 1000000000) :
    Calls Try.prog 67 #[.int .i64 size, v, .int .i64 n] w fun e w' => e = .returned (.bool (valsOk size l n)) ∧ Below w.heap.size w w' := by
  obtain ⟨a, c, rfl, hr⟩ := rd_list r
  have hb := (rdSl_len hr).2
  unfold maxLen at hb
  have HR := Lib.hid r
  clear r hr
  have hs := (St.start w).alloc #[.int .i64 size] 2 rfl
  have eg : ∀ args w, (callFunc 112 args).run Try.prog w = .ok (.enter 112 args) w := enters_of Try.func112 (by kernel_rfl) rfl
  by_cases hn : (l.length : Int) = n
  · have hn1 : ((l.length : Int) == n) = true := by simpa using hn
    have HN := Lib.hid hn
    clear hn
    go_enter Try.func67, Try.ntmps67
    go_wp2_with fail
    refine (containsInts_c l _ 112 _ _ _ (Rd.mono HR.out hs.bel) eg (areValues1_by size w.heap.size _ l h0 h1 (hs.cellAt 0 rfl 0 rfl))).mono ?_
    rintro e w1 ⟨rfl, hb1⟩
    go_wp2_with fail
    go_ret
    refine ⟨ret_bool ?_, (hs.step hb1).bel⟩
    unfold valsOk
    rw [decide_eq_true HN.out, Bool.true_and, ← all_of_any]
  · have hn1 : ((l.length : Int) == n) = false := by simpa using hn
    have HN := Lib.hid hn
    clear hn
    go_enter Try.func67, Try.ntmps67
    go_wp2_with fail
    go_ret
    refine ⟨ret_bool ?_, hs.bel⟩
    unfold valsOk
    rw [decide_eq_false HN.out, Bool.false_and]
set_option maxRecDepth 100000 in
set_option maxHeartbeats 1000000 in
theorem isEquation_c (p u : Int) (x : Eqn) (v0 v1 : Value) (w : World) (hx : Rd w [v0, v1] x) (h0 : -1000 ≤ p) (h1 : p ≤ 1000000000) :
    Calls Try.prog 110 #[.int .i64 p, .int .i64 u, .agg #[v0, v1]] w fun e w' => e = .returned (.bool (eqnOk p u x)) ∧ Below w.heap.size w w' := by
  obtain ⟨l, n⟩ := x
  have z := rd_cons rfl hx
  have RL := Lib.hid z.1
  obtain ⟨a, c, rfl, _⟩ := rd_list RL.out
  obtain ⟨rfl, _⟩ := rd_i1 z.2
  clear hx z
  have hs := (St.start w).alloc #[.slice a l.length c, .int .i64 n] 48 rfl
  go_enter Try.func110, Try.ntmps110
  go_wp2_with fail
  refine (areValues_c p l _ u _ (Rd.mono RL.out hs.bel) h0 h1).mono ?_
  rintro e w1 ⟨rfl, hb1⟩
  have hs1 := hs.step hb1
  have q0 := hs1.cellAt 0 rfl 0 rfl
  have q1 := hs1.cellAt 0 rfl 1 rfl
  cases hv : valsOk p l u with
  | true =>
    have HV := Lib.hid hv
    clear hv
    go_wp2_with fail
    refine (isValue_c p n _ h0 h1).mono ?_
    rintro e w2 ⟨rfl, rfl⟩
    go_wp2_with fail
    go_ret
    exact ⟨ret_bool (by simp [eqnOk, HV.out]), hs1.bel⟩
  | false =>
    have HV := Lib.hid hv
    clear hv
    go_wp2_with fail
    go_ret
    exact ⟨ret_bool (by simp [eqnOk, HV.out]), hs1.bel⟩
set_option maxHeartbeats 400000 in
theorem validSystem1_by (p u : Int) (b : Nat) (w : World) (l : List Eqn) (h0 : -1000 ≤ p) (h1 : p ≤ 1000000000) (hc0 : w.cell? ⟨b, 0, none⟩ = some (.int .i64 p)) (hc1 : w.cell? ⟨b, 1, none⟩ = some (.int .i64 u)) :
    PredE 109 #[.pointer (some ⟨b, 0, none⟩)] w l (fun e => !eqnOk p u e) := by
  intro W x v0 v1 hb hx _
  have hc0' := cellL hb hc0
  have hc1' := cellL hb hc1
  show Calls Try.prog 109 #[_, .pointer (some ⟨b, 0, none⟩)] W _
  have hb' := World.block_lt_of_cell? _ _ hc0'
  have HX := Lib.hid hx
  have z := rd_cons rfl hx
  obtain ⟨a, c, rfl, _⟩ := rd_list z.1
  obtain ⟨rfl, _⟩ := rd_i1 z.2
  clear hx z
  have hs := (St.start W).alloc #[.slice a x.1.length c, .int .i64 x.2] 48 rfl
  have hd0 := cellL hs.bel hc0'
  have hd1 := cellL hs.bel hc1'
  go_enter Try.func109, Try.ntmps109
  go_wp2_with fail
  refine (isEquation_c p u x _ _ _ (Rd.mono HX.out hs.bel) h0 h1).mono ?_
  rintro e w1 ⟨rfl, hb1⟩
  go_wp2_with fail
  go_ret
  exact ⟨rfl, (hs.step hb1).bel⟩
set_option maxRecDepth 100000 in
set_option maxHeartbeats 1000000 in
theorem ValidSystem_c (x : Sys) (v0 v1 v2 : Value) (w : World) (hx : Rd w [v0, v1, v2] x) :
    Calls Try.prog 66 #[.agg #[v0, v1, v2]] w fun e w' => e = .returned (.bool (validS x)) ∧ Below w.heap.size w w' := by
  obtain ⟨p, u, l⟩ := x
  have z := rd_cons rfl hx
  obtain ⟨rfl, _⟩ := rd_i1 z.1
  have z2 := rd_cons rfl z.2
  obtain ⟨rfl, _⟩ := rd_i1 z2.1
  have RL := Lib.hid z2.2
  obtain ⟨a, c, rfl, hr⟩ := rd_list RL.out
  have hb := (rdSl_len hr).2
  unfold maxLen at hb
  clear hx z z2 hr
  have hs := (St.start w).alloc #[.int .i64 p, .int .i64 u, .slice a l.length c] 31 rfl
  have eg : ∀ args w, (callFunc 109 args).run Try.prog w = .ok (.enter 109 args) w := enters_of Try.func109 (by kernel_rfl) rfl
  go_enter Try.func66, Try.ntmps66
  go_wp2_with fail
  refine (isPrime_c p _).mono ?_
  rintro e w1 ⟨rfl, rfl⟩
  cases hp : isPr p with
  | false =>
    have HP := Lib.hid hp
    clear hp
    go_wp2_with fail
    go_ret
    exact ⟨ret_bool (by simp [validS, HP.out]), hs.bel⟩
  | true =>
    have hpp := isPr_true hp
    have HP := Lib.hid hp
    clear hp
    go_wp2_with fail
    refine (within_c u 1 12 _).mono ?_
    rintro e w1 ⟨rfl, rfl⟩
    cases hu : inB u 1 12 with
    | false =>
      have HU := Lib.hid hu
      clear hu
      go_wp2_with fail
      go_ret
      exact ⟨ret_bool (by simp [validS, HU.out]), hs.bel⟩
    | true =>
      have HU := Lib.hid hu
      clear hu
      by_cases hl : l.length ≤ 24
      · have HL := Lib.hid hl
        go_wp2_with fail
        refine (containsEqns_c l _ 109 _ _ _ (Rd.mono RL.out hs.bel) eg (validSystem1_by p u w.heap.size _ l (by omega) (by omega) (hs.cellAt 0 rfl 0 rfl) (hs.cellAt 0 rfl 1 rfl))).mono ?_
        rintro e w1 ⟨rfl, hb1⟩
        go_wp2_with fail
        go_ret
        refine ⟨ret_bool ?_, (hs.step hb1).bel⟩
        unfold validS
        simp only [HP.out, HU.out, decide_eq_true HL.out, Bool.true_and]
        rw [← all_of_any]
      · have HL := Lib.hid hl
        go_wp2_with fail
        go_ret
        exact ⟨ret_bool (by simp only [validS, decide_eq_false HL.out, Bool.and_false, Bool.false_and]), hs.bel⟩
set_option maxRecDepth 100000 in
set_option maxHeartbeats 1000000 in
theorem l07Equation_c (p u : Int) (x : Eqn) (b o : Nat) (v0 v1 : Value) (w : World) (hx : Rd w [v0, v1] x) (c0 : w.cell? ⟨b, o, none⟩ = some v0) (c1 : w.cell? ⟨b, o + 1, none⟩ = some v1) (h0 : -1000 ≤ p) (h1 : p ≤ 1000000000) :
    Calls Try.prog 105 #[.int .i64 p, .int .i64 u, .pointer (some ⟨b, o, none⟩)] w fun e w' => e = .returned (.bool (eqnOk p u x)) ∧ w = w' := by
  obtain ⟨l, n⟩ := x
  have z := rd_cons rfl hx
  obtain ⟨a, c, rfl, hr⟩ := rd_list z.1
  obtain ⟨rfl, _⟩ := rd_i1 z.2
  have hb := (rdSl_len hr).2
  unfold maxLen at hb
  have HR := Lib.hid hr
  clear hx z hr
  by_cases hn : (l.length : Int) = u
  rotate_left
  · have hn1 : ((l.length : Int) != u) = true := by simpa using hn
    have HN := Lib.hid hn
    clear hn
    go_enter Try.func105, Try.ntmps105
    go_wp2_with fail
    go_ret
    exact ⟨ret_bool (by simp [eqnOk, valsOk, HN.out]), rfl⟩
  have hn1 : ((l.length : Int) != u) = false := by simpa using hn
  have HN := Lib.hid hn
  clear hn
  go_enter Try.func105, Try.ntmps105
  go_wp2_with fail
  refine (l00In_c n 0 (p - 1) _).mono ?_
  rintro e w1 ⟨rfl, rfl⟩
  cases hi : inB n 0 (p - 1) with
  | false =>
    have HI := Lib.hid hi
    clear hi
    go_wp2_with fail
    go_ret
    exact ⟨ret_bool (by simp [eqnOk, HI.out]), rfl⟩
  | true =>
    have HI := Lib.hid hi
    clear hi
    go_wp2_with fail
    go_loopw [7] (fun i wr => ∃ k : Nat, k ≤ l.length ∧ i = .int .i64 k ∧ wr = w ∧ Hid (∀ j (hj : j < l.length), j < k → inB l[j] 0 (p - 1) = true)) (fun i _ => l.length - (intOf i).toNat)
    case atStart => exact ⟨0, Nat.zero_le _, rfl, rfl, fun j _ hj => absurd hj (Nat.not_lt_zero _)⟩
    case round =>
      obtain ⟨k, hk, rfl, rfl, hr⟩ := hrel
      by_cases hlt : k < l.length
      · obtain ⟨b', o', rfl, hc, _⟩ := rdSl_int HR.out k hlt
        have hc' : wr.cell? ⟨b', o' + k, none⟩ = some (.int .i64 l[k]) := by simpa [List.getD, hlt] using hc
        clear hc
        go_wp2_with fail
        refine (l00In_c l[k] 0 (p - 1) _).mono ?_
        rintro e w1 ⟨rfl, rfl⟩
        cases hq : inB l[k] 0 (p - 1) with
        | false =>
          have HQ := Lib.hid hq
          clear hq
          go_wp2_with fail
          go_ret
          refine ⟨ret_bool ?_, rfl⟩
          symm
          simp only [eqnOk, valsOk, Bool.and_eq_false_iff]
          exact .inl (.inr (List.all_eq_false.2 ⟨_, List.getElem_mem hlt, by simp [HQ.out]⟩))
        | true =>
          have HQ := Lib.hid hq
          clear hq
          go_wp2_with fail
          go_roundw
          case rel =>
            refine ⟨k + 1, by omega, by go_num, trivial, ?_⟩
            intro j hj hjk
            rcases Nat.lt_or_ge j k with h | h
            · exact hr.out j hj h
            · obtain rfl : j = k := by omega
              exact HQ.out
          case measure => simp [intOf]; omega
      · obtain rfl : k = l.length := by omega
        go_wp2_with fail
        go_ret
        refine ⟨ret_bool ?_, rfl⟩
        symm
        simp only [eqnOk, valsOk, Bool.and_eq_true, List.all_eq_true, HI.out, decide_eq_true HN.out, true_and, and_true]
        intro y hy
        obtain ⟨j, hj, rfl⟩ := List.getElem_of_mem hy
        exact hr.out j hj hj
set_option maxRecDepth 100000 in
set_option maxHeartbeats 2000000 in
theorem l07Ok_c (x : Sys) (b : Nat) (v0 v1 v2 : Value) (w : World) (hx : Rd w [v0, v1, v2] x) (c0 : w.cell? ⟨b, 0, none⟩ = some v0) (c1 : w.cell? ⟨b, 1, none⟩ = some v1) (c2 : w.cell? ⟨b, 2, none⟩ = some v2) :
    Calls Try.prog 62 #[.pointer (some ⟨b, 0, none⟩)] w fun e w' => e = .returned (.bool (validS x)) ∧ ∃ n, w' = w.drewN n := by
  obtain ⟨p, u, l⟩ := x
  have z := rd_cons rfl hx
  obtain ⟨rfl, _⟩ := rd_i1 z.1
  have z2 := rd_cons rfl z.2
  obtain ⟨rfl, _⟩ := rd_i1 z2.1
  obtain ⟨a, c, rfl, hr⟩ := rd_list z2.2
  have hb := (rdSl_len hr).2
  unfold maxLen at hb
  have HR := Lib.hid hr
  clear hx z z2 hr
  go_enter Try.func62, Try.ntmps62
  go_wp2_with fail
  refine (l07Prime_c p _).mono ?_
  rintro e w1 ⟨rfl, rfl⟩
  cases hp : isPr p with
  | false =>
    have HP := Lib.hid hp
    clear hp
    go_wp2_with fail
    go_ret
    exact ⟨ret_bool (by simp [validS, HP.out]), 0, rfl⟩
  | true =>
    have hpp := isPr_true hp
    have HP := Lib.hid hp
    clear hp
    go_wp2_with fail
    refine (l00In_c u 1 12 _).mono ?_
    rintro e w1 ⟨rfl, rfl⟩
    cases hu : inB u 1 12 with
    | false =>
      have HU := Lib.hid hu
      clear hu
      go_wp2_with fail
      go_ret
      exact ⟨ret_bool (by simp [validS, HU.out]), 0, rfl⟩
    | true =>
      have HU := Lib.hid hu
      clear hu
      by_cases hl : 24 < l.length
      · have HL := Lib.hid (show ¬ l.length ≤ 24 by omega)
        go_wp2_with fail
        go_ret
        exact ⟨ret_bool (by simp only [validS, decide_eq_false HL.out, Bool.and_false, Bool.false_and]), 0, rfl⟩
      · have HL := Lib.hid (show l.length ≤ 24 by omega)
        go_wp2_with fail
        go_loopw [3] (fun i wr => ∃ k m : Nat, k ≤ l.length ∧ i = .int .i64 k ∧ wr = w.drewN m ∧ Hid (∀ j (hj : j < l.length), j < k → eqnOk p u l[j] = true)) (fun i _ => l.length - (intOf i).toNat)
        case atStart => exact ⟨0, 0, Nat.zero_le _, rfl, rfl, fun j _ hj => absurd hj (Nat.not_lt_zero _)⟩
        case round =>
          obtain ⟨k, m, hk, rfl, rfl, hr⟩ := hrel
          by_cases hlt : k < l.length
          · obtain ⟨b', o', u0, u1, rfl, q0, q1, hx⟩ := rdSl_two rfl HR.out k hlt
            have HX := Lib.hid hx
            clear hx
            cases hq : eqnOk p u l[k] with
            | false =>
              have HQ := Lib.hid hq
              clear hq
              go_wp2_with fail
              refine wp_region_noPanic (wp_region_el (fun w' => w'.cell? ⟨b, 0, none⟩ = some (.int .i64 p) ∧ w'.cell? ⟨b, 1, none⟩ = some (.int .i64 u) ∧ w'.cell? ⟨b, 2, none⟩ = some (.slice (some ⟨b', o', none⟩) l.length c)) [(0, 0), (1, 0), (2, 0), (3, 0), (4, 0), (5, 0), (6, 0), (7, 0), (8, 0), (9, 0), (10, 0), (11, 0), (12, 0), (13, 0), (14, 1), (15, 0)] (by kernel_rfl) (by kernel_rfl) (by kernel_rfl) rfl ?_ (fun _ _ _ _ _ h => h) ?_)
              · exact ⟨c0, c1, c2⟩
              (repeat (first | (apply el_skip rfl (by rfl); try simp only [Act.put, List.setIfInBounds_toArray, List.set_cons_zero, List.set_cons_succ]) | (apply el_float rfl (by rfl); (· (intro w' hS; go_simp <;> with_reducible rfl)); (try simp only [Act.put, List.setIfInBounds_toArray, List.set_cons_zero, List.set_cons_succ]))))
              refine el_hard rfl (by rfl) (fun K hK => ?_)
              go_wp2_with (go_at_call 105; refine (l07Equation_c p u l[k] b' (o' + k * 2) u0 u1 _ (Rd.mono HX.out (drewN_below w _)) q0 q1 (by omega) (by omega)).mono ?_; rintro e w1 ⟨rfl, rfl⟩)
              rw [HQ.out]
              refine ⟨⟨c0, c1, c2⟩, ?_⟩
              (repeat (first | (apply el_skip rfl (by rfl); try simp only [Act.put, List.setIfInBounds_toArray, List.set_cons_zero, List.set_cons_succ]) | (apply el_float rfl (by rfl); (· (intro w' hS; go_simp <;> with_reducible rfl)); (try simp only [Act.put, List.setIfInBounds_toArray, List.set_cons_zero, List.set_cons_succ]))))
              refine el_nil (NoPanic.normal ?_)
              go_wp2_with fail
              go_ret
              refine ⟨ret_bool ?_, m + 1, rfl⟩
              symm
              simp only [validS, Bool.and_eq_false_iff]
              exact .inr (List.all_eq_false.2 ⟨_, List.getElem_mem hlt, by simp [HQ.out]⟩)
            | true =>
              have HQ := Lib.hid hq
              clear hq
              go_wp2_with fail
              refine wp_region_noPanic (wp_region_el (fun w' => w'.cell? ⟨b, 0, none⟩ = some (.int .i64 p) ∧ w'.cell? ⟨b, 1, none⟩ = some (.int .i64 u) ∧ w'.cell? ⟨b, 2, none⟩ = some (.slice (some ⟨b', o', none⟩) l.length c)) [(0, 0), (1, 0), (2, 0), (3, 0), (4, 0), (5, 0), (6, 0), (7, 0), (8, 0), (9, 0), (10, 0), (11, 0), (12, 0), (13, 0), (14, 1), (15, 0)] (by kernel_rfl) (by kernel_rfl) (by kernel_rfl) rfl ?_ (fun _ _ _ _ _ h => h) ?_)
              · exact ⟨c0, c1, c2⟩
              (repeat (first | (apply el_skip rfl (by rfl); try simp only [Act.put, List.setIfInBounds_toArray, List.set_cons_zero, List.set_cons_succ]) | (apply el_float rfl (by rfl); (· (intro w' hS; go_simp <;> with_reducible rfl)); (try simp only [Act.put, List.setIfInBounds_toArray, List.set_cons_zero, List.set_cons_succ]))))
              refine el_hard rfl (by rfl) (fun K hK => ?_)
              go_wp2_with (go_at_call 105; refine (l07Equation_c p u l[k] b' (o' + k * 2) u0 u1 _ (Rd.mono HX.out (drewN_below w _)) q0 q1 (by omega) (by omega)).mono ?_; rintro e w1 ⟨rfl, rfl⟩)
              rw [HQ.out]
              refine ⟨⟨c0, c1, c2⟩, ?_⟩
              (repeat (first | (apply el_skip rfl (by rfl); try simp only [Act.put, List.setIfInBounds_toArray, List.set_cons_zero, List.set_cons_succ]) | (apply el_float rfl (by rfl); (· (intro w' hS; go_simp <;> with_reducible rfl)); (try simp only [Act.put, List.setIfInBounds_toArray, List.set_cons_zero, List.set_cons_succ]))))
              refine el_nil (NoPanic.normal ?_)
              go_wp2_with fail
              go_roundw
              case rel =>
                refine ⟨k + 1, m + 1, by omega, by go_num, rfl, ?_⟩
                intro j hj hjk
                rcases Nat.lt_or_ge j k with h | h
                · exact hr.out j hj h
                · obtain rfl : j = k := by omega
                  exact HQ.out
              case measure => simp [intOf]; omega
          · obtain rfl : k = l.length := by omega
            go_wp2_with fail
            go_ret
            refine ⟨ret_bool ?_, m, rfl⟩
            symm
            simp only [validS, HP.out, HU.out, decide_eq_true HL.out, Bool.true_and, List.all_eq_true]
            intro y hy
            obtain ⟨j, hj, rfl⟩ := List.getElem_of_mem hy
            exact hr.out j hj hj

end Go.Proofs.Ytkbeihkjhmillaa
