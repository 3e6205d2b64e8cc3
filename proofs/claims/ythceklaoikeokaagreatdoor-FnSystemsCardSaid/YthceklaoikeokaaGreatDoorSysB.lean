/-
  SEVERAL TEXTS IN ONE.
-/
import Derived.Test.YthceklaoikeokaaGreatDoorRowsB
import Derived.Test.YthceklaoikeokaaGreatDoorBase
import Derived.Deep.RegionHeld3

/-
  CONTRACTS: ValidSystem of the program and of the reference.
-/
namespace Go.Proofs.YthceklaoikeokaaGreatDoor
open Go.RowKit Go.Shelf
open Rep (Rd Own sz)
set_option linter.unusedSimpArgs false
set_option linter.unusedVariables false

def valsOk (size : Int) (l : List Int) (n : Int) : Bool := decide ((l.length : Int) = n) && l.all (fun a => inB a 0 (size - 1))
def eqnOk (p u : Int) (e : Eqn) : Bool := valsOk p e.1 u && inB e.2 0 (p - 1)
def validS (s : Sys) : Bool := isPr s.1 && inB s.2.1 1 12 && decide (s.2.2.length ≤ 24) && s.2.2.all (eqnOk s.1 s.2.1)
theorem all_of_any {α : Type} (l : List α) (q : α → Bool) : (!l.any fun a => !q a) = l.all q := by
  induction l with
  | nil => rfl
  | cons x xs ih => simp [← ih]

theorem validS_get {p u : Int} {l : List Eqn} (h : validS (p, u, l) = true) : (p = 2 ∨ p = 3) ∧ (1 ≤ u ∧ u ≤ 12) ∧ l.length ≤ 24 ∧ ∀ e, e ∈ l → eqnOk p u e = true := by
  simp only [validS, Bool.and_eq_true, decide_eq_true_eq, List.all_eq_true] at h
  exact ⟨isPr_true h.1.1.1, inB_true h.1.1.2, h.1.2, h.2⟩
/-- Valid but for the number of equations. -/
def wideS (s : Sys) : Bool := isPr s.1 && inB s.2.1 1 12 && decide (s.2.2.length ≤ 1000) && s.2.2.all (eqnOk s.1 s.2.1)
theorem wideS_get {p u : Int} {l : List Eqn} (h : wideS (p, u, l) = true) : (p = 2 ∨ p = 3) ∧ (1 ≤ u ∧ u ≤ 12) ∧ l.length ≤ 1000 ∧ ∀ e, e ∈ l → eqnOk p u e = true := by
  simp only [wideS, Bool.and_eq_true, decide_eq_true_eq, List.all_eq_true] at h
  exact ⟨isPr_true h.1.1.1, inB_true h.1.1.2, h.1.2, h.2⟩
theorem wideS_of {s : Sys} (h : validS s = true) : wideS s = true := by
  simp only [validS, wideS, Bool.and_eq_true, decide_eq_true_eq] at h ⊢
  exact ⟨⟨h.1.1, by omega⟩, h.2⟩

set_option maxHeartbeats 400000 in
theorem isValue_c (size v : Int) (w : World) (h0 : -1000 ≤ size) (h1 : size ≤ 1000000000) :
    Calls Tryz.prog 71 #[.int .i64 size, .int .i64 v] w fun e w' => e = .returned (.bool (inB v 0 (size - 1))) ∧ w = w' := by
  go_enter Tryz.func71, Tryz.ntmps71
  go_wp2_with fail
  refine (within_c _ _ _ _).mono ?_
  rintro e w1 ⟨rfl, rfl⟩
  go_wp2_with fail
  go_ret
  exact ⟨rfl, rfl⟩
set_option maxHeartbeats 400000 in
theorem areValues1_by (size : Int) (b : Nat) (w : World) (l : List Int) (h0 : -1000 ≤ size) (h1 : size ≤ 1000000000) (hc : w.cell? ⟨b, 0, none⟩ = some (.int .i64 size)) :
    PredI 75 #[.pointer (some ⟨b, 0, none⟩)] w l (fun a => !inB a 0 (size - 1)) := by
  intro W x u0 hb hr _
  obtain ⟨rfl, _⟩ := rd_i1 hr
  have hc' := cellL hb hc
  show Calls Tryz.prog 75 #[_, .pointer (some ⟨b, 0, none⟩)] W _
  go_enter Tryz.func75, Tryz.ntmps75
  go_wp2_with fail
  refine (isValue_c size x _ h0 h1).mono ?_
  rintro e w1 ⟨rfl, rfl⟩
  go_wp2_with fail
  go_ret
  exact ⟨rfl, Below.refl _ _⟩
set_option maxRecDepth 100000 in
set_option maxHeartbeats 1000000 in
theorem areValues_c (size : Int) (l : List Int) (v : Value) (n : Int) (w : World) (r : Rd w [v] l) (h0 : -1000 ≤ size) (h1 : size ≤ 1000000000) :
    Calls Tryz.prog 45 #[.int .i64 size, v, .int .i64 n] w fun e w' => e = .returned (.bool (valsOk size l n)) ∧ Below w.heap.size w w' := by
  obtain ⟨a, c, rfl, hr⟩ := rd_list r
  have hb := (rdSl_len hr).2
  unfold maxLen at hb
  have HR := Lib.hid r
  clear r hr
  have hs := (St.start w).alloc #[.int .i64 size] 2 rfl
  have eg : ∀ args w, (callFunc 75 args).run Tryz.prog w = .ok (.enter 75 args) w := enters_of Tryz.func75 (by kernel_rfl) rfl
  by_cases hn : (l.length : Int) = n
  · have hn1 : ((l.length : Int) == n) = true := by simpa using hn
    have HN := Lib.hid hn
    clear hn
    go_enter Tryz.func45, Tryz.ntmps45
    go_wp2_with fail
    refine (containsInts_c l _ 75 _ _ _ (Rd.mono HR.out hs.bel) eg (areValues1_by size w.heap.size _ l h0 h1 (hs.cellAt 0 rfl 0 rfl))).mono ?_
    rintro e w1 ⟨rfl, hb1⟩
    go_wp2_with fail
    go_ret
    refine ⟨ret_bool ?_, (hs.step hb1).bel⟩
    unfold valsOk
    rw [decide_eq_true HN.out, Bool.true_and, ← all_of_any]
  · have hn1 : ((l.length : Int) == n) = false := by simpa using hn
    have HN := Lib.hid hn
    clear hn
    go_enter Tryz.func45, Tryz.ntmps45
    go_wp2_with fail
    go_ret
    refine ⟨ret_bool ?_, hs.bel⟩
    unfold valsOk
    rw [decide_eq_false HN.out, Bool.false_and]
set_option maxRecDepth 100000 in
set_option maxHeartbeats 1000000 in
theorem isEquation_c (p u : Int) (x : Eqn) (v0 v1 : Value) (w : World) (hx : Rd w [v0, v1] x) (h0 : -1000 ≤ p) (h1 : p ≤ 1000000000) :
    Calls Tryz.prog 40 #[.int .i64 p, .int .i64 u, .agg #[v0, v1]] w fun e w' => e = .returned (.bool (eqnOk p u x)) ∧ Below w.heap.size w w' := by
  obtain ⟨l, n⟩ := x
  have z := rd_cons rfl hx
  have RL := Lib.hid z.1
  obtain ⟨a, c, rfl, _⟩ := rd_list RL.out
  obtain ⟨rfl, _⟩ := rd_i1 z.2
  clear hx z
  have hs := (St.start w).alloc #[.slice a l.length c, .int .i64 n] 73 rfl
  go_enter Tryz.func40, Tryz.ntmps40
  go_wp2_with fail
  refine (areValues_c p l _ u _ (Rd.mono RL.out hs.bel) h0 h1).mono ?_
  rintro e w1 ⟨rfl, hb1⟩
  have hs1 := hs.step hb1
  have q0 := hs1.cellAt 0 rfl 0 rfl
  have q1 := hs1.cellAt 0 rfl 1 rfl
  cases hv : valsOk p l u with
  | true =>
    have HV := Lib.hid hv
    clear hv
    go_wp2_with fail
    refine (isValue_c p n _ h0 h1).mono ?_
    rintro e w2 ⟨rfl, rfl⟩
    go_wp2_with fail
    go_ret
    exact ⟨ret_bool (by simp [eqnOk, HV.out]), hs1.bel⟩
  | false =>
    have HV := Lib.hid hv
    clear hv
    go_wp2_with fail
    go_ret
    exact ⟨ret_bool (by simp [eqnOk, HV.out]), hs1.bel⟩
set_option maxHeartbeats 400000 in
theorem validSystem1_by (p u : Int) (b : Nat) (w : World) (l : List Eqn) (h0 : -1000 ≤ p) (h1 : p ≤ 1000000000) (hc0 : w.cell? ⟨b, 0, none⟩ = some (.int .i64 p)) (hc1 : w.cell? ⟨b, 1, none⟩ = some (.int .i64 u)) :
    PredE 39 #[.pointer (some ⟨b, 0, none⟩)] w l (fun e => !eqnOk p u e) := by
  intro W x v0 v1 hb hx _
  have hc0' := cellL hb hc0
  have hc1' := cellL hb hc1
  show Calls Tryz.prog 39 #[_, .pointer (some ⟨b, 0, none⟩)] W _
  have hb' := World.block_lt_of_cell? _ _ hc0'
  have HX := Lib.hid hx
  have z := rd_cons rfl hx
  obtain ⟨a, c, rfl, _⟩ := rd_list z.1
  obtain ⟨rfl, _⟩ := rd_i1 z.2
  clear hx z
  have hs := (St.start W).alloc #[.slice a x.1.length c, .int .i64 x.2] 73 rfl
  have hd0 := cellL hs.bel hc0'
  have hd1 := cellL hs.bel hc1'
  go_enter Tryz.func39, Tryz.ntmps39
  go_wp2_with fail
  refine (isEquation_c p u x _ _ _ (Rd.mono HX.out hs.bel) h0 h1).mono ?_
  rintro e w1 ⟨rfl, hb1⟩
  go_wp2_with fail
  go_ret
  exact ⟨rfl, (hs.step hb1).bel⟩
set_option maxRecDepth 100000 in
set_option maxHeartbeats 1000000 in
theorem ValidSystem_c (x : Sys) (v0 v1 v2 : Value) (w : World) (hx : Rd w [v0, v1, v2] x) :
    Calls Tryz.prog 11 #[.agg #[v0, v1, v2]] w fun e w' => e = .returned (.bool (validS x)) ∧ Below w.heap.size w w' := by
  obtain ⟨p, u, l⟩ := x
  have z := rd_cons rfl hx
  obtain ⟨rfl, _⟩ := rd_i1 z.1
  have z2 := rd_cons rfl z.2
  obtain ⟨rfl, _⟩ := rd_i1 z2.1
  have RL := Lib.hid z2.2
  obtain ⟨a, c, rfl, hr⟩ := rd_list RL.out
  have hb := (rdSl_len hr).2
  unfold maxLen at hb
  clear hx z z2 hr
  have hs := (St.start w).alloc #[.int .i64 p, .int .i64 u, .slice a l.length c] 26 rfl
  have eg : ∀ args w, (callFunc 39 args).run Tryz.prog w = .ok (.enter 39 args) w := enters_of Tryz.func39 (by kernel_rfl) rfl
  go_enter Tryz.func11, Tryz.ntmps11
  go_wp2_with fail
  refine (isPrime_c p _).mono ?_
  rintro e w1 ⟨rfl, rfl⟩
  cases hp : isPr p with
  | false =>
    have HP := Lib.hid hp
    clear hp
    go_wp2_with fail
    go_ret
    exact ⟨ret_bool (by simp [validS, HP.out]), hs.bel⟩
  | true =>
    have hpp := isPr_true hp
    have HP := Lib.hid hp
    clear hp
    go_wp2_with fail
    refine (within_c u 1 12 _).mono ?_
    rintro e w1 ⟨rfl, rfl⟩
    cases hu : inB u 1 12 with
    | false =>
      have HU := Lib.hid hu
      clear hu
      go_wp2_with fail
      go_ret
      exact ⟨ret_bool (by simp [validS, HU.out]), hs.bel⟩
    | true =>
      have HU := Lib.hid hu
      clear hu
      by_cases hl : l.length ≤ 24
      · have HL := Lib.hid hl
        go_wp2_with fail
        refine (containsEqns_c l _ 39 _ _ _ (Rd.mono RL.out hs.bel) eg (validSystem1_by p u w.heap.size _ l (by omega) (by omega) (hs.cellAt 0 rfl 0 rfl) (hs.cellAt 0 rfl 1 rfl))).mono ?_
        rintro e w1 ⟨rfl, hb1⟩
        go_wp2_with fail
        go_ret
        refine ⟨ret_bool ?_, (hs.step hb1).bel⟩
        unfold validS
        simp only [HP.out, HU.out, decide_eq_true HL.out, Bool.true_and]
        rw [← all_of_any]
      · have HL := Lib.hid hl
        go_wp2_with fail
        go_ret
        exact ⟨ret_bool (by simp only [validS, decide_eq_false HL.out, Bool.and_false, Bool.false_and]), hs.bel⟩
set_option maxRecDepth 100000 in
set_option maxHeartbeats 1000000 in
theorem l07Equation_c (p u : Int) (x : Eqn) (b o : Nat) (v0 v1 : Value) (w : World) (hx : Rd w [v0, v1] x) (c0 : w.cell? ⟨b, o, none⟩ = some v0) (c1 : w.cell? ⟨b, o + 1, none⟩ = some v1) (h0 : -1000 ≤ p) (h1 : p ≤ 1000000000) :
    Calls Tryz.prog 67 #[.int .i64 p, .int .i64 u, .pointer (some ⟨b, o, none⟩)] w fun e w' => e = .returned (.bool (eqnOk p u x)) ∧ w = w' := by
  obtain ⟨l, n⟩ := x
  have z := rd_cons rfl hx
  obtain ⟨a, c, rfl, hr⟩ := rd_list z.1
  obtain ⟨rfl, _⟩ := rd_i1 z.2
  have hb := (rdSl_len hr).2
  unfold maxLen at hb
  have HR := Lib.hid hr
  clear hx z hr
  by_cases hn : (l.length : Int) = u
  rotate_left
  · have hn1 : ((l.length : Int) != u) = true := by simpa using hn
    have HN := Lib.hid hn
    clear hn
    go_enter Tryz.func67, Tryz.ntmps67
    go_wp2_with fail
    go_ret
    exact ⟨ret_bool (by simp [eqnOk, valsOk, HN.out]), rfl⟩
  have hn1 : ((l.length : Int) != u) = false := by simpa using hn
  have HN := Lib.hid hn
  clear hn
  go_enter Tryz.func67, Tryz.ntmps67
  go_wp2_with fail
  refine (l00In_c n 0 (p - 1) _).mono ?_
  rintro e w1 ⟨rfl, rfl⟩
  cases hi : inB n 0 (p - 1) with
  | false =>
    have HI := Lib.hid hi
    clear hi
    go_wp2_with fail
    go_ret
    exact ⟨ret_bool (by simp [eqnOk, HI.out]), rfl⟩
  | true =>
    have HI := Lib.hid hi
    clear hi
    go_wp2_with fail
    go_loopw [7] (fun i wr => ∃ k : Nat, k ≤ l.length ∧ i = .int .i64 k ∧ wr = w ∧ Hid (∀ j (hj : j < l.length), j < k → inB l[j] 0 (p - 1) = true)) (fun i _ => l.length - (intOf i).toNat)
    case atStart => exact ⟨0, Nat.zero_le _, rfl, rfl, fun j _ hj => absurd hj (Nat.not_lt_zero _)⟩
    case round =>
      obtain ⟨k, hk, rfl, rfl, hr⟩ := hrel
      by_cases hlt : k < l.length
      · obtain ⟨b', o', rfl, hc, _⟩ := rdSl_int HR.out k hlt
        have hc' : wr.cell? ⟨b', o' + k, none⟩ = some (.int .i64 l[k]) := by simpa [List.getD, hlt] using hc
        clear hc
        go_wp2_with fail
        refine (l00In_c l[k] 0 (p - 1) _).mono ?_
        rintro e w1 ⟨rfl, rfl⟩
        cases hq : inB l[k] 0 (p - 1) with
        | false =>
          have HQ := Lib.hid hq
          clear hq
          go_wp2_with fail
          go_ret
          refine ⟨ret_bool ?_, rfl⟩
          symm
          simp only [eqnOk, valsOk, Bool.and_eq_false_iff]
          exact .inl (.inr (List.all_eq_false.2 ⟨_, List.getElem_mem hlt, by simp [HQ.out]⟩))
        | true =>
          have HQ := Lib.hid hq
          clear hq
          go_wp2_with fail
          go_roundw
          case rel =>
            refine ⟨k + 1, by omega, by go_num, trivial, ?_⟩
            intro j hj hjk
            rcases Nat.lt_or_ge j k with h | h
            · exact hr.out j hj h
            · obtain rfl : j = k := by omega
              exact HQ.out
          case measure => simp [intOf]; omega
      · obtain rfl : k = l.length := by omega
        go_wp2_with fail
        go_ret
        refine ⟨ret_bool ?_, rfl⟩
        symm
        simp only [eqnOk, valsOk, Bool.and_eq_true, List.all_eq_true, HI.out, decide_eq_true HN.out, true_and, and_true]
        intro y hy
        obtain ⟨j, hj, rfl⟩ := List.getElem_of_mem hy
        exact hr.out j hj hj
set_option maxRecDepth 100000 in
set_option maxHeartbeats 2000000 in
theorem l07Ok_c (x : Sys) (b : Nat) (v0 v1 v2 : Value) (w : World) (hx : Rd w [v0, v1, v2] x) (c0 : w.cell? ⟨b, 0, none⟩ = some v0) (c1 : w.cell? ⟨b, 1, none⟩ = some v1) (c2 : w.cell? ⟨b, 2, none⟩ = some v2) :
    Calls Tryz.prog 30 #[.pointer (some ⟨b, 0, none⟩)] w fun e w' => e = .returned (.bool (validS x)) ∧ ∃ n, w' = w.drewN n := by
  obtain ⟨p, u, l⟩ := x
  have z := rd_cons rfl hx
  obtain ⟨rfl, _⟩ := rd_i1 z.1
  have z2 := rd_cons rfl z.2
  obtain ⟨rfl, _⟩ := rd_i1 z2.1
  obtain ⟨a, c, rfl, hr⟩ := rd_list z2.2
  have hb := (rdSl_len hr).2
  unfold maxLen at hb
  have HR := Lib.hid hr
  clear hx z z2 hr
  go_enter Tryz.func30, Tryz.ntmps30
  go_wp2_with fail
  refine (l07Prime_c p _).mono ?_
  rintro e w1 ⟨rfl, rfl⟩
  cases hp : isPr p with
  | false =>
    have HP := Lib.hid hp
    clear hp
    go_wp2_with fail
    go_ret
    exact ⟨ret_bool (by simp [validS, HP.out]), 0, rfl⟩
  | true =>
    have hpp := isPr_true hp
    have HP := Lib.hid hp
    clear hp
    go_wp2_with fail
    refine (l00In_c u 1 12 _).mono ?_
    rintro e w1 ⟨rfl, rfl⟩
    cases hu : inB u 1 12 with
    | false =>
      have HU := Lib.hid hu
      clear hu
      go_wp2_with fail
      go_ret
      exact ⟨ret_bool (by simp [validS, HU.out]), 0, rfl⟩
    | true =>
      have HU := Lib.hid hu
      clear hu
      by_cases hl : 24 < l.length
      · have HL := Lib.hid (show ¬ l.length ≤ 24 by omega)
        go_wp2_with fail
        go_ret
        exact ⟨ret_bool (by simp only [validS, decide_eq_false HL.out, Bool.and_false, Bool.false_and]), 0, rfl⟩
      · have HL := Lib.hid (show l.length ≤ 24 by omega)
        go_wp2_with fail
        go_loopw [3] (fun i wr => ∃ k m : Nat, k ≤ l.length ∧ i = .int .i64 k ∧ wr = w.drewN m ∧ Hid (∀ j (hj : j < l.length), j < k → eqnOk p u l[j] = true)) (fun i _ => l.length - (intOf i).toNat)
        case atStart => exact ⟨0, 0, Nat.zero_le _, rfl, rfl, fun j _ hj => absurd hj (Nat.not_lt_zero _)⟩
        case round =>
          obtain ⟨k, m, hk, rfl, rfl, hr⟩ := hrel
          by_cases hlt : k < l.length
          · obtain ⟨b', o', u0, u1, rfl, q0, q1, hx⟩ := rdSl_two rfl HR.out k hlt
            have HX := Lib.hid hx
            clear hx
            cases hq : eqnOk p u l[k] with
            | false =>
              have HQ := Lib.hid hq
              clear hq
              go_wp2_with fail
              refine wp_region_noPanic (wp_region_el (fun w' => w'.cell? ⟨b, 0, none⟩ = some (.int .i64 p) ∧ w'.cell? ⟨b, 1, none⟩ = some (.int .i64 u) ∧ w'.cell? ⟨b, 2, none⟩ = some (.slice (some ⟨b', o', none⟩) l.length c)) [(0, 0), (1, 0), (2, 0), (3, 0), (4, 0), (5, 0), (6, 0), (7, 0), (8, 0), (9, 0), (10, 0), (11, 0), (12, 0), (13, 0), (14, 1), (15, 0)] (by kernel_rfl) (by kernel_rfl) (by kernel_rfl) rfl ?_ (fun _ _ _ _ _ h => h) ?_)
              · exact ⟨c0, c1, c2⟩
              (repeat (first | (apply el_skip rfl (by rfl); try simp only [Act.put, List.setIfInBounds_toArray, List.set_cons_zero, List.set_cons_succ]) | (apply el_float rfl (by rfl); (· (intro w' hS; go_simp <;> with_reducible rfl)); (try simp only [Act.put, List.setIfInBounds_toArray, List.set_cons_zero, List.set_cons_succ]))))
              refine el_hard rfl (by rfl) (fun K hK => ?_)
              go_wp2_with (go_at_call 67; refine (l07Equation_c p u l[k] b' (o' + k * 2) u0 u1 _ (Rd.mono HX.out (drewN_below w _)) q0 q1 (by omega) (by omega)).mono ?_; rintro e w1 ⟨rfl, rfl⟩)
              rw [HQ.out]
              refine ⟨⟨c0, c1, c2⟩, ?_⟩
              (repeat (first | (apply el_skip rfl (by rfl); try simp only [Act.put, List.setIfInBounds_toArray, List.set_cons_zero, List.set_cons_succ]) | (apply el_float rfl (by rfl); (· (intro w' hS; go_simp <;> with_reducible rfl)); (try simp only [Act.put, List.setIfInBounds_toArray, List.set_cons_zero, List.set_cons_succ]))))
              refine el_nil (NoPanic.normal ?_)
              go_wp2_with fail
              go_ret
              refine ⟨ret_bool ?_, m + 1, rfl⟩
              symm
              simp only [validS, Bool.and_eq_false_iff]
              exact .inr (List.all_eq_false.2 ⟨_, List.getElem_mem hlt, by simp [HQ.out]⟩)
            | true =>
              have HQ := Lib.hid hq
              clear hq
              go_wp2_with fail
              refine wp_region_noPanic (wp_region_el (fun w' => w'.cell? ⟨b, 0, none⟩ = some (.int .i64 p) ∧ w'.cell? ⟨b, 1, none⟩ = some (.int .i64 u) ∧ w'.cell? ⟨b, 2, none⟩ = some (.slice (some ⟨b', o', none⟩) l.length c)) [(0, 0), (1, 0), (2, 0), (3, 0), (4, 0), (5, 0), (6, 0), (7, 0), (8, 0), (9, 0), (10, 0), (11, 0), (12, 0), (13, 0), (14, 1), (15, 0)] (by kernel_rfl) (by kernel_rfl) (by kernel_rfl) rfl ?_ (fun _ _ _ _ _ h => h) ?_)
              · exact ⟨c0, c1, c2⟩
              (repeat (first | (apply el_skip rfl (by rfl); try simp only [Act.put, List.setIfInBounds_toArray, List.set_cons_zero, List.set_cons_succ]) | (apply el_float rfl (by rfl); (· (intro w' hS; go_simp <;> with_reducible rfl)); (try simp only [Act.put, List.setIfInBounds_toArray, List.set_cons_zero, List.set_cons_succ]))))
              refine el_hard rfl (by rfl) (fun K hK => ?_)
              go_wp2_with (go_at_call 67; refine (l07Equation_c p u l[k] b' (o' + k * 2) u0 u1 _ (Rd.mono HX.out (drewN_below w _)) q0 q1 (by omega) (by omega)).mono ?_; rintro e w1 ⟨rfl, rfl⟩)
              rw [HQ.out]
              refine ⟨⟨c0, c1, c2⟩, ?_⟩
              (repeat (first | (apply el_skip rfl (by rfl); try simp only [Act.put, List.setIfInBounds_toArray, List.set_cons_zero, List.set_cons_succ]) | (apply el_float rfl (by rfl); (· (intro w' hS; go_simp <;> with_reducible rfl)); (try simp only [Act.put, List.setIfInBounds_toArray, List.set_cons_zero, List.set_cons_succ]))))
              refine el_nil (NoPanic.normal ?_)
              go_wp2_with fail
              go_roundw
              case rel =>
                refine ⟨k + 1, m + 1, by omega, by go_num, rfl, ?_⟩
                intro j hj hjk
                rcases Nat.lt_or_ge j k with h | h
                · exact hr.out j hj h
                · obtain rfl : j = k := by omega
                  exact HQ.out
              case measure => simp [intOf]; omega
          · obtain rfl : k = l.length := by omega
            go_wp2_with fail
            go_ret
            refine ⟨ret_bool ?_, m, rfl⟩
            symm
            simp only [validS, HP.out, HU.out, decide_eq_true HL.out, Bool.true_and, List.all_eq_true]
            intro y hy
            obtain ⟨j, hj, rfl⟩ := List.getElem_of_mem hy
            exact hr.out j hj hj

end Go.Proofs.YthceklaoikeokaaGreatDoor

/-
  CONTRACTS: HoldsIn of the program and of the reference.
-/
namespace Go.Proofs.YthceklaoikeokaaGreatDoor
open Go.RowKit Go.Shelf
open Rep (Rd Own sz)
set_option linter.unusedSimpArgs false
set_option linter.unusedVariables false

def dotI (l vs : List Int) : Int := (List.zipWith (· * ·) l vs).sum
theorem dotI_succ {l vs : List Int} {k : Nat} (h : k < l.length) (h2 : k < vs.length) : dotI (l.take (k + 1)) (vs.take (k + 1)) = dotI (l.take k) (vs.take k) + l[k] * vs[k] := by
  unfold dotI
  rw [List.take_succ_eq_append_getElem h, List.take_succ_eq_append_getElem h2, List.zipWith_append (by simp; omega), List.sum_append]
  simp
def holdsE (p : Int) (vs : List Int) (e : Eqn) : Bool := decide (dotI e.1 vs % p = e.2)
def holdsF (s : Sys) (vs : List Int) : Bool × Int :=
  if validS s = true then (if valsOk s.1 vs s.2.1 = true then (s.2.2.all (holdsE s.1 vs), 0) else (false, 2)) else (false, 1)
theorem valsOk_get {p n : Int} {l : List Int} (h : valsOk p l n = true) : (l.length : Int) = n ∧ ∀ k (hk : k < l.length), 0 ≤ l[k] ∧ l[k] ≤ p - 1 := by
  simp only [valsOk, Bool.and_eq_true, decide_eq_true_eq, List.all_eq_true] at h
  exact ⟨h.1, fun k hk => inB_true (h.2 _ (List.getElem_mem hk))⟩
theorem mul_small {a b p : Int} (ha : 0 ≤ a ∧ a ≤ p - 1) (hb : 0 ≤ b ∧ b ≤ p - 1) (hp : p ≤ 3) : 0 ≤ a * b ∧ a * b ≤ 4 := by
  refine ⟨Int.mul_nonneg ha.1 hb.1, ?_⟩
  have h1 : a * b ≤ 2 * b := Int.mul_le_mul_of_nonneg_right (by omega) hb.1
  omega

set_option maxRecDepth 100000 in
set_option maxHeartbeats 1000000 in
theorem isTrue_c (p u : Int) (x : Eqn) (vs : List Int) (v0 v1 v2 : Value) (w : World) (hx : Rd w [v0, v1] x) (hv : Rd w [v2] vs) (hp0 : 1 ≤ p) (hp : p ≤ 3) (hu : u ≤ 1000) (he : eqnOk p u x = true) (ho : valsOk p vs u = true) :
    Calls Tryz.prog 50 #[.int .i64 p, .agg #[v0, v1], v2] w fun e w' => e = .returned (.bool (holdsE p vs x)) ∧ Below w.heap.size w w' := by
  obtain ⟨l, n⟩ := x
  have z := rd_cons rfl hx
  obtain ⟨a, c, rfl, hr⟩ := rd_list z.1
  obtain ⟨rfl, _⟩ := rd_i1 z.2
  obtain ⟨a', c', rfl, hr'⟩ := rd_list hv
  simp only [eqnOk, Bool.and_eq_true] at he
  obtain ⟨l1, l2⟩ := valsOk_get he.1
  obtain ⟨o1, o2⟩ := valsOk_get ho
  have HR := Lib.hid hr
  have HR' := Lib.hid hr'
  have L2 := Lib.hid l2
  have O2 := Lib.hid o2
  have HLEN := Lib.hid (show l.length = vs.length by omega)
  have hlen : l.length ≤ 1000 := by omega
  clear hx z hr hv hr' he ho l2 o2 l1 o1
  have hs := (St.start w).alloc #[.slice a l.length c, .int .i64 n] 73 rfl
  go_enter Tryz.func50, Tryz.ntmps50
  go_wp2_with fail
  go_loopw [7, 13] (fun s i wr => ∃ (k : Nat) (S : Int), k ≤ l.length ∧ s = .int .i64 S ∧ i = .int .i64 k ∧ 0 ≤ S ∧ S ≤ 4 * k ∧ wr = (w.alloc (.cells #[.slice a l.length c, .int .i64 n] 73)) ∧ Hid (S = dotI (l.take k) (vs.take k))) (fun _ i _ => l.length - (intOf i).toNat)
  case atStart => exact ⟨0, 0, Nat.zero_le _, rfl, rfl, by omega, by omega, rfl, by simp [Hid, dotI]⟩
  case round =>
    obtain ⟨k, S, hk, rfl, rfl, S0, S1, rfl, hS⟩ := hrel
    by_cases hlt : k < l.length
    · have k2 : k < vs.length := by rw [← HLEN.out]; exact hlt
      have hm := mul_small (L2.out k hlt) (O2.out k k2) hp
      have hd := Lib.hid (dotI_succ hlt k2)
      have iA := L2.out k hlt
      have iB := O2.out k k2
      obtain ⟨b1, o1, rfl, f1, _⟩ := rdSl_int HR.out k hlt
      obtain ⟨b2, o2, rfl, f2, _⟩ := rdSl_int HR'.out k k2
      have g1 : w.cell? ⟨b1, o1 + k, none⟩ = some (.int .i64 l[k]) := by simpa [List.getD, hlt] using f1
      have g2 : w.cell? ⟨b2, o2 + k, none⟩ = some (.int .i64 vs[k]) := by simpa [List.getD, k2] using f2
      have h1 := cellL (belowA w (.cells #[.slice (some ⟨b1, o1, none⟩) l.length c, .int .i64 n] 73)) g1
      have h2 := cellL (belowA w (.cells #[.slice (some ⟨b1, o1, none⟩) l.length c, .int .i64 n] 73)) g2
      clear f1 f2 g1 g2
      have kv : (k : Int) < vs.length := by omega
      generalize l[k] = A at *
      generalize vs[k] = B at *
      go_wp2_with fail
      go_roundw
      case rel => exact ⟨k + 1, S + A * B, by omega, rfl, by go_num, by omega, by omega, trivial, by simp only [Hid]; rw [hd.out, ← hS.out]⟩
      case measure => simp [intOf]; omega
    · obtain rfl : k = l.length := by omega
      have q1 := hs.cellAt 0 rfl 1 rfl
      have hp1 : p ≠ 0 := by omega
      have hT : S.tmod p = S % p := Int.tmod_eq_emod_of_nonneg S0
      have hb0 := Int.emod_nonneg S hp1
      have hb1 := Int.emod_lt_of_pos S (show 0 < p by omega)
      go_wp2_with fail
      go_quiet (fail)
      go_wp2_with fail
      go_ret
      refine ⟨ret_bool ?_, hs.bel.trans ((drewN_below _ _).mono hs.bel.size)⟩
      have h1 := hS.out
      rw [List.take_of_length_le (Nat.le_refl _), List.take_of_length_le (by rw [HLEN.out]; exact Nat.le_refl _)] at h1
      simp only [holdsE, ← h1]
      first | rfl | (rw [hT]; by_cases hq : S % p = n <;> simp [hq]) | (by_cases hq : S % p = n <;> simp [hq])
set_option maxHeartbeats 400000 in
theorem holdsIn1_by (p u : Int) (vs : List Int) (b1 b2 : Nat) (v2 : Value) (w : World) (l : List Eqn) (hp0 : 1 ≤ p) (hp : p ≤ 3) (hu : u ≤ 1000) (he : ∀ e, e ∈ l → eqnOk p u e = true) (ho : valsOk p vs u = true) (hv : Rd w [v2] vs) (hc0 : w.cell? ⟨b1, 0, none⟩ = some (.int .i64 p)) (hc1 : w.cell? ⟨b2, 0, none⟩ = some v2) :
    PredE 49 #[.pointer (some ⟨b1, 0, none⟩), .pointer (some ⟨b2, 0, none⟩)] w l (fun e => !holdsE p vs e) := by
  intro W x v0 v1 hb hx hm
  have hc0' := cellL hb hc0
  have hc1' := cellL hb hc1
  obtain ⟨a', c', rfl, _⟩ := rd_list hv
  have HV := Lib.hid (Rd.mono hv hb)
  have HE := Lib.hid (he x hm)
  have HO := Lib.hid ho
  show Calls Tryz.prog 49 #[_, .pointer (some ⟨b1, 0, none⟩), .pointer (some ⟨b2, 0, none⟩)] W _
  have HX := Lib.hid hx
  have z := rd_cons rfl hx
  obtain ⟨a, c, rfl, _⟩ := rd_list z.1
  obtain ⟨rfl, _⟩ := rd_i1 z.2
  clear hx z hv he ho
  have hs := (St.start W).alloc #[.slice a x.1.length c, .int .i64 x.2] 73 rfl
  have hd0 := cellL hs.bel hc0'
  have hd1 := cellL hs.bel hc1'
  go_enter Tryz.func49, Tryz.ntmps49
  go_wp2_with fail
  refine (isTrue_c p u x vs _ _ _ _ (Rd.mono HX.out hs.bel) (Rd.mono HV.out hs.bel) hp0 hp hu HE.out HO.out).mono ?_
  rintro e w1 ⟨rfl, hb1⟩
  go_wp2_with fail
  go_ret
  exact ⟨rfl, (hs.step hb1).bel⟩
set_option maxRecDepth 100000 in
set_option maxHeartbeats 1000000 in
theorem HoldsIn_c (x : Sys) (v0 v1 v2 : Value) (vs : List Int) (v3 : Value) (w : World) (hx : Rd w [v0, v1, v2] x) (hv : Rd w [v3] vs) :
    Calls Tryz.prog 18 #[.agg #[v0, v1, v2], v3] w fun e w' => e = .returned (.tuple #[.bool (holdsF x vs).1, .int .i64 (holdsF x vs).2]) ∧ Below w.heap.size w w' := by
  obtain ⟨p, u, l⟩ := x
  have HX := Lib.hid hx
  have HV := Lib.hid hv
  have z := rd_cons rfl hx
  obtain ⟨rfl, _⟩ := rd_i1 z.1
  have z2 := rd_cons rfl z.2
  obtain ⟨rfl, _⟩ := rd_i1 z2.1
  have RL := Lib.hid z2.2
  obtain ⟨a, c, rfl, _⟩ := rd_list RL.out
  obtain ⟨a', c', rfl, _⟩ := rd_list hv
  clear hx z z2 hv
  have hs := ((St.start w).alloc #[.int .i64 p, .int .i64 u, .slice a l.length c] 26 rfl).alloc #[.slice a' vs.length c'] 28 (n := w.heap.size + 1) (by simp)
  have eg : ∀ args w, (callFunc 49 args).run Tryz.prog w = .ok (.enter 49 args) w := enters_of Tryz.func49 (by kernel_rfl) rfl
  have k0 := hs.cellAt 0 rfl 0 rfl
  have k1 := hs.cellAt 0 rfl 1 rfl
  have k2 := hs.cellAt 0 rfl 2 rfl
  have k3 := hs.cellAt 1 rfl 0 rfl
  go_enter Tryz.func18, Tryz.ntmps18
  go_wp2_with fail
  refine (ValidSystem_c (p, u, l) _ _ _ _ (Rd.mono HX.out hs.bel)).mono ?_
  rintro e w1 ⟨rfl, hb1⟩
  have hs1 := hs.step hb1
  clear k0 k1 k2 k3
  have p0 := hs1.cellAt 0 rfl 0 rfl
  have p1 := hs1.cellAt 0 rfl 1 rfl
  have p2 := hs1.cellAt 0 rfl 2 rfl
  have q0 := hs1.cellAt 1 rfl 0 rfl
  cases hok : validS (p, u, l) with
  | false =>
    have HK := Lib.hid hok
    clear hok
    go_wp2_with fail
    refine bodyPost_ret (v := .tuple #[.bool false, .int .i64 1]) (by simp [results, Tryz.results18, go_sem]) rfl ⟨?_, hs1.bel⟩
    unfold holdsF; rw [HK.out]; rfl
  | true =>
    obtain ⟨hp, hu, hl, he⟩ := validS_get hok
    have HK := Lib.hid hok
    have HE := Lib.hid he
    clear hok he
    go_wp2_with fail
    refine (areValues_c p vs _ u _ (Rd.mono HV.out hs1.bel) (by omega) (by omega)).mono ?_
    rintro e w2 ⟨rfl, hb2⟩
    have hs2 := hs1.step hb2
    clear p0 p1 p2 q0
    have p0 := hs2.cellAt 0 rfl 0 rfl
    have p2 := hs2.cellAt 0 rfl 2 rfl
    have q0 := hs2.cellAt 1 rfl 0 rfl
    cases hvo : valsOk p vs u with
    | false =>
      have HO := Lib.hid hvo
      clear hvo
      go_wp2_with fail
      refine bodyPost_ret (v := .tuple #[.bool false, .int .i64 2]) (by simp [results, Tryz.results18, go_sem]) rfl ⟨?_, hs2.bel⟩
      unfold holdsF; simp only [HK.out, HO.out]; rfl
    | true =>
      have HO := Lib.hid hvo
      clear hvo
      go_wp2_with fail
      refine (containsEqns_c l _ 49 _ _ _ (Rd.mono RL.out hs2.bel) eg (holdsIn1_by p u vs _ _ _ _ l (by omega) (by omega) (by omega) HE.out HO.out (Rd.mono HV.out hs2.bel) p0 q0)).mono ?_
      rintro e w3 ⟨rfl, hb3⟩
      go_wp2_with fail
      refine bodyPost_ret (v := .tuple #[.bool (!l.any fun e => !holdsE p vs e), .int .i64 0]) (by simp [results, Tryz.results18, go_sem]) rfl ⟨?_, (hs2.step hb3).bel⟩
      rw [all_of_any]
      unfold holdsF; simp only [HK.out, HO.out]; rfl

end Go.Proofs.YthceklaoikeokaaGreatDoor

/-
  CONTRACTS: IsRefutation of the program and of the reference. (Printed by wip/genref.py.)
-/
namespace Go.Proofs.YthceklaoikeokaaGreatDoor
open Go.RowKit Go.Shelf Go.IntWalk
open Rep (Rd Own sz)
set_option linter.unusedSimpArgs false
set_option linter.unusedVariables false

def isRefRow (p : Int) (l : List Eqn) (b : List Int) (U : Nat) : Nat → RowT
  | 0 => (List.replicate (U + 1) 0, [])
  | j + 1 => addR p (b.getD j 0) (isRefRow p l b U j) ((l.getD j ([], 0)).1 ++ [(l.getD j ([], 0)).2], [])
def isRefS (p : Int) (l : List Eqn) (b : List Int) (U : Nat) : Nat → SRow
  | 0 => (List.replicate U 0, 0, [])
  | j + 1 => lessS p (p - b.getD j 0) (isRefS p l b U j) ((l.getD j ([], 0)).1, (l.getD j ([], 0)).2, [])
def isRefF (s : Sys) (b : List Int) : Bool × Int :=
  if validS s = true then (if valsOk s.1 b s.2.2.length = true then (contrQ (isRefRow s.1 s.2.2 b s.2.1.toNat s.2.2.length), 0) else (false, 0)) else (false, 1)
theorem eqn_good {p : Int} {U : Nat} {e : Eqn} (h : eqnOk p U e = true) : e.1.length = U ∧ Res p e.1 ∧ 0 ≤ e.2 ∧ e.2 < p := by
  simp only [eqnOk, Bool.and_eq_true] at h
  obtain ⟨h1, h2⟩ := valsOk_get h.1
  have h3 := inB_true h.2
  refine ⟨by omega, fun a ha => ?_, h3.1, by omega⟩
  obtain ⟨i, hi, rfl⟩ := List.getElem_of_mem ha
  have := h2 i hi
  omega
theorem getD_eqn {p : Int} {U : Nat} {l : List Eqn} (he : ∀ e, e ∈ l → eqnOk p U e = true) {j : Nat} (hj : j < l.length) : eqnOk p U (l.getD j ([], 0)) = true := by
  simp only [List.getD, List.getElem?_eq_getElem hj, Option.getD_some]; exact he _ (List.getElem_mem hj)
theorem isRef_good {p : Int} {U : Nat} {l : List Eqn} (b : List Int) (hp : 2 ≤ p) (he : ∀ e, e ∈ l → eqnOk p U e = true) : ∀ j, j ≤ l.length → GoodS p U 0 (isRefS p l b U j)
  | 0, _ => ⟨by simp [isRefS], rfl, fun a ha => by have := List.eq_of_mem_replicate ha; omega, ⟨Int.le_refl _, by show (0 : Int) < p; omega⟩, fun a ha => by cases ha⟩
  | j + 1, hj => by
    have h := eqn_good (getD_eqn he (by omega : j < l.length))
    exact goodS_less (by omega) _ (isRef_good b hp he j (by omega)) ⟨h.1, rfl, h.2.1, h.2.2, fun a ha => by cases ha⟩
theorem isRef_flat {p : Int} {U : Nat} {l : List Eqn} (b : List Int) (hp : 2 ≤ p) (he : ∀ e, e ∈ l → eqnOk p U e = true) : ∀ j, j ≤ l.length → flat (isRefS p l b U j) = isRefRow p l b U j
  | 0, _ => by
    unfold isRefS isRefRow flat
    simp only
    rw [List.replicate_succ']
  | j + 1, hj => by
    have h := eqn_good (getD_eqn he (by omega : j < l.length))
    have ho : GoodS p U 0 ((l.getD j ([], 0)).1, (l.getD j ([], 0)).2, []) := ⟨h.1, rfl, h.2.1, h.2.2, fun a ha => by cases ha⟩
    unfold isRefS isRefRow
    rw [flat_less _ (isRef_good b hp he j (by omega)) ho, isRef_flat b hp he j (by omega), show p - (p - b.getD j 0) = b.getD j 0 by omega]
    rfl
theorem flat_good {p : Int} {U n : Nat} {r : SRow} (h : GoodS p U n r) : (flat r).1.length = U + 1 ∧ (flat r).2.length = n ∧ Res p (flat r).1 ∧ Res p (flat r).2 := by
  refine ⟨by simp [flat, h.len], h.by_, fun a ha => ?_, h.resBy⟩
  rcases List.mem_append.1 ha with ha | ha
  · exact h.res a ha
  · obtain rfl : a = r.2.1 := by simpa using ha
    exact h.right
theorem res_snoc {p : Int} {l : List Int} {x : Int} (h : Res p l) (hx : 0 ≤ x ∧ x < p) : Res p (l ++ [x]) := fun a ha => by
  rcases List.mem_append.1 ha with ha | ha
  · exact h a ha
  · obtain rfl : a = x := by simpa using ha
    exact hx
theorem fresh_int {H : Nat} {w : World} {n : Int} (h : I64 n) : Fresh H w [.int .i64 n] n := ⟨[], ⟨rfl, rfl, h⟩, by simp, by simp⟩
theorem res_getD {p : Int} {b : List Int} {n : Int} (h : valsOk p b n = true) {j : Nat} (hj : j < b.length) : 0 ≤ b.getD j 0 ∧ b.getD j 0 < p := by
  have := (valsOk_get h).2 j hj
  simp only [List.getD, List.getElem?_eq_getElem hj, Option.getD_some]
  omega

set_option maxRecDepth 100000 in
set_option maxHeartbeats 4000000 in
theorem IsRefutation_c (x : Sys) (v0 v1 v2 : Value) (vs : List Int) (v3 : Value) (w : World) (hx : Rd w [v0, v1, v2] x) (hv : Rd w [v3] vs) :
    Calls Tryz.prog 16 #[.agg #[v0, v1, v2], v3] w fun e w' => e = .returned (.tuple #[.bool (isRefF x vs).1, .int .i64 (isRefF x vs).2]) ∧ Below w.heap.size w w' := by
  obtain ⟨p, u, l⟩ := x
  have HX := Lib.hid hx
  have HV := Lib.hid hv
  have z := rd_cons rfl hx
  obtain ⟨rfl, _⟩ := rd_i1 z.1
  have z2 := rd_cons rfl z.2
  obtain ⟨rfl, _⟩ := rd_i1 z2.1
  have RL := Lib.hid z2.2
  obtain ⟨a, c, rfl, _⟩ := rd_list RL.out
  obtain ⟨a', c', rfl, _⟩ := rd_list hv
  clear hx z z2 hv
  have hs := (St.start w).alloc #[.int .i64 p, .int .i64 u, .slice a l.length c] 26 rfl
  go_enter Tryz.func16, Tryz.ntmps16
  go_wp2_with fail
  refine (ValidSystem_c (p, u, l) _ _ _ _ (Rd.mono HX.out hs.bel)).mono ?_
  rintro e w1 ⟨rfl, hb1⟩
  have hs1 := hs.step hb1
  have q0 := hs1.cellAt 0 rfl 0 rfl
  have q1 := hs1.cellAt 0 rfl 1 rfl
  have q2 := hs1.cellAt 0 rfl 2 rfl
  cases hok : validS (p, u, l) with
  | false =>
    have HK := Lib.hid hok
    clear hok
    go_wp2_with fail
    refine bodyPost_ret (v := .tuple #[.bool false, .int .i64 1]) (by simp [results, Tryz.results16, go_sem]) rfl ⟨?_, hs1.bel⟩
    unfold isRefF; rw [HK.out]; rfl
  | true =>
    obtain ⟨hp, hu, hl, he⟩ := validS_get hok
    have HK := Lib.hid hok
    have HE := Lib.hid he
    clear hok he
    go_wp2_with fail
    refine (areValues_c p vs _ l.length _ (Rd.mono HV.out hs1.bel) (by omega) (by omega)).mono ?_
    rintro e w2 ⟨rfl, hb2⟩
    have hs2 := hs1.step hb2
    clear q0 q1 q2
    have q0 := hs2.cellAt 0 rfl 0 rfl
    have q1 := hs2.cellAt 0 rfl 1 rfl
    have q2 := hs2.cellAt 0 rfl 2 rfl
    cases hvo : valsOk p vs l.length with
    | false =>
      have HO := Lib.hid hvo
      clear hvo
      go_wp2_with fail
      refine bodyPost_ret (v := .tuple #[.bool false, .int .i64 0]) (by simp [results, Tryz.results16, go_sem]) rfl ⟨?_, hs2.bel⟩
      unfold isRefF; simp only [HK.out, HO.out]; rfl
    | true =>
      have HO := Lib.hid hvo
      have hvl := (valsOk_get hvo).1
      clear hvo
      obtain ⟨U, rfl⟩ : ∃ U : Nat, u = U := ⟨u.toNat, by omega⟩
      have hp0 : 2 ≤ p := by omega
      have hp3 : p ≤ 3 := by omega
      have HG := Lib.hid (fun j hj => flat_good (isRef_good vs hp0 HE.out j hj))
      have HF := Lib.hid (fun j hj => isRef_flat vs hp0 HE.out j hj)
      go_wp2_with (at_make; refine wpList_make_rep _ rfl _ _ 28 rfl E_ints (0 : Int) own0_int (U + 1) (by omega) rfl rfl ?_)
      intro w3 hown hb3 hz3
      have hs3 := (hs2.step hb3).alloc #[.slice (some ⟨w2.heap.size, 0, none⟩) (U + 1) (U + 1), .slice none 0 0] 53 (n := w2.heap.size + 1) hz3.symm
      have hR0 := Lib.hid (ownSl_rd hown)
      clear hown q0 q1 q2
      have q2 := hs3.cellAt 0 rfl 2 rfl
      go_wp2_with fail
      go_loopw [30] (fun i wr => ∃ (j : Nat) (am : Option Addr) (cm : Nat) (an : Option Addr) (cn : Nat), j ≤ l.length ∧ i = .int .i64 j ∧ Hid (St w wr.heap.size wr [(w.heap.size, #[.int .i64 p, .int .i64 U, .slice a l.length c], 26), (w2.heap.size + 1, #[.slice am (U + 1) cm, .slice an 0 cn], 53)]) ∧ Hid (Rd wr [.slice am (U + 1) cm, .slice an 0 cn] (isRefRow p l vs U j))) (fun i _ => l.length - (intOf i).toNat)
      case atStart =>
        refine ⟨0, some ⟨w2.heap.size, 0, none⟩, U + 1, none, 0, Nat.zero_le _, rfl, hs3.up hs3.hi (Nat.le_refl _), ?_⟩
        exact mk_cons (Rd.mono hR0.out (belowA _ _)) ⟨none, 0, rfl, by simp, by simp, fun i hi => by simp at hi⟩
      case round =>
        obtain ⟨j, am, cm, an, cn, hj, rfl, hst, hrd⟩ := hrel
        by_cases hlt : j < l.length
        · obtain ⟨bl, ol, y0, y1, rfl, f0, f1, hx⟩ := rd_two_at rfl (Rd.mono RL.out hst.out.bel) j hlt
          obtain ⟨bv, ov, rfl, fv, hIv⟩ := rd_int_at HV.out j (by omega)
          have hge := Lib.hid (getD_eqn HE.out hlt)
          have gv := res_getD HO.out (show j < vs.length by omega)
          have eE : l.getD j ([], 0) = l[j] := by simp [List.getD, hlt]
          have eV : vs.getD j 0 = vs[j]'(by omega) := by simp [List.getD, show j < vs.length by omega]
          have hstep := Lib.hid (show isRefRow p l vs U (j + 1) = addR p (vs.getD j 0) (isRefRow p l vs U j) ((l.getD j ([], 0)).1 ++ [(l.getD j ([], 0)).2], []) from rfl)
          rw [eV] at gv hstep
          rw [eE] at hge hstep
          have hg := HG.out j hj
          rw [HF.out j hj] at hg
          have HGJ := Lib.hid hg
          have hg1 := HG.out (j + 1) hlt
          rw [HF.out (j + 1) hlt] at hg1
          have HGJ1 := Lib.hid hg1
          clear hg hg1 eE
          have HXE := Lib.hid hx
          clear hx
          generalize hB : vs[j]'(by omega) = B at *
          clear hB eV
          generalize hEE : l[j] = E at *
          clear hEE
          obtain ⟨El, Er⟩ := E
          have ze := rd_cons rfl HXE.out
          have RE := Lib.hid ze.1
          obtain ⟨ae, ce, rfl, _⟩ := rd_list RE.out
          obtain ⟨rfl, hIr⟩ := rd_i1 ze.2
          obtain ⟨gE1, gE2, gE3⟩ := eqn_good hge.out
          simp only at gE1 gE2 gE3
          have GE1 := Lib.hid gE1
          have GE2 := Lib.hid gE2
          clear ze HXE hge gE1 gE2
          have hs4 := hst.out.alloc #[.slice ae El.length ce, .int .i64 Er] 73 rfl
          have hsd := hs4.drew
          have hjv : (j : Int) < vs.length := by omega
          have hzw : w.heap.size < w2.heap.size := Nat.lt_of_lt_of_le (hs2.box _ (List.mem_of_getElem? (i := 0) rfl)).2.1 hs2.hi
          have hzr : w2.heap.size + 1 < wr.heap.size := (hst.out.box _ (List.mem_of_getElem? (i := 1) rfl)).2.1
          have hU : El.length ≤ 12 := by rw [GE1.out]; omega
          have hq := ((St.start wr).alloc #[.slice ae El.length ce, .int .i64 Er] 73 rfl).drew
          go_wp2_with fail
          refine wp_region_noPanic (wp_region_tree (fun w' => w'.cell? ⟨w.heap.size, 0, none⟩ = some (.int .i64 p) ∧ w'.cell? ⟨w2.heap.size + 1, 0, none⟩ = some (.slice am (U + 1) cm) ∧ w'.cell? ⟨w2.heap.size + 1, 1, none⟩ = some (.slice an 0 cn) ∧ w'.cell? ⟨wr.heap.size, 0, none⟩ = some (.slice ae El.length ce) ∧ w'.cell? ⟨wr.heap.size, 1, none⟩ = some (.int .i64 Er) ∧ w'.cell? ⟨bv, ov + j, none⟩ = some (.int .i64 B)) (.float 0 (.float 1 (.float 2 (.float 3 (.float 4 (.float 6 (.float 7 (.float 11 (.float 12 (.float 13 (.float 14 (.fork2 5 (.hard 8 (.hard 9 (.float 10 (.hard 15 (.last 16 .nil))))) 8 (.hard 5 (.hard 9 (.float 10 (.hard 15 (.last 16 .nil))))))))))))))))) (by kernel_rfl) (by kernel_rfl) (by kernel_rfl) rfl ?_ (fun _ _ _ _ _ h => h) ?_)
          · exact ⟨hsd.cellAt 0 rfl 0 rfl, hsd.cellAt 1 rfl 0 rfl, hsd.cellAt 1 rfl 1 rfl, hsd.cellAt 2 rfl 0 rfl, hsd.cellAt 2 rfl 1 rfl, cellL hsd.bel fv⟩
          (repeat (first | (apply tr_skip rfl (by rfl); try simp only [Act.put, List.setIfInBounds_toArray, List.set_cons_zero, List.set_cons_succ]) | (apply tr_float rfl (by rfl); (· (intro w' hS; go_simp <;> with_reducible rfl)); (try simp only [Act.put, List.setIfInBounds_toArray, List.set_cons_zero, List.set_cons_succ]))))
          refine tr_fork2 ?_ ?_
          · refine tr_hard rfl (by rfl) (fun K hK => ?_)
            go_wp2_with (go_at_call 47; refine (cloneIntsA_c El _ _ (Rd.mono RE.out hq.bel) (by omega)).mono ?_; rintro e w4 ⟨b4, rfl, hA4, hb4⟩)
            have hs5 := hsd.step hb4
            have hq5 := hq.step hb4
            obtain ⟨m4, n4, rfl, _⟩ := Acc.len hA4
            refine ⟨⟨hs5.cellAt 0 rfl 0 rfl, hs5.cellAt 1 rfl 0 rfl, hs5.cellAt 1 rfl 1 rfl, hs5.cellAt 2 rfl 0 rfl, hs5.cellAt 2 rfl 1 rfl, cellL hs5.bel fv⟩, ?_⟩
            (repeat (first | (apply tr_skip rfl (by rfl); try simp only [Act.put, List.setIfInBounds_toArray, List.set_cons_zero, List.set_cons_succ]) | (apply tr_float rfl (by rfl); (· (intro w' hS; go_simp <;> with_reducible rfl)); (try simp only [Act.put, List.setIfInBounds_toArray, List.set_cons_zero, List.set_cons_succ]))))
            refine tr_hard rfl (by rfl) (fun K hK => ?_)
            go_wp2_with fail
            have hs5b := hs5.step (belowA _ (.cells #[.int .i64 Er] 2))
            have hq5b := hq5.step (belowA _ (.cells #[.int .i64 Er] 2))
            refine ⟨⟨hs5b.cellAt 0 rfl 0 rfl, hs5b.cellAt 1 rfl 0 rfl, hs5b.cellAt 1 rfl 1 rfl, hs5b.cellAt 2 rfl 0 rfl, hs5b.cellAt 2 rfl 1 rfl, cellL hs5b.bel fv⟩, ?_⟩
            (repeat (first | (apply tr_skip rfl (by rfl); try simp only [Act.put, List.setIfInBounds_toArray, List.set_cons_zero, List.set_cons_succ]) | (apply tr_float rfl (by rfl); (· (intro w' hS; go_simp <;> with_reducible rfl)); (try simp only [Act.put, List.setIfInBounds_toArray, List.set_cons_zero, List.set_cons_succ]))))
            refine tr_hard rfl (by rfl) (fun K hK => ?_)
            refine wp_append_acc _ _ _ _ rfl E_ints rfl (hA4.mono (belowA _ (.cells #[.int .i64 Er] 2))) (fresh_int hIr) (by first | (simp; done) | (have hz4 := hb4.size; simp at hz4 ⊢; omega)) (by simp) ⟨w4.heap.size, 0, none⟩ 1 rfl (fun z u hz => by
              cases z with
              | zero => simp at hz; subst hz; exact (cell_at_block (heap_alloc_new w4 _))
              | succ z => simp at hz) (by omega) ?_
            intro a5 c5 w5 hA5 hB5 _
            have hs6 := hs5b.stepB (hB5.mono (by simp))
            have hq6 := hq5b.stepB (hB5.mono (by simp))
            refine hK _ _ ⟨⟨hs6.cellAt 0 rfl 0 rfl, hs6.cellAt 1 rfl 0 rfl, hs6.cellAt 1 rfl 1 rfl, hs6.cellAt 2 rfl 0 rfl, hs6.cellAt 2 rfl 1 rfl, cellL hs6.bel fv⟩, ?_⟩
            (repeat (first | (apply tr_skip rfl (by rfl); try simp only [Act.put, List.setIfInBounds_toArray, List.set_cons_zero, List.set_cons_succ]) | (apply tr_float rfl (by rfl); (· (intro w' hS; go_simp <;> with_reducible rfl)); (try simp only [Act.put, List.setIfInBounds_toArray, List.set_cons_zero, List.set_cons_succ]))))
            refine tr_hard rfl (by rfl) (fun K hK => ?_)
            go_wp2_with (go_at_call 46; refine (addTimes_c p B (isRefRow p l vs U j) (El ++ [Er], []) _ _ _ _ _ (Rd.mono hrd.out hq6.bel) (mk_cons (by simpa using hA5.rd) ⟨none, 0, rfl, by simp, by simp, fun i hi => by simp at hi⟩) (by rw [HGJ.out.1]; omega) (by rw [HGJ.out.2.1]; omega) hp0 hp3 gv.1 (by omega) HGJ.out.2.2.1 HGJ.out.2.2.2 (res_snoc GE2.out gE3) (fun a ha => by cases ha) (by rw [HGJ.out.1]; simp; rw [GE1.out]; exact Nat.le_refl _) (by simp)).mono ?_; rintro e w6 ⟨o0, o1, rfl, fr, hb6⟩)
            rw [← hstep.out] at fr
            have zz := rd_cons rfl fr.rd
            obtain ⟨a0, c0, h0, _⟩ := rd_list zz.1
            obtain ⟨a1, c1, h1, _⟩ := rd_list zz.2
            rw [HGJ1.out.1] at h0
            rw [HGJ1.out.2.1] at h1
            subst h0 h1
            have hs7 := hs6.step hb6
            refine ⟨⟨hs7.cellAt 0 rfl 0 rfl, hs7.cellAt 1 rfl 0 rfl, hs7.cellAt 1 rfl 1 rfl, hs7.cellAt 2 rfl 0 rfl, hs7.cellAt 2 rfl 1 rfl, cellL hs7.bel fv⟩, ?_⟩
            (repeat (first | (apply tr_skip rfl (by rfl); try simp only [Act.put, List.setIfInBounds_toArray, List.set_cons_zero, List.set_cons_succ]) | (apply tr_float rfl (by rfl); (· (intro w' hS; go_simp <;> with_reducible rfl)); (try simp only [Act.put, List.setIfInBounds_toArray, List.set_cons_zero, List.set_cons_succ]))))
            have g0 := hs7.freeAt 1 rfl 0
            have g1 := hs7.freeAt 1 rfl 1
            have k0 := hs7.cellAt 1 rfl 0 rfl
            have k1 := hs7.cellAt 1 rfl 1 rfl
            have FR := Lib.hid fr
            have hz6 : w2.heap.size + 1 < w5.heap.size := Nat.lt_of_lt_of_le (hs6.box _ (List.mem_of_getElem? (i := 1) rfl)).2.1 hs6.hi
            clear fr zz
            refine tr_last rfl (by rfl) (fun K hK => ?_)
            go_wp2_with fail
            refine tr_nil (NoPanic.normal ?_)
            go_wp2_with fail
            go_roundw
            case rel =>
              have x1 := hs7.set (p := [_]) (by simp <;> omega) 0 (.slice a0 (U + 1) c0)
              have x2 := x1.set (p := [_]) (by simp <;> omega) 1 (.slice a1 0 c1)
              refine ⟨j + 1, a0, c0, a1, c1, hlt, by go_num, (x2.sub (fun x hx => by simp at hx ⊢; rcases hx with rfl | rfl <;> simp)).up x2.hi (Nat.le_refl _), ?_⟩
              exact ((FR.out.setCell (a := ⟨w2.heap.size + 1, 0, none⟩) hz6 _).setCell (a := ⟨w2.heap.size + 1, 1, none⟩) hz6 _).rd
            case measure => simp [intOf]; omega
          · refine tr_hard rfl (by rfl) (fun K hK => ?_)
            go_wp2_with fail
            have hs5 := hsd.step (belowA _ (.cells #[.int .i64 Er] 2))
            have hq5 := hq.step (belowA _ (.cells #[.int .i64 Er] 2))
            refine ⟨⟨hs5.cellAt 0 rfl 0 rfl, hs5.cellAt 1 rfl 0 rfl, hs5.cellAt 1 rfl 1 rfl, hs5.cellAt 2 rfl 0 rfl, hs5.cellAt 2 rfl 1 rfl, cellL hs5.bel fv⟩, ?_⟩
            (repeat (first | (apply tr_skip rfl (by rfl); try simp only [Act.put, List.setIfInBounds_toArray, List.set_cons_zero, List.set_cons_succ]) | (apply tr_float rfl (by rfl); (· (intro w' hS; go_simp <;> with_reducible rfl)); (try simp only [Act.put, List.setIfInBounds_toArray, List.set_cons_zero, List.set_cons_succ]))))
            refine tr_hard rfl (by rfl) (fun K hK => ?_)
            go_wp2_with (go_at_call 47; refine (cloneIntsA_c El _ _ (Rd.mono RE.out hq5.bel) (by omega)).mono ?_; rintro e w4 ⟨b4, rfl, hA4, hb4⟩)
            have hs5b := hs5.step hb4
            have hq5b := hq5.step hb4
            obtain ⟨m4, n4, rfl, _⟩ := Acc.len hA4
            refine ⟨⟨hs5b.cellAt 0 rfl 0 rfl, hs5b.cellAt 1 rfl 0 rfl, hs5b.cellAt 1 rfl 1 rfl, hs5b.cellAt 2 rfl 0 rfl, hs5b.cellAt 2 rfl 1 rfl, cellL hs5b.bel fv⟩, ?_⟩
            (repeat (first | (apply tr_skip rfl (by rfl); try simp only [Act.put, List.setIfInBounds_toArray, List.set_cons_zero, List.set_cons_succ]) | (apply tr_float rfl (by rfl); (· (intro w' hS; go_simp <;> with_reducible rfl)); (try simp only [Act.put, List.setIfInBounds_toArray, List.set_cons_zero, List.set_cons_succ]))))
            refine tr_hard rfl (by rfl) (fun K hK => ?_)
            refine wp_append_acc _ _ _ _ rfl E_ints rfl hA4 (fresh_int hIr) (by first | (simp; done) | (have hz4 := hb4.size; simp at hz4 ⊢; omega)) (by simp) ⟨wr.heap.size + 1, 0, none⟩ 1 rfl (fun z u hz => by
              cases z with
              | zero => simp at hz; subst hz; exact (cellL hb4 (cell_at_block (heap_alloc_at _ _ (by simp))))
              | succ z => simp at hz) (by omega) ?_
            intro a5 c5 w5 hA5 hB5 _
            have hs6 := hs5b.stepB (hB5.mono (by simp))
            have hq6 := hq5b.stepB (hB5.mono (by simp))
            refine hK _ _ ⟨⟨hs6.cellAt 0 rfl 0 rfl, hs6.cellAt 1 rfl 0 rfl, hs6.cellAt 1 rfl 1 rfl, hs6.cellAt 2 rfl 0 rfl, hs6.cellAt 2 rfl 1 rfl, cellL hs6.bel fv⟩, ?_⟩
            (repeat (first | (apply tr_skip rfl (by rfl); try simp only [Act.put, List.setIfInBounds_toArray, List.set_cons_zero, List.set_cons_succ]) | (apply tr_float rfl (by rfl); (· (intro w' hS; go_simp <;> with_reducible rfl)); (try simp only [Act.put, List.setIfInBounds_toArray, List.set_cons_zero, List.set_cons_succ]))))
            refine tr_hard rfl (by rfl) (fun K hK => ?_)
            go_wp2_with (go_at_call 46; refine (addTimes_c p B (isRefRow p l vs U j) (El ++ [Er], []) _ _ _ _ _ (Rd.mono hrd.out hq6.bel) (mk_cons (by simpa using hA5.rd) ⟨none, 0, rfl, by simp, by simp, fun i hi => by simp at hi⟩) (by rw [HGJ.out.1]; omega) (by rw [HGJ.out.2.1]; omega) hp0 hp3 gv.1 (by omega) HGJ.out.2.2.1 HGJ.out.2.2.2 (res_snoc GE2.out gE3) (fun a ha => by cases ha) (by rw [HGJ.out.1]; simp; rw [GE1.out]; exact Nat.le_refl _) (by simp)).mono ?_; rintro e w6 ⟨o0, o1, rfl, fr, hb6⟩)
            rw [← hstep.out] at fr
            have zz := rd_cons rfl fr.rd
            obtain ⟨a0, c0, h0, _⟩ := rd_list zz.1
            obtain ⟨a1, c1, h1, _⟩ := rd_list zz.2
            rw [HGJ1.out.1] at h0
            rw [HGJ1.out.2.1] at h1
            subst h0 h1
            have hs7 := hs6.step hb6
            refine ⟨⟨hs7.cellAt 0 rfl 0 rfl, hs7.cellAt 1 rfl 0 rfl, hs7.cellAt 1 rfl 1 rfl, hs7.cellAt 2 rfl 0 rfl, hs7.cellAt 2 rfl 1 rfl, cellL hs7.bel fv⟩, ?_⟩
            (repeat (first | (apply tr_skip rfl (by rfl); try simp only [Act.put, List.setIfInBounds_toArray, List.set_cons_zero, List.set_cons_succ]) | (apply tr_float rfl (by rfl); (· (intro w' hS; go_simp <;> with_reducible rfl)); (try simp only [Act.put, List.setIfInBounds_toArray, List.set_cons_zero, List.set_cons_succ]))))
            have g0 := hs7.freeAt 1 rfl 0
            have g1 := hs7.freeAt 1 rfl 1
            have k0 := hs7.cellAt 1 rfl 0 rfl
            have k1 := hs7.cellAt 1 rfl 1 rfl
            have FR := Lib.hid fr
            have hz6 : w2.heap.size + 1 < w5.heap.size := Nat.lt_of_lt_of_le (hs6.box _ (List.mem_of_getElem? (i := 1) rfl)).2.1 hs6.hi
            clear fr zz
            refine tr_last rfl (by rfl) (fun K hK => ?_)
            go_wp2_with fail
            refine tr_nil (NoPanic.normal ?_)
            go_wp2_with fail
            go_roundw
            case rel =>
              have x1 := hs7.set (p := [_]) (by simp <;> omega) 0 (.slice a0 (U + 1) c0)
              have x2 := x1.set (p := [_]) (by simp <;> omega) 1 (.slice a1 0 c1)
              refine ⟨j + 1, a0, c0, a1, c1, hlt, by go_num, (x2.sub (fun x hx => by simp at hx ⊢; rcases hx with rfl | rfl <;> simp)).up x2.hi (Nat.le_refl _), ?_⟩
              exact ((FR.out.setCell (a := ⟨w2.heap.size + 1, 0, none⟩) hz6 _).setCell (a := ⟨w2.heap.size + 1, 1, none⟩) hz6 _).rd
            case measure => simp [intOf]; omega
        · obtain rfl : j = l.length := by omega
          have hg := HG.out l.length (Nat.le_refl _)
          rw [HF.out l.length (Nat.le_refl _)] at hg
          have HGJ := Lib.hid hg
          clear hg
          have q0 := hst.out.cellAt 1 rfl 0 rfl
          have q1 := hst.out.cellAt 1 rfl 1 rfl
          go_wp2_with fail
          refine (isNone_c (isRefRow p l vs U l.length) _ _ _ hrd.out (by rw [HGJ.out.1]; omega) (by rw [HGJ.out.1]; omega)).mono ?_
          rintro e w4 ⟨rfl, hb4⟩
          have hs4 := hst.out.step hb4
          have k0 := hs4.cellAt 1 rfl 0 rfl
          have k1 := hs4.cellAt 1 rfl 1 rfl
          cases hn : noneR (isRefRow p l vs U l.length).1 with
          | false =>
            have HN := Lib.hid hn
            clear hn
            go_wp2_with fail
            refine bodyPost_ret (v := .tuple #[.bool false, .int .i64 0]) (by simp [results, Tryz.results16, go_sem]) rfl ⟨?_, hs4.bel⟩
            unfold isRefF contrQ; simp only [HK.out, HO.out, Int.toNat_natCast, HN.out]; rfl
          | true =>
            have HN := Lib.hid hn
            clear hn
            go_wp2_with fail
            refine (right_c (isRefRow p l vs U l.length) _ _ _ (Rd.mono hrd.out hb4) (by rw [HGJ.out.1]; omega) (by rw [HGJ.out.1]; omega)).mono ?_
            rintro e w5 ⟨rfl, hb5⟩
            go_wp2_with fail
            refine bodyPost_ret (v := .tuple #[.bool (rightR (isRefRow p l vs U l.length).1 != 0), .int .i64 0]) (by simp [results, Tryz.results16, go_sem]) rfl ⟨?_, (hs4.step hb5).bel⟩
            unfold isRefF contrQ; simp only [HK.out, HO.out, Int.toNat_natCast, HN.out, Bool.true_and]; rfl

end Go.Proofs.YthceklaoikeokaaGreatDoor

/-
  PLAIN: a list that is turned element by element; what elimination keeps; reading an element of what is owned.
-/
namespace Go.Proofs.YthceklaoikeokaaGreatDoor
open Go.RowKit
open Rep (Rd Own sz)
set_option linter.unusedSimpArgs false
set_option linter.unusedVariables false

def mapTo {α : Type} (f : Nat → α → α) (l : List α) (j : Nat) : List α := (l.take j).mapIdx f ++ l.drop j
@[simp] theorem mapTo_length {α : Type} (f : Nat → α → α) (l : List α) (j : Nat) : (mapTo f l j).length = l.length := by simp [mapTo]; omega
theorem mapTo_zero {α : Type} (f : Nat → α → α) (l : List α) : mapTo f l 0 = l := by simp [mapTo]
theorem mapTo_all {α : Type} (f : Nat → α → α) (l : List α) : mapTo f l l.length = l.mapIdx f := by simp [mapTo]
theorem mapTo_get {α : Type} (f : Nat → α → α) (l : List α) (j : Nat) (h : j < l.length) (h' : j < (mapTo f l j).length) : (mapTo f l j)[j] = l[j] := by
  simp only [mapTo]
  rw [List.getElem_append_right (by simp; omega)]
  simp only [List.getElem_drop, List.length_mapIdx, List.length_take]
  congr 1
  omega
theorem mapTo_succ {α : Type} (f : Nat → α → α) (l : List α) (j : Nat) (h : j < l.length) : (mapTo f l j).set j (f j l[j]) = mapTo f l (j + 1) := by
  unfold mapTo
  have e : ((l.take j).mapIdx f).length = j := by simp; omega
  rw [List.set_append_right _ _ (by omega), e, Nat.sub_self, List.drop_eq_getElem_cons h, List.set_cons_zero, List.take_succ_eq_append_getElem h, List.mapIdx_concat, List.append_assoc]
  simp only [List.length_take, Nat.min_eq_left (Nat.le_of_lt h)]
  rfl
theorem mapTo_skip {α : Type} (f : Nat → α → α) (l : List α) (j : Nat) (h : j < l.length) (hf : f j l[j] = l[j]) : mapTo f l (j + 1) = mapTo f l j := by
  rw [← mapTo_succ f l j h, hf]
  have := mapTo_get f l j h (by simpa using h)
  rw [← this, List.set_getElem_self]
theorem mapTo_fix {α : Type} (f : Nat → α → α) (l : List α) (j d : Nat) (h : d < l.length) (hf : f d l[d] = l[d]) (h' : d < (mapTo f l j).length) : (mapTo f l j)[d] = l[d] := by
  simp only [mapTo]
  by_cases hd : d < j
  · rw [List.getElem_append_left (by simp; omega)]
    simp only [List.getElem_mapIdx, List.getElem_take]
    exact hf
  · rw [List.getElem_append_right (by simp; omega)]
    simp only [List.getElem_drop, List.length_mapIdx, List.length_take]
    congr 1
    omega
theorem elim_length {α : Type} (O : ROps α) (rows : List α) : ∀ u, (elimE O rows u).1.length = rows.length
  | 0 => rfl
  | u + 1 => by
    show (stepE O u (elimE O rows u)).1.length = _
    rw [← elim_length O rows u]
    unfold stepE
    split
    · rfl
    · simp [pivotE]
def elimS (x : Sys) : List SRow × List Int := elimE (opsS x.1) (rowsS x.2.2.length 0 x.2.2) x.2.1.toNat
def elimI (x : Sys) : List RowT × List Int := elimE (opsI x.1) (rowsI x.2.2.length 0 x.2.2) x.2.1.toNat
theorem sys_good {p : Int} {U : Nat} {l : List Eqn} (hp : 2 ≤ p) (he : ∀ e, e ∈ l → eqnOk p U e = true) : AllG p U l.length (rowsS l.length 0 l) :=
  rowsS_good hp l 0 (fun e h => eqn_good (he e h))
def GoodR (p : Int) (U n : Nat) (r : RowT) : Prop := r.1.length = U + 1 ∧ r.2.length = n ∧ Res p r.1 ∧ Res p r.2
theorem elimI_map {p : Int} {U : Nat} {l : List Eqn} (hp : 2 ≤ p) (he : ∀ e, e ∈ l → eqnOk p U e = true) (k : Nat) (hk : k ≤ U) :
    elimE (opsI p) (rowsI l.length 0 l) k = ((elimE (opsS p) (rowsS l.length 0 l) k).1.map flat, (elimE (opsS p) (rowsS l.length 0 l) k).2) := by
  rw [← rows_flat]; exact elim_map (by omega) (sys_good hp he) k hk
theorem elimI_facts {p : Int} {U : Nat} {l : List Eqn} (hp : p = 2 ∨ p = 3) (he : ∀ e, e ∈ l → eqnOk p U e = true) (k : Nat) (hk : k ≤ U) :
    (elimE (opsI p) (rowsI l.length 0 l) k).1.length = l.length ∧ (elimE (opsI p) (rowsI l.length 0 l) k).2.length ≤ l.length ∧ ∀ r, r ∈ (elimE (opsI p) (rowsI l.length 0 l) k).1 → GoodR p U l.length r := by
  have hg := sys_good (by omega) he
  rw [elimI_map (by omega) he k hk]
  have hL := (elim_length (opsS p) (rowsS l.length 0 l) k).trans (rowsS_length _ l 0)
  refine ⟨by simpa using hL, ?_, fun r hr => ?_⟩
  · have := (rref_elim hp hg k hk).le; simp only; omega
  · obtain ⟨s, hs, rfl⟩ := List.mem_map.1 hr
    exact flat_good (elim_good (by omega) hg k s hs)
/-- The cells of an element of two cells. -/
theorem ip_two {α : Type} [Rep α] (hα : sz α = 2) {A : Nat → Prop} {w : World} {g n c : Nat} {l : List α} (h : Ip A w [.slice (some ⟨g, 0, none⟩) n c] l) (i : Nat) (hi : i < l.length) :
    ∃ v0 v1, w.cell? ⟨g, i * 2, none⟩ = some v0 ∧ w.cell? ⟨g, i * 2 + 1, none⟩ = some v1 ∧ Rd w [v0, v1] l[i] ∧ (∀ q, w.frozen? ⟨g, q, none⟩ = false) ∧ A g ∧ g < w.heap.size := by
  obtain ⟨g', o, c', cur, e, hv, _, _, hh, hA, _⟩ := ip_form h (by omega)
  simp only [Value.slice.injEq, Option.some.injEq, Addr.mk.injEq, and_true] at hv
  obtain ⟨⟨rfl, rfl⟩, rfl, rfl⟩ := hv
  obtain ⟨b, o, v0, v1, e, h0, h1, hr⟩ := rd_two_at hα h.rd i hi
  simp only [Option.some.injEq, Addr.mk.injEq, and_true] at e
  obtain ⟨rfl, rfl⟩ := e
  rw [Nat.zero_add] at h0 h1
  exact ⟨v0, v1, h0, h1, hr, fun q => free_at_block hh, hA, (Array.getElem?_eq_some_iff.1 hh).1⟩
theorem ip_swap2 {α : Type} [Rep α] (hα : sz α = 2) {A : Nat → Prop} {w : World} {g n c : Nat} {l : List α} (h : Ip A w [.slice (some ⟨g, 0, none⟩) n c] l) (d : α) (i j : Nat) (hil : i < l.length) (hjl : j < l.length) {v0 v1 u0 u1 : Value}
    (c0 : w.cell? ⟨g, i * 2, none⟩ = some v0) (c1 : w.cell? ⟨g, i * 2 + 1, none⟩ = some v1) (d0 : w.cell? ⟨g, j * 2, none⟩ = some u0) (d1 : w.cell? ⟨g, j * 2 + 1, none⟩ = some u1) :
    Ip A ((((w.setCell ⟨g, i * 2, none⟩ u0).setCell ⟨g, i * 2 + 1, none⟩ u1).setCell ⟨g, j * 2, none⟩ v0).setCell ⟨g, j * 2 + 1, none⟩ v1) [.slice (some ⟨g, 0, none⟩) n c] (swapL d l i j) := by
  have := ip_swap h d i j hil hjl (vi := [v0, v1]) (vj := [u0, u1]) (by rw [hα]; rfl) (by rw [hα]; rfl)
    (fun k hk => by
      rw [hα] at hk ⊢
      rw [Nat.zero_add]
      match k, hk with
      | 0, _ => simpa using c0
      | 1, _ => simpa using c1)
    (fun k hk => by
      rw [hα] at hk ⊢
      rw [Nat.zero_add]
      match k, hk with
      | 0, _ => simpa using d0
      | 1, _ => simpa using d1)
  rw [hα, Nat.zero_add, Nat.zero_add] at this
  exact this
theorem ip_put2 {α : Type} [Rep α] (hα : sz α = 2) {A B : Nat → Prop} {w : World} {g n c : Nat} {l : List α} (h : Ip A w [.slice (some ⟨g, 0, none⟩) n c] l) (j : Nat) (hj : j < l.length) {v0 v1 : Value} {y : α} (hy : Ip B w [v0, v1] y) (hAB : ∀ k, A k → ¬ B k) :
    Ip (fun k => A k ∨ B k) ((w.setCell ⟨g, j * 2, none⟩ v0).setCell ⟨g, j * 2 + 1, none⟩ v1) [.slice (some ⟨g, 0, none⟩) n c] (l.set j y) := by
  have := ip_put h j hj hy hAB
  rw [hα, Nat.zero_add] at this
  exact this

end Go.Proofs.YthceklaoikeokaaGreatDoor

/-
  PLAIN: what is answered of a system: its rank, its refutation, its answers, what follows.
-/
namespace Go.Proofs.YthceklaoikeokaaGreatDoor
open Go.RowKit
open Rep (Rd Own sz)
set_option linter.unusedSimpArgs false
set_option linter.unusedVariables false

def row0 : SRow := ([], 0, [])
def falseS (s : Sys) : Int := falseF (elimS s).1 (elimS s).2.length
def rankF (s : Sys) : Int × Int := if validS s = true then (if 0 ≤ falseS s then (0, 4) else ((elimS s).2.length, 0)) else (0, 1)
def countF (s : Sys) : Int × Int := if validS s = true then (if 0 ≤ falseS s then (0, 0) else (s.1 ^ (s.2.1 - (elimS s).2.length).toNat, 0)) else (0, 1)
def badS (s : Sys) : SRow := (elimS s).1.getD (falseS s).toNat row0
def refuteF (s : Sys) : List Int × Int := if validS s = true then (if 0 ≤ falseS s then ((scaleS s.1 (badS s).2.1 (badS s)).2.2, 0) else ([], 6)) else ([], 1)
def solveTo (rows : List SRow) (bs : List Int) (U : Nat) : Nat → List Int
  | 0 => List.replicate U 0
  | j + 1 => (solveTo rows bs U j).set (bs.getD j 0).toNat (rows.getD j row0).2.1
def solveF (s : Sys) : List Int × Int := if validS s = true then (if 0 ≤ falseS s then ([], 6) else (solveTo (elimS s).1 (elimS s).2 s.2.1.toNat (elimS s).2.length, 0)) else ([], 1)
/-- What is left of an equation when the rows that are done are taken away. -/
def takenTo (p : Int) (rows : List SRow) (bs : List Int) (x : SRow) : Nat → SRow
  | 0 => x
  | j + 1 => lessS p ((takenTo p rows bs x j).1.getD (bs.getD j 0).toNat 0) (takenTo p rows bs x j) (rows.getD j row0)
def takenS (s : Sys) (e : Eqn) : SRow := takenTo s.1 (elimS s).1 (elimS s).2 (e.1, e.2, List.replicate s.2.2.length 0) (elimS s).2.length
def derF (s : Sys) (e : Eqn) : List Int × Int :=
  if 0 ≤ falseS s then ([], 4) else
  if (takenS s e).1.all (fun a => a == 0) && (takenS s e).2.1 == 0 then ((scaleS s.1 (s.1 - 1) (takenS s e)).2.2, 0) else ([], 6)
def faultF (s : Sys) (e : Eqn) : Int := if validS s = true then (if eqnOk s.1 s.2.1 e = true then 0 else 2) else 1
def deriveF (s : Sys) (e : Eqn) : List Int × Int := if faultF s e = 0 then derF s e else ([], faultF s e)
def followsF (s : Sys) (e : Eqn) : Bool × Int := if faultF s e = 0 then (!((derF s e).2 == 6), 0) else (false, faultF s e)
def reducedF (s : Sys) : Sys := (s.1, s.2.1, if 0 ≤ falseS s then [(List.replicate s.2.1.toNat 0, 1)] else ((elimS s).1.take (elimS s).2.length).map (fun r => (r.1, r.2.1)))
def reduceF (s : Sys) : Sys × Int := if validS s = true then (reducedF s, 0) else ((0, 0, []), 1)

theorem elimE_len {α : Type} (O : ROps α) (rows : List α) : ∀ u, (elimE O rows u).2.length ≤ u
  | 0 => Nat.le_refl _
  | u + 1 => by
    have ih := elimE_len O rows u
    show (stepE O u (elimE O rows u)).2.length ≤ _
    unfold stepE
    split
    · omega
    · simp only [List.length_append, List.length_cons, List.length_nil]; omega
/-- What is known of the rows of a valid system behind elimination. -/
structure ElimOk (s : Sys) : Prop where
  hp : s.1 = 2 ∨ s.1 = 3
  hu : 1 ≤ s.2.1 ∧ s.2.1 ≤ 12
  hl : s.2.2.length ≤ 1000
  he : ∀ e, e ∈ s.2.2 → eqnOk s.1 s.2.1 e = true
  len : (elimS s).1.length = s.2.2.length
  le : (elimS s).2.length ≤ s.2.2.length
  leU : (elimS s).2.length ≤ s.2.1.toNat
  good : AllG s.1 s.2.1.toNat s.2.2.length (elimS s).1
  rref : Rref s.1 s.2.1.toNat (elimS s).1 (elimS s).2
  flat : elimI s = ((elimS s).1.map flat, (elimS s).2)
theorem elimW_ok {s : Sys} (h : wideS s = true) : ElimOk s := by
  obtain ⟨p, u, l⟩ := s
  obtain ⟨hp, hu, hl, he⟩ := wideS_get h
  obtain ⟨U, rfl⟩ : ∃ U : Nat, u = U := ⟨u.toNat, by omega⟩
  have hg := sys_good (by omega) he
  have hL := (elim_length (opsS p) (rowsS l.length 0 l) U).trans (rowsS_length _ l 0)
  have hr := rref_elim hp hg U (Nat.le_refl _)
  have hm := elimI_map (by omega) he U (Nat.le_refl _)
  have hle := hr.le
  refine ⟨hp, hu, hl, he, by unfold elimS; simpa using hL, ?_, ?_, ?_, ?_, ?_⟩
  · unfold elimS; simp only [Int.toNat_natCast]; rw [hL] at hle; exact hle
  · unfold elimS; simp only [Int.toNat_natCast]; exact elimE_len _ _ _
  · unfold elimS; simp only [Int.toNat_natCast]; exact elim_good (by omega) hg U
  · unfold elimS; simp only [Int.toNat_natCast]; exact hr
  · unfold elimS elimI; simp only [Int.toNat_natCast]; exact hm
theorem elim_ok {s : Sys} (h : validS s = true) : ElimOk s := elimW_ok (wideS_of h)
theorem contrI {s : Sys} (h : ElimOk s) : firstI contrQ (elimI s).1 = falseS s := by
  rw [h.flat]
  exact contr_same h.good h.rref
theorem falseF_lt {rows : List SRow} {d : Nat} (h : 0 ≤ falseF rows d) : (falseF rows d).toNat < rows.length ∧ falseF rows d = (falseF rows d).toNat ∧ d ≤ (falseF rows d).toNat := by
  unfold falseF at h ⊢
  cases hf : (rows.drop d).findIdx? (fun r => r.2.1 != 0) with
  | none => rw [hf] at h; exact absurd (show (0 : Int) ≤ -1 from h) (by decide)
  | some k =>
    have := find_lt hf
    simp only [List.length_drop] at this
    simp only [Int.toNat_natCast]
    exact ⟨by omega, trivial, by omega⟩
theorem falseF_nz {rows : List SRow} {d : Nat} (h : 0 ≤ falseF rows d) : (rows.getD (falseF rows d).toNat row0).2.1 ≠ 0 := by
  unfold falseF at h ⊢
  cases hf : (rows.drop d).findIdx? (fun r => r.2.1 != 0) with
  | none => rw [hf] at h; exact absurd (show (0 : Int) ≤ -1 from h) (by decide)
  | some k =>
    rw [List.findIdx?_eq_some_iff_getElem] at hf
    obtain ⟨h1, h2, _⟩ := hf
    simp only [List.length_drop] at h1
    simp only [Int.toNat_natCast]
    simp only [List.getElem_drop, bne_iff_ne] at h2
    simp only [List.getD, List.getElem?_eq_getElem (show d + k < rows.length by omega), Option.getD_some]
    exact h2
theorem ElimOk.rowsI {s : Sys} (h : ElimOk s) : (elimI s).1.length = s.2.2.length ∧ ∀ r, r ∈ (elimI s).1 → GoodR s.1 s.2.1.toNat s.2.2.length r := by
  rw [h.flat]
  refine ⟨by simpa using h.len, fun r hr => ?_⟩
  obtain ⟨x, hx, rfl⟩ := List.mem_map.1 hr
  exact flat_good (h.good x hx)
theorem ElimOk.contr {s : Sys} (h : ElimOk s) : ∀ r, r ∈ (elimI s).1 → 0 < r.1.length ∧ r.1.length ≤ 1000000 := fun r hr => by
  have := (h.rowsI.2 r hr).1
  have := h.hu
  omega
theorem ElimOk.bs {s : Sys} (h : ElimOk s) (j : Nat) (hj : j < (elimS s).2.length) : ∃ b : Nat, (elimS s).2[j] = b ∧ b < s.2.1.toNat := by
  have := h.rref.bnd j _ (List.getElem?_eq_getElem hj)
  exact ⟨(elimS s).2[j].toNat, by omega, by omega⟩
theorem ElimOk.bad {s : Sys} (h : ElimOk s) (hf : 0 ≤ falseS s) : GoodS s.1 s.2.1.toNat s.2.2.length (badS s) ∧ (badS s).2.1 ≠ 0 :=
  ⟨goodS_of_get h.good _ (falseF_lt hf).1 _, falseF_nz hf⟩
theorem fresh_snd {α β : Type} [Rep α] [Rep β] (hα : sz α = 1) {lo : Nat} {w : World} {v0 v1 : Value} {x : α × β} (h : Fresh lo w [v0, v1] x) : Fresh lo w [v1] x.2 := by
  obtain ⟨ps, ho, hn, hl⟩ := h
  obtain ⟨p, q, rfl, _, h2⟩ := own_cons hα ho
  exact ⟨q, h2, (List.nodup_append.1 hn).2.1, fun k hk => hl k (by simp [hk])⟩
theorem fresh_fst {α β : Type} [Rep α] [Rep β] (hα : sz α = 1) {lo : Nat} {w : World} {v0 : Value} {vs : List Value} {x : α × β} (h : Fresh lo w (v0 :: vs) x) : Fresh lo w [v0] x.1 := by
  obtain ⟨ps, ho, hn, hl⟩ := h
  obtain ⟨p, q, rfl, h1, _⟩ := own_cons hα ho
  exact ⟨p, h1, (List.nodup_append.1 hn).1, fun k hk => hl k (by simp [hk])⟩

end Go.Proofs.YthceklaoikeokaaGreatDoor

/-
  PLAIN LAW: elimination keeps the answers: values make all equations of a system true just if they make all of its reduced form true.
-/
namespace Go.Proofs.YthceklaoikeokaaGreatDoor
open Go.RowKit
set_option linter.unusedSimpArgs false
set_option linter.unusedVariables false

/-- Values make a row true. -/
def rowD (p : Int) (v : List Int) (r : SRow) : Prop := p ∣ dotI r.1 v - r.2.1
def allD (p : Int) (v : List Int) (rows : List SRow) : Prop := ∀ r, r ∈ rows → rowD p v r
theorem dotI_cons (a b : Int) (l v : List Int) : dotI (a :: l) (b :: v) = a * b + dotI l v := by simp [dotI]
theorem dot_less (p k : Int) : ∀ (l m v : List Int), l.length = m.length → ∃ q, dotI (lessL p k l m) v = dotI l v - k * dotI m v + p * q
  | [], [], v, _ => ⟨0, by simp [dotI, lessL]⟩
  | a :: l, b :: m, [], _ => ⟨0, by simp [dotI]⟩
  | a :: l, b :: m, c :: v, h => by
    obtain ⟨q, hq⟩ := dot_less p k l m v (by simpa using h)
    have e : lessL p k (a :: l) (b :: m) = ((a - k * b) % p) :: lessL p k l m := rfl
    refine ⟨q - (a - k * b) / p * c, ?_⟩
    rw [e, dotI_cons, dotI_cons, dotI_cons, hq, Int.emod_def]
    simp only [Int.sub_mul, Int.mul_sub, Int.mul_add, Int.mul_assoc]
    omega
theorem dot_scale (p k : Int) : ∀ (l v : List Int), ∃ q, dotI (scaleL p k l) v = k * dotI l v + p * q
  | [], v => ⟨0, by simp [dotI, scaleL]⟩
  | a :: l, [] => ⟨0, by simp [dotI]⟩
  | a :: l, c :: v => by
    obtain ⟨q, hq⟩ := dot_scale p k l v
    have e : scaleL p k (a :: l) = (a * k % p) :: scaleL p k l := rfl
    refine ⟨q - (a * k) / p * c, ?_⟩
    rw [e, dotI_cons, dotI_cons, hq, Int.emod_def]
    have : a * k * c = k * (a * c) := by rw [Int.mul_comm a k, Int.mul_assoc]
    simp only [Int.sub_mul, Int.mul_sub, Int.mul_add, Int.mul_assoc] at this ⊢
    omega
theorem rowD_less {p : Int} {U n : Nat} {v : List Int} {r o : SRow} (k : Int) (hr : GoodS p U n r) (ho : GoodS p U n o) (h : rowD p v o) : rowD p v (lessS p k r o) ↔ rowD p v r := by
  obtain ⟨q, hq⟩ := dot_less p k r.1 o.1 v (by rw [hr.len, ho.len])
  unfold rowD lessS at *
  simp only
  have e : dotI (lessL p k r.1 o.1) v - (r.2.1 - k * o.2.1) % p = (dotI r.1 v - r.2.1) - k * (dotI o.1 v - o.2.1) + p * (q + (r.2.1 - k * o.2.1) / p) := by
    rw [hq, Int.emod_def]
    simp only [Int.mul_sub, Int.mul_add]
    omega
  rw [e]
  have h1 : p ∣ k * (dotI o.1 v - o.2.1) := Int.dvd_trans h (Int.dvd_mul_left _ _)
  have h2 : p ∣ p * (q + (r.2.1 - k * o.2.1) / p) := Int.dvd_mul_right _ _
  constructor
  · intro h3
    have h4 := Int.dvd_add (Int.dvd_sub h3 h2) h1
    have e2 : (dotI r.1 v - r.2.1) - k * (dotI o.1 v - o.2.1) + p * (q + (r.2.1 - k * o.2.1) / p) - p * (q + (r.2.1 - k * o.2.1) / p) + k * (dotI o.1 v - o.2.1) = dotI r.1 v - r.2.1 := by omega
    rw [e2] at h4; exact h4
  · intro h3
    exact Int.dvd_add (Int.dvd_sub h3 h1) h2
theorem rowD_scale {p : Int} {v : List Int} {r : SRow} (k : Int) (hk : k * k % p = 1) : rowD p v (scaleS p k r) ↔ rowD p v r := by
  obtain ⟨q, hq⟩ := dot_scale p k r.1 v
  unfold rowD scaleS
  simp only
  have e : dotI (scaleL p k r.1) v - r.2.1 * k % p = k * (dotI r.1 v - r.2.1) + p * (q + r.2.1 * k / p) := by
    rw [hq, Int.emod_def, Int.mul_comm r.2.1 k]
    simp only [Int.mul_sub, Int.mul_add]
    omega
  rw [e]
  have h2 : p ∣ p * (q + r.2.1 * k / p) := Int.dvd_mul_right _ _
  constructor
  · intro h3
    have h4 := Int.dvd_sub h3 h2
    have e2 : k * (dotI r.1 v - r.2.1) + p * (q + r.2.1 * k / p) - p * (q + r.2.1 * k / p) = k * (dotI r.1 v - r.2.1) := by omega
    rw [e2] at h4
    have h5 : p ∣ k * (k * (dotI r.1 v - r.2.1)) := Int.dvd_trans h4 (Int.dvd_mul_left _ _)
    have h6 := Int.emod_def (k * k) p
    rw [hk] at h6
    have e3 : k * (k * (dotI r.1 v - r.2.1)) = (dotI r.1 v - r.2.1) + p * (k * k / p * (dotI r.1 v - r.2.1)) := by
      rw [← Int.mul_assoc, ← Int.mul_assoc]
      have : k * k = 1 + p * (k * k / p) := by omega
      conv => lhs; rw [this]
      rw [Int.add_mul, Int.one_mul]
    rw [e3] at h5
    have h7 := Int.dvd_sub h5 (Int.dvd_mul_right p (k * k / p * (dotI r.1 v - r.2.1)))
    rw [Int.add_sub_cancel] at h7
    exact h7
  · intro h3
    exact Int.dvd_add (Int.dvd_trans h3 (Int.dvd_mul_left _ _)) h2

theorem swapL_get {α : Type} (d : α) (l : List α) (i j : Nat) (hi : i < l.length) (hj : j < l.length) (k : Nat) : (swapL d l i j)[k]? = if k = j then l[i]? else if k = i then l[j]? else l[k]? := by
  unfold swapL
  have e1 : l.getD j d = l[j] := by simp [List.getD, hj]
  have e2 : l.getD i d = l[i] := by simp [List.getD, hi]
  rw [e1, e2]
  simp only [List.getElem?_set, List.length_set]
  by_cases h1 : k = j
  · subst h1; simp [hj]
  · by_cases h2 : k = i
    · subst h2; simp [h1, Ne.symm h1, hi, hj]
    · simp [h1, h2, Ne.symm h1, Ne.symm h2]
theorem allD_swap {p : Int} {v : List Int} (d : SRow) (rows : List SRow) (i j : Nat) (hi : i < rows.length) (hj : j < rows.length) : allD p v (swapL d rows i j) ↔ allD p v rows := by
  constructor
  · intro h r hr
    obtain ⟨k, hk⟩ := List.mem_iff_getElem?.1 hr
    by_cases h1 : k = i
    · subst h1
      exact h r (List.mem_iff_getElem?.2 ⟨j, by rw [swapL_get d rows k j hi hj, if_pos rfl]; exact hk⟩)
    · by_cases h2 : k = j
      · subst h2
        refine h r (List.mem_iff_getElem?.2 ⟨i, ?_⟩)
        rw [swapL_get d rows i k hi hj, if_neg (Ne.symm h1), if_pos rfl]; exact hk
      · refine h r (List.mem_iff_getElem?.2 ⟨k, ?_⟩)
        rw [swapL_get d rows i j hi hj, if_neg h2, if_neg h1]; exact hk
  · intro h r hr
    obtain ⟨k, hk⟩ := List.mem_iff_getElem?.1 hr
    rw [swapL_get d rows i j hi hj] at hk
    split at hk
    · exact h r (List.mem_iff_getElem?.2 ⟨_, hk⟩)
    · split at hk <;> exact h r (List.mem_iff_getElem?.2 ⟨_, hk⟩)
theorem allD_step {p : Int} {U n : Nat} (hp : p = 2 ∨ p = 3) {v : List Int} {u : Nat} (hu : u < U) {rows : List SRow} {bs : List Int} (hg : AllG p U n rows) :
    allD p v (stepE (opsS p) u (rows, bs)).1 ↔ allD p v rows := by
  have hp0 : 0 < p := by omega
  unfold stepE
  simp only
  split
  · exact Iff.rfl
  · rename_i k hk
    rw [List.findIdx?_eq_some_iff_getElem] at hk
    obtain ⟨hk1, hk2, _⟩ := hk
    simp only [List.length_drop] at hk1
    simp only [List.getElem_drop, bne_iff_ne, ne_eq] at hk2
    have hd : bs.length < rows.length := by omega
    have hdk : bs.length + k < rows.length := by omega
    simp only
    unfold pivotE
    simp only
    rw [swap_at _ _ _ _ hd hdk]
    have e0 : rows.getD (bs.length + k) (opsS p).dflt = rows[bs.length + k] := by simp [List.getD, hdk]
    have hg1 := allG_swap hg (opsS p).dflt bs.length (bs.length + k) hd hdk
    have hsw := allD_swap (p := p) (v := v) (opsS p).dflt rows bs.length (bs.length + k) hd hdk
    have hat : (swapL (opsS p).dflt rows bs.length (bs.length + k))[bs.length]? = some rows[bs.length + k] := by
      rw [swapL_get _ _ _ _ hd hdk]
      by_cases h : bs.length = bs.length + k
      · rw [if_pos h]; simp only [← h]; rw [List.getElem?_eq_getElem hd]
      · rw [if_neg h, if_pos rfl, List.getElem?_eq_getElem hdk]
    rw [e0, ← hsw]
    have hg0 : GoodS p U n rows[bs.length + k] := hg _ (List.getElem_mem hdk)
    generalize rows[bs.length + k] = x0 at *
    generalize swapL (opsS p).dflt rows bs.length (bs.length + k) = r1 at *
    have hx0u := getD_res hg0.res u (by rw [hg0.len]; exact hu)
    have hn : (opsS p).get x0 u = x0.1.getD u 0 := rfl
    rw [hn] at hk2 ⊢
    have hsq := sq_one hp hx0u.1 hx0u.2 hk2
    have hxs : (opsS p).scale x0 (x0.1.getD u 0) = scaleS p (x0.1.getD u 0) x0 := rfl
    rw [hxs]
    have hgx : GoodS p U n (scaleS p (x0.1.getD u 0) x0) := goodS_scale hp0 _ hg0
    have hdx : rowD p v (scaleS p (x0.1.getD u 0) x0) ↔ rowD p v x0 := rowD_scale _ hsq
    generalize scaleS p (x0.1.getD u 0) x0 = x at *
    have hb1 := (List.getElem?_eq_some_iff.1 hat).1
    have hrow : ∀ i r, r1[i]? = some r → i ≠ bs.length → rowD p v x → (rowD p v (elimRow (opsS p) u bs.length x i r) ↔ rowD p v r) := fun i r hr hi hx => by
      have hgr := hg1 r (List.mem_iff_getElem?.2 ⟨i, hr⟩)
      unfold elimRow
      rw [if_neg hi]
      show rowD p v (if _ then _ else _) ↔ _
      split
      · exact Iff.rfl
      · exact rowD_less _ hgr hgx hx
    have hget : ∀ i, ((r1.set bs.length x).mapIdx (elimRow (opsS p) u bs.length x))[i]? = if i = bs.length then some x else (r1[i]?).map (elimRow (opsS p) u bs.length x i) := fun i => by
      rw [List.getElem?_mapIdx]
      by_cases h : i = bs.length
      · subst h
        rw [List.getElem?_set_self hb1, if_pos rfl]
        simp [elimRow]
      · rw [List.getElem?_set_ne (Ne.symm h), if_neg h]
    constructor
    · intro h r hr
      obtain ⟨i, hi⟩ := List.mem_iff_getElem?.1 hr
      have hx : rowD p v x := h x (List.mem_iff_getElem?.2 ⟨bs.length, by rw [hget, if_pos rfl]⟩)
      by_cases hib : i = bs.length
      · subst hib
        rw [hat] at hi
        simp only [Option.some.injEq] at hi
        subst hi
        exact hdx.1 hx
      · exact (hrow i r hi hib hx).1 (h _ (List.mem_iff_getElem?.2 ⟨i, by rw [hget, if_neg hib, hi]; rfl⟩))
    · intro h r hr
      obtain ⟨i, hi⟩ := List.mem_iff_getElem?.1 hr
      have hx : rowD p v x := hdx.2 (h x0 (List.mem_iff_getElem?.2 ⟨_, hat⟩))
      rw [hget] at hi
      split at hi
      · simp only [Option.some.injEq] at hi; subst hi; exact hx
      · rename_i hib
        rw [Option.map_eq_some_iff] at hi
        obtain ⟨q, hq, rfl⟩ := hi
        exact (hrow i q hq hib hx).2 (h q (List.mem_iff_getElem?.2 ⟨i, hq⟩))
theorem allD_elim {p : Int} {U n : Nat} (hp : p = 2 ∨ p = 3) {v : List Int} {rows : List SRow} (hg : AllG p U n rows) : ∀ u, u ≤ U → (allD p v (elimE (opsS p) rows u).1 ↔ allD p v rows)
  | 0, _ => Iff.rfl
  | u + 1, h => by
    have h1 := elim_good (by omega : (0 : Int) < p) hg u
    have h2 := allD_elim hp (v := v) hg u (by omega)
    show allD p v (stepE (opsS p) u (elimE (opsS p) rows u)).1 ↔ _
    rw [← h2]
    exact allD_step hp (by omega) h1
theorem holds_rowD {p : Int} {v : List Int} {a : List Int} {b : Int} {y : List Int} (hp : 0 < p) (h0 : 0 ≤ b) (h1 : b < p) : holdsE p v (a, b) = true ↔ rowD p v (a, b, y) := by
  unfold holdsE rowD
  simp only [decide_eq_true_eq]
  constructor
  · intro h
    exact ⟨dotI a v / p, by have := Int.emod_def (dotI a v) p; omega⟩
  · rintro ⟨q, hq⟩
    have e : dotI a v = b + p * q := by omega
    rw [e, Int.add_mul_emod_self_left, Int.emod_eq_of_lt h0 h1]
theorem allD_rows {p : Int} {v : List Int} (n : Nat) : ∀ (l : List Eqn) (i : Nat), (∀ e, e ∈ l → 0 < p ∧ 0 ≤ e.2 ∧ e.2 < p) → (allD p v (rowsS n i l) ↔ l.all (holdsE p v) = true)
  | [], i, _ => by simp [rowsS, allD]
  | e :: l, i, h => by
    have ih := allD_rows (p := p) (v := v) n l (i + 1) (fun x hx => h x (List.mem_cons_of_mem _ hx))
    have he := h e (List.mem_cons_self ..)
    rw [List.all_cons, Bool.and_eq_true, ← ih]
    show allD p v ((_, _, _) :: _) ↔ _
    rw [holds_rowD (y := (List.replicate n 0).set i 1) he.1 he.2.1 he.2.2]
    constructor
    · intro hh; exact ⟨hh _ (List.mem_cons_self ..), fun r hr => hh r (List.mem_cons_of_mem _ hr)⟩
    · rintro ⟨h1, h2⟩ r hr
      rcases List.mem_cons.1 hr with rfl | hr
      · exact h1
      · exact h2 r hr
theorem dot_zero : ∀ (l v : List Int), (∀ c, c < l.length → l.getD c 0 = 0) → dotI l v = 0
  | [], v, _ => by simp [dotI]
  | a :: l, [], _ => by simp [dotI]
  | a :: l, c :: v, h => by
    have h0 := h 0 (by simp)
    have ih := dot_zero l v (fun c hc => by have := h (c + 1) (by simpa using hc); simpa using this)
    simp only [List.getD_cons_zero] at h0
    rw [dotI_cons, ih, h0]; simp
theorem falseF_none {rows : List SRow} {d : Nat} (h : ¬ 0 ≤ falseF rows d) (i : Nat) (hi : i < rows.length) (hd : d ≤ i) : rows[i].2.1 = 0 := by
  unfold falseF at h
  cases hf : (rows.drop d).findIdx? (fun r => r.2.1 != 0) with
  | some k => rw [hf] at h; exact absurd (show (0 : Int) ≤ ((d + k : Nat) : Int) by omega) h
  | none =>
    rw [List.findIdx?_eq_none_iff] at hf
    have := hf rows[i] (List.mem_iff_getElem?.2 ⟨i - d, by rw [List.getElem?_drop, show d + (i - d) = i by omega, List.getElem?_eq_getElem hi]⟩)
    simpa using this
/-- The reduced form has the same answers. -/
theorem reducedW_all {s : Sys} (hv : wideS s = true) (v : List Int) : (reducedF s).2.2.all (holdsE s.1 v) = s.2.2.all (holdsE s.1 v) := by
  have K := elimW_ok hv
  obtain ⟨p, u, l⟩ := s
  have hp := K.hp
  have hu := K.hu
  simp only at hp hu
  obtain ⟨U, rfl⟩ : ∃ U : Nat, u = U := ⟨u.toNat, by omega⟩
  have hg := sys_good (l := l) (U := U) (by omega) K.he
  have h1 := allD_elim hp (v := v) hg U (Nat.le_refl _)
  have h2 := allD_rows (p := p) (v := v) l.length l 0 (fun e he => by have := eqn_good (K.he e he); exact ⟨by omega, this.2.2.1, this.2.2.2⟩)
  have h3 : allD p v (elimS (p, (U : Int), l)).1 ↔ l.all (holdsE p v) = true := by rw [← h2, ← h1]; simp [elimS]
  rw [Bool.eq_iff_iff]
  simp only
  rw [← h3]
  by_cases hf : 0 ≤ falseS (p, (U : Int), l)
  · have hb := K.bad hf
    have hlt := falseF_lt hf
    have hbm : badS (p, (U : Int), l) ∈ (elimS (p, (U : Int), l)).1 := by
      unfold badS
      have h4 := hlt.1
      show List.getD _ (falseF _ _).toNat row0 ∈ _
      simp only [List.getD, List.getElem?_eq_getElem h4, Option.getD_some]
      exact List.getElem_mem h4
    have hz : dotI (badS (p, (U : Int), l)).1 v = 0 := by
      refine dot_zero _ _ (fun c hc => ?_)
      rw [hb.1.len] at hc
      refine K.rref.low (falseF (elimS (p, (U : Int), l)).1 (elimS (p, (U : Int), l)).2.length).toNat _ ?_ hlt.2.2 c hc
      show _ = some (List.getD _ (falseF _ _).toNat row0)
      simp only [List.getD, List.getElem?_eq_getElem hlt.1, Option.getD_some]
    have hr := hb.1.right
    have hr0 := hb.2
    simp only at hr
    constructor
    · intro h
      have : (reducedF (p, (U : Int), l)).2.2 = [(List.replicate U 0, 1)] := by unfold reducedF; rw [if_pos hf]; rfl
      rw [this] at h
      simp only [List.all_cons, List.all_nil, Bool.and_true] at h
      have h5 : dotI (List.replicate U 0) v = 0 := dot_zero _ _ (fun c hc => by simp [List.getD, List.getElem?_replicate]; split <;> rfl)
      simp only [holdsE, h5, decide_eq_true_eq] at h
      simp at h
    · intro h
      obtain ⟨q, hq⟩ := h _ hbm
      rw [hz] at hq
      exfalso
      have hq1 : (badS (p, (U : Int), l)).2.1 = p * -q := by rw [Int.mul_neg]; omega
      have h6 : (badS (p, (U : Int), l)).2.1 % p = 0 := by rw [hq1]; exact Int.mul_emod_right _ _
      rw [Int.emod_eq_of_lt hr.1 hr.2] at h6
      exact hr0 h6
  · have hred : (reducedF (p, (U : Int), l)).2.2 = ((elimS (p, (U : Int), l)).1.take (elimS (p, (U : Int), l)).2.length).map (fun r => (r.1, r.2.1)) := by unfold reducedF; rw [if_neg hf]
    rw [hred, List.all_map, List.all_eq_true]
    constructor
    · intro h r hr
      obtain ⟨i, hi, rfl⟩ := List.getElem_of_mem hr
      have hgr := K.good _ (List.getElem_mem hi)
      by_cases hd : i < (elimS (p, (U : Int), l)).2.length
      · have := h _ (List.mem_iff_getElem?.2 ⟨i, by rw [List.getElem?_take_of_lt hd, List.getElem?_eq_getElem hi]⟩)
        exact (holds_rowD (by omega) hgr.right.1 hgr.right.2).1 this
      · have h7 := falseF_none hf i hi (by omega)
        have h8 : dotI (elimS (p, (U : Int), l)).1[i].1 v = 0 := dot_zero _ _ (fun c hc => by
          rw [hgr.len] at hc
          exact K.rref.low i _ (List.getElem?_eq_getElem hi) (by omega) c hc)
        unfold rowD
        rw [h7, h8]
        simp
    · intro h r hr
      have hm := List.mem_of_mem_take hr
      have hgr := K.good _ hm
      exact (holds_rowD (y := r.2.2) (by omega) hgr.right.1 hgr.right.2).2 (h r hm)
theorem reduced_all {s : Sys} (hv : validS s = true) (v : List Int) : (reducedF s).2.2.all (holdsE s.1 v) = s.2.2.all (holdsE s.1 v) := reducedW_all (wideS_of hv) v

end Go.Proofs.YthceklaoikeokaaGreatDoor

/-
  PLAIN LAW: values put so that all rows that elimination leaves hold.
-/
namespace Go.Proofs.YthceklaoikeokaaGreatDoor
open Go.RowKit
set_option linter.unusedSimpArgs false
set_option linter.unusedVariables false

theorem dot_set : ∀ (l v : List Int) (c : Nat) (x : Int), c < v.length → dotI l (v.set c x) = dotI l v + l.getD c 0 * (x - v.getD c 0)
  | [], v, c, x, _ => by simp [dotI]
  | a :: l, [], c, x, h => by simp at h
  | a :: l, b :: v, 0, x, _ => by
    simp only [List.set_cons_zero, dotI_cons, List.getD_cons_zero, Int.mul_sub]; omega
  | a :: l, b :: v, c + 1, x, h => by
    have ih := dot_set l v c x (by simpa using h)
    simp only [List.set_cons_succ, dotI_cons, List.getD_cons_succ, ih]; omega
/-- Values with the unknowns that begin rows put so that the rows hold. -/
def fixTo (p : Int) (rows : List SRow) (bs t : List Int) : Nat → List Int
  | 0 => t
  | j + 1 => (fixTo p rows bs t j).set (bs.getD j 0).toNat (((rows.getD j row0).2.1 - dotI (rows.getD j row0).1 t) % p)
theorem fixTo_len (p : Int) (rows : List SRow) (bs t : List Int) : ∀ j, (fixTo p rows bs t j).length = t.length
  | 0 => rfl
  | j + 1 => by simp [fixTo, fixTo_len p rows bs t j]
theorem fixTo_res {p : Int} (hp : 0 < p) (rows : List SRow) (bs t : List Int) (h : Res p t) : ∀ j, Res p (fixTo p rows bs t j)
  | 0 => h
  | j + 1 => fun a ha => by
    rcases List.mem_or_eq_of_mem_set ha with h1 | h1
    · exact fixTo_res hp rows bs t h j a h1
    · subst h1; exact ⟨Int.emod_nonneg _ (by omega), Int.emod_lt_of_pos _ hp⟩
theorem bs_ne {p : Int} {u : Nat} {rows : List SRow} {bs : List Int} (h : Rref p u rows bs) {i j : Nat} (hi : i < bs.length) (hj : j < bs.length) (hij : i ≠ j) : bs[i] ≠ bs[j] := by
  intro e
  have hr := List.getElem?_eq_getElem (show i < rows.length by have := h.le; omega)
  have h1 := h.col i _ i _ hr (List.getElem?_eq_getElem hi)
  have h2 := h.col i _ j _ hr (List.getElem?_eq_getElem hj)
  rw [← e, h1, if_pos rfl, if_neg hij] at h2
  exact absurd h2 (by decide)
theorem fixTo_at {p : Int} {U : Nat} {rows : List SRow} {bs t : List Int} (h : Rref p U rows bs) (ht : t.length = U) (hz : ∀ j (hj : j < bs.length), t.getD bs[j].toNat 0 = 0) (k : Nat) (hk : k < bs.length) : ∀ j, j ≤ k → (fixTo p rows bs t j).getD bs[k].toNat 0 = 0
  | 0, _ => hz k hk
  | j + 1, hj => by
    have hjb : j < bs.length := by omega
    have ih := fixTo_at h ht hz k hk j (by omega)
    have e : (bs.getD j 0) = bs[j] := by simp [List.getD, hjb]
    have b1 := h.bnd j _ (List.getElem?_eq_getElem hjb)
    have b2 := h.bnd k _ (List.getElem?_eq_getElem hk)
    have hne : bs[j].toNat ≠ bs[k].toNat := by have := bs_ne h hjb hk (by omega); omega
    rw [fixTo, e]
    generalize ((rows.getD j row0).2.1 - dotI (rows.getD j row0).1 t) % p = x
    simp only [List.getD, List.getElem?_set_ne hne]
    simpa [List.getD] using ih
/-- A row's sum behind it. -/
theorem fixTo_dot {p : Int} {U : Nat} {rows : List SRow} {bs t : List Int} (h : Rref p U rows bs) (ht : t.length = U) (hz : ∀ j (hj : j < bs.length), t.getD bs[j].toNat 0 = 0) (x : List Int) :
    ∀ j, j ≤ bs.length → dotI x (fixTo p rows bs t j) = dotI x t + ((List.range j).map (fun i => x.getD (bs.getD i 0).toNat 0 * (((rows.getD i row0).2.1 - dotI (rows.getD i row0).1 t) % p))).sum
  | 0, _ => by simp [fixTo]
  | j + 1, hj => by
    have hjb : j < bs.length := by omega
    have ih := fixTo_dot h ht hz x j (by omega)
    have e : (bs.getD j 0) = bs[j] := by simp [List.getD, hjb]
    have b1 := h.bnd j _ (List.getElem?_eq_getElem hjb)
    have h0 := fixTo_at h ht hz j hjb j (Nat.le_refl _)
    rw [fixTo, dot_set _ _ _ _ (by rw [fixTo_len, e, ht]; omega), ih, List.range_succ, List.map_append, List.sum_append]
    simp only [e, List.map_cons, List.map_nil, List.sum_cons, List.sum_nil, h0, Int.sub_zero, Int.add_zero]
    omega
theorem sum_zero {l : List Nat} {f : Nat → Int} (h : ∀ i, i ∈ l → f i = 0) : (l.map f).sum = 0 := by
  induction l with
  | nil => rfl
  | cons a l ih => rw [List.map_cons, List.sum_cons, h a (List.mem_cons_self ..), ih (fun i hi => h i (List.mem_cons_of_mem _ hi))]; rfl
theorem sum_one {f : Nat → Int} (k : Nat) : ∀ n, k < n → (∀ i, i < n → i ≠ k → f i = 0) → ((List.range n).map f).sum = f k
  | 0, hk, _ => absurd hk (Nat.not_lt_zero _)
  | n + 1, hk, h => by
    rw [List.range_succ, List.map_append, List.sum_append]
    simp only [List.map_cons, List.map_nil, List.sum_cons, List.sum_nil, Int.add_zero]
    by_cases e : k = n
    · subst e
      rw [sum_zero (fun i hi => h i (by have := List.mem_range.1 hi; omega) (by have := List.mem_range.1 hi; omega))]; omega
    · rw [sum_one k n (by omega) (fun i h1 h2 => h i (by omega) h2), h n (by omega) (by omega)]; omega
/-- What has zeros where rows begin sums up as before. -/
theorem fix_same {p : Int} {U : Nat} {rows : List SRow} {bs t : List Int} (h : Rref p U rows bs) (ht : t.length = U) (hz : ∀ j (hj : j < bs.length), t.getD bs[j].toNat 0 = 0) (x : List Int) (hx : ∀ j (hj : j < bs.length), x.getD bs[j].toNat 0 = 0) : dotI x (fixTo p rows bs t bs.length) = dotI x t := by
  rw [fixTo_dot h ht hz x _ (Nat.le_refl _), sum_zero]
  · omega
  · intro i hi
    have hi := List.mem_range.1 hi
    have e : (bs.getD i 0) = bs[i] := by simp [List.getD, hi]
    rw [e, hx i hi, Int.zero_mul]
/-- All rows hold. -/
theorem fix_all {p : Int} {U n : Nat} {rows : List SRow} {bs t : List Int} (hp : 0 < p) (hg : AllG p U n rows) (h : Rref p U rows bs) (hf : ¬ 0 ≤ falseF rows bs.length) (ht : t.length = U) (hz : ∀ j (hj : j < bs.length), t.getD bs[j].toNat 0 = 0) : allD p (fixTo p rows bs t bs.length) rows := by
  intro r hr
  obtain ⟨i, hi, rfl⟩ := List.getElem_of_mem hr
  have hgi := hg _ hr
  unfold rowD
  by_cases hd : i < bs.length
  · have eb : bs.getD i 0 = bs[i] := by simp [List.getD, hd]
    have er : rows.getD i row0 = rows[i] := by simp [List.getD, hi]
    rw [fixTo_dot h ht hz _ _ (Nat.le_refl _), sum_one i _ hd]
    · have hc := h.col i _ i _ (List.getElem?_eq_getElem hi) (List.getElem?_eq_getElem hd)
      rw [if_pos rfl] at hc
      rw [eb, er, hc, Int.one_mul, Int.emod_def]
      exact ⟨-((rows[i].2.1 - dotI rows[i].1 t) / p), by rw [Int.mul_neg]; omega⟩
    · intro j hjb hj
      have ej : bs.getD j 0 = bs[j] := by simp [List.getD, hjb]
      have hc := h.col i _ j _ (List.getElem?_eq_getElem hi) (List.getElem?_eq_getElem hjb)
      rw [if_neg (fun e => hj e.symm)] at hc
      rw [ej, hc, Int.zero_mul]
  · have h7 := falseF_none hf i hi (by omega)
    have h8 : dotI rows[i].1 (fixTo p rows bs t bs.length) = 0 := dot_zero _ _ (fun c hc => by
      rw [hgi.len] at hc
      exact h.low i _ (List.getElem?_eq_getElem hi) (by omega) c hc)
    rw [h7, h8]
    simp

end Go.Proofs.YthceklaoikeokaaGreatDoor
