/-
  SEVERAL TEXTS IN ONE.
-/
import Derived.Test.YtamkfnkikiekaaaGreatSysBRa
import Derived.Test.YtamkfnkikiekaaaGreatRowsBRa
import Derived.Deep.DeepCutAuto

/-
  PLAIN: relations, operations, templates: when they are valid; the order of tuples.
-/
namespace Go.Proofs.YtamkfnkikiekaaaGreat
open Go.RowKit
set_option linter.unusedSimpArgs false
set_option linter.unusedVariables false

/-- slices.Compare. -/
def cmpL : List Int → List Int → Int
  | [], [] => 0
  | [], _ :: _ => -1
  | _ :: _, [] => 1
  | a :: l, b :: m => if a < b then -1 else if b < a then 1 else cmpL l m
/-- l01Before. -/
def befL : List Int → List Int → Bool
  | [], _ => false
  | _ :: _, [] => false
  | a :: l, b :: m => if a = b then befL l m else decide (a < b)
theorem cmp_bef : ∀ (l m : List Int), l.length = m.length → befL l m = decide (cmpL l m < 0)
  | [], [], _ => by simp [befL, cmpL]
  | a :: l, b :: m, h => by
    have ih := cmp_bef l m (by simpa using h)
    unfold befL cmpL
    by_cases h1 : a = b
    · subst h1; simp [ih]
    · rw [if_neg h1]
      by_cases h2 : a < b
      · rw [if_pos h2]; simp [h2]
      · rw [if_neg h2, if_pos (by omega)]; simp; omega
theorem cmp_bd : ∀ (l m : List Int), -1 ≤ cmpL l m ∧ cmpL l m ≤ 1
  | [], [] => by simp [cmpL]
  | [], _ :: _ => by simp [cmpL]
  | _ :: _, [] => by simp [cmpL]
  | a :: l, b :: m => by
    have := cmp_bd l m
    unfold cmpL
    split
    · omega
    · split <;> omega
/-- Compared up to place k, alike so far. -/
theorem cmp_drop (l m : List Int) (k : Nat) (hl : k < l.length) (hm : k < m.length) : cmpL (l.drop k) (m.drop k) = if l[k] < m[k] then -1 else if m[k] < l[k] then 1 else cmpL (l.drop (k + 1)) (m.drop (k + 1)) := by
  rw [List.drop_eq_getElem_cons hl, List.drop_eq_getElem_cons hm, cmpL]
theorem bef_drop (l m : List Int) (k : Nat) (hl : k < l.length) (hm : k < m.length) : befL (l.drop k) (m.drop k) = if l[k] = m[k] then befL (l.drop (k + 1)) (m.drop (k + 1)) else decide (l[k] < m[k]) := by
  rw [List.drop_eq_getElem_cons hl, List.drop_eq_getElem_cons hm, befL]
/-- Tuple i is right, and comes behind the one before. -/
def tupAt (size ar : Int) (l : List (List Int)) (i : Nat) : Bool := valsOk size (l.getD i []) ar && (decide (i = 0) || decide (cmpL (l.getD (i - 1) []) (l.getD i []) < 0))
def tupsOk (size ar : Int) (l : List (List Int)) : Bool := (List.range l.length).all (tupAt size ar l)
def relOk (size : Int) (r : RelT) : Bool := inB size 1 4 && inB r.1 1 4 && tupsOk size r.1 r.2
theorem tupsOk_of {size ar : Int} {l : List (List Int)} (h : ∀ j, j < l.length → tupAt size ar l j = true) : tupsOk size ar l = true := by
  unfold tupsOk
  rw [List.all_eq_true]
  intro j hj
  exact h j (List.mem_range.1 hj)
theorem tupsOk_not {size ar : Int} {l : List (List Int)} (j : Nat) (hj : j < l.length) (h : tupAt size ar l j = false) : tupsOk size ar l = false := by
  unfold tupsOk
  rw [List.all_eq_false]
  exact ⟨j, List.mem_range.2 hj, by rw [h]; decide⟩
theorem tupsOk_get {size ar : Int} {l : List (List Int)} (h : tupsOk size ar l = true) (j : Nat) (hj : j < l.length) : tupAt size ar l j = true := by
  unfold tupsOk at h
  rw [List.all_eq_true] at h
  exact h j (List.mem_range.2 hj)
def tmplOk (t : Tmpl) : Bool := inB t.1 1 4 && decide (t.2.length ≤ 6) && t.2.all (relOk t.1)
def conOk (t : Tmpl) (vars : Int) (c : OpT) : Bool := inB c.1 0 (t.2.length - 1) && valsOk vars c.2 (t.2.getD c.1.toNat (0, [])).1
def instOk (t : Tmpl) (x : Inst) : Bool := tmplOk t && inB x.1 1 10 && decide (x.2.length ≤ 24) && x.2.all (conOk t x.1)
theorem relOk_get {size : Int} {r : RelT} (h : relOk size r = true) : (1 ≤ size ∧ size ≤ 4) ∧ (1 ≤ r.1 ∧ r.1 ≤ 4) ∧ tupsOk size r.1 r.2 = true := by
  simp only [relOk, Bool.and_eq_true] at h
  exact ⟨inB_true h.1.1, inB_true h.1.2, h.2⟩
theorem tmplOk_get {t : Tmpl} (h : tmplOk t = true) : (1 ≤ t.1 ∧ t.1 ≤ 4) ∧ t.2.length ≤ 6 ∧ ∀ r, r ∈ t.2 → relOk t.1 r = true := by
  simp only [tmplOk, Bool.and_eq_true, decide_eq_true_eq, List.all_eq_true] at h
  exact ⟨inB_true h.1.1, h.1.2, h.2⟩
theorem instOk_get {t : Tmpl} {x : Inst} (h : instOk t x = true) : tmplOk t = true ∧ (1 ≤ x.1 ∧ x.1 ≤ 10) ∧ x.2.length ≤ 24 ∧ ∀ c, c ∈ x.2 → conOk t x.1 c = true := by
  simp only [instOk, Bool.and_eq_true, decide_eq_true_eq, List.all_eq_true] at h
  exact ⟨h.1.1.1, inB_true h.1.1.2, h.1.2, h.2⟩
/-- The number of a tuple. -/
def codeL (size : Int) (l : List Int) : Int := l.foldl (fun n a => n * size + a) 0
theorem codeL_snoc (size : Int) (l : List Int) (a : Int) : codeL size (l ++ [a]) = codeL size l * size + a := by simp [codeL]
theorem pow_ge1 {s : Int} (hs : 1 ≤ s) : ∀ n : Nat, 1 ≤ s ^ n
  | 0 => by simp
  | n + 1 => by
    have ih := pow_ge1 hs n
    rw [Int.pow_succ]
    have := Int.mul_le_mul ih hs (by omega) (by omega)
    omega
theorem fold_bd {size : Int} (hs : 1 ≤ size) : ∀ (l : List Int) (n : Int), 0 ≤ n → (∀ a, a ∈ l → 0 ≤ a ∧ a ≤ size - 1) → n * size ^ l.length ≤ l.foldl (fun n a => n * size + a) n ∧ l.foldl (fun n a => n * size + a) n < (n + 1) * size ^ l.length
  | [], n, hn, _ => by simp; omega
  | a :: l, n, hn, h => by
    have ha := h a (List.mem_cons_self ..)
    have hX := pow_ge1 hs l.length
    have h0 : 0 ≤ n * size := Int.mul_nonneg hn (by omega)
    obtain ⟨h1, h2⟩ := fold_bd hs l (n * size + a) (by omega) (fun b hb => h b (List.mem_cons_of_mem _ hb))
    rw [List.length_cons, Int.pow_succ, List.foldl_cons]
    have e1 : n * (size ^ l.length * size) = n * size * size ^ l.length := by rw [Int.mul_comm (size ^ l.length) size, Int.mul_assoc]
    have e2 : (n + 1) * (size ^ l.length * size) = (n * size + size) * size ^ l.length := by rw [Int.mul_comm (size ^ l.length) size, ← Int.mul_assoc, Int.add_mul, Int.one_mul]
    rw [e1, e2]
    have h3 : n * size * size ^ l.length ≤ (n * size + a) * size ^ l.length := Int.mul_le_mul_of_nonneg_right (by omega) (by omega)
    have h4 : (n * size + a + 1) * size ^ l.length ≤ (n * size + size) * size ^ l.length := Int.mul_le_mul_of_nonneg_right (by omega) (by omega)
    omega
theorem codeL_bd {size : Int} (hs : 1 ≤ size) (l : List Int) (h : ∀ a, a ∈ l → 0 ≤ a ∧ a ≤ size - 1) : 0 ≤ codeL size l ∧ codeL size l < size ^ l.length := by
  have := fold_bd hs l 0 (Int.le_refl _) h
  unfold codeL
  rw [Int.zero_mul, Int.zero_add, Int.one_mul] at this
  exact this

end Go.Proofs.YtamkfnkikiekaaaGreat

/-
  CONTRACTS: valid relations, templates, operations; both sides.
-/
namespace Go.Proofs.YtamkfnkikiekaaaGreat
open Go.RowKit Go.Shelf Go.IntWalk
open Rep (Rd Own sz)
set_option linter.unusedSimpArgs false
set_option linter.unusedVariables false

theorem isSize_c (n : Int) (w : World) : Calls Tryz.prog 75 #[.int .i64 n] w fun e w' => e = .returned (.bool (inB n 1 4)) ∧ w = w' := by
  go_enter Tryz.func75, Tryz.ntmps75
  go_wp2_with fail
  refine (within_c n 1 4 _).mono ?_
  rintro e w1 ⟨rfl, rfl⟩
  go_wp2_with fail
  go_ret
  exact ⟨rfl, rfl⟩
theorem isArity_c (n : Int) (w : World) : Calls Tryz.prog 96 #[.int .i64 n] w fun e w' => e = .returned (.bool (inB n 1 4)) ∧ w = w' := by
  go_enter Tryz.func96, Tryz.ntmps96
  go_wp2_with fail
  refine (within_c n 1 4 _).mono ?_
  rintro e w1 ⟨rfl, rfl⟩
  go_wp2_with fail
  go_ret
  exact ⟨rfl, rfl⟩
theorem isVars_c (n : Int) (w : World) : Calls Tryz.prog 46 #[.int .i64 n] w fun e w' => e = .returned (.bool (inB n 1 10)) ∧ w = w' := by
  go_enter Tryz.func46, Tryz.ntmps46
  go_wp2_with fail
  refine (within_c n 1 10 _).mono ?_
  rintro e w1 ⟨rfl, rfl⟩
  go_wp2_with fail
  go_ret
  exact ⟨rfl, rfl⟩
theorem l01Size_c (n : Int) (w : World) : Calls Tryz.prog 74 #[.int .i64 n] w fun e w' => e = .returned (.bool (inB n 1 4)) ∧ w = w' := by
  go_enter Tryz.func74, Tryz.ntmps74
  go_wp2_with fail
  refine (l00In_c n 1 4 _).mono ?_
  rintro e w1 ⟨rfl, rfl⟩
  go_wp2_with fail
  go_ret
  exact ⟨rfl, rfl⟩
theorem l01Arity_c (n : Int) (w : World) : Calls Tryz.prog 92 #[.int .i64 n] w fun e w' => e = .returned (.bool (inB n 1 4)) ∧ w = w' := by
  go_enter Tryz.func92, Tryz.ntmps92
  go_wp2_with fail
  refine (l00In_c n 1 4 _).mono ?_
  rintro e w1 ⟨rfl, rfl⟩
  go_wp2_with fail
  go_ret
  exact ⟨rfl, rfl⟩
theorem isNaN_c (n : Int) (w : World) : Calls Tryz.prog 119 #[.int .i64 n] w fun e w' => e = .returned (.bool false) ∧ w = w' := by
  have h : (n != n) = false := by simp
  go_enter Tryz.func119, Tryz.ntmps119
  go_wp2_with fail
  go_ret
  exact ⟨ret_bool (by simp), rfl⟩
set_option maxHeartbeats 400000 in
theorem cmpCompare_c (a b : Int) (w : World) : Calls Tryz.prog 113 #[.int .i64 a, .int .i64 b] w fun e w' => e = .returned (.int .i64 (if a < b then -1 else if b < a then 1 else 0)) ∧ w = w' := by
  by_cases h1 : a < b
  · rw [if_pos h1]
    go_enter Tryz.func113, Tryz.ntmps113
    go_wp2_with (first | (go_at_call 119; refine (isNaN_c _ _).mono ?_; rintro e w' ⟨rfl, rfl⟩))
    go_ret
    exact ⟨rfl, rfl⟩
  · rw [if_neg h1]
    by_cases h2 : b < a
    · rw [if_pos h2]
      go_enter Tryz.func113, Tryz.ntmps113
      go_wp2_with (first | (go_at_call 119; refine (isNaN_c _ _).mono ?_; rintro e w' ⟨rfl, rfl⟩))
      go_ret
      exact ⟨rfl, rfl⟩
    · rw [if_neg h2]
      go_enter Tryz.func113, Tryz.ntmps113
      go_wp2_with (first | (go_at_call 119; refine (isNaN_c _ _).mono ?_; rintro e w' ⟨rfl, rfl⟩))
      go_ret
      exact ⟨rfl, rfl⟩
set_option maxRecDepth 100000 in
set_option maxHeartbeats 2000000 in
theorem compare_c (l m : List Int) (v0 v1 : Value) (w : World) (r0 : Rd w [v0] l) (r1 : Rd w [v1] m) :
    Calls Tryz.prog 97 #[v0, v1] w fun e w' => e = .returned (.int .i64 (cmpL l m)) ∧ w = w' := by
  obtain ⟨a, c, rfl, h0⟩ := rd_list r0
  obtain ⟨a', c', rfl, h1⟩ := rd_list r1
  have hb0 := (rdSl_len h0).2
  have hb1 := (rdSl_len h1).2
  unfold maxLen at hb0 hb1
  have HR := Lib.hid r0
  have HM := Lib.hid r1
  clear r0 r1 h0 h1
  go_enter Tryz.func97, Tryz.ntmps97
  go_wp2_with fail
  go_loop [11] (fun i => ∃ k : Nat, k ≤ l.length ∧ i = .int .i64 k ∧ Hid (k ≤ m.length ∧ cmpL l m = cmpL (l.drop k) (m.drop k))) (fun i => l.length - (intOf i).toNat)
  case atStart => exact ⟨0, Nat.zero_le _, rfl, Nat.zero_le _, rfl⟩
  case round =>
    obtain ⟨k, hk, rfl, hc⟩ := hrel
    have hkm := hc.out.1
    by_cases hlt : k < l.length
    · obtain ⟨b, o, rfl, q0, _⟩ := rd_int_at HR.out k hlt
      by_cases hm : k < m.length
      · obtain ⟨b2, o2, rfl, q1, _⟩ := rd_int_at HM.out k hm
        have HD := Lib.hid (hc.out.2.trans (cmp_drop l m k hlt hm))
        have hng : ¬ ((m.length : Int) ≤ k) := by omega
        have hmi : (k : Int) < m.length := by omega
        generalize l[k] = A at *
        generalize m[k] = B at *
        go_wp2_with fail
        refine (cmpCompare_c A B _).mono ?_
        rintro e w1 ⟨rfl, rfl⟩
        by_cases h1 : A < B
        · rw [if_pos h1]
          have HC := Lib.hid (show cmpL l m = -1 by rw [HD.out, if_pos h1])
          go_wp2_with fail
          go_ret
          exact ⟨ret_int HC.out.symm, rfl⟩
        · rw [if_neg h1]
          by_cases h2 : B < A
          · rw [if_pos h2]
            have HC := Lib.hid (show cmpL l m = 1 by rw [HD.out, if_neg h1, if_pos h2])
            go_wp2_with fail
            go_ret
            exact ⟨ret_int HC.out.symm, rfl⟩
          · rw [if_neg h2]
            have HC := Lib.hid (show cmpL l m = cmpL (l.drop (k + 1)) (m.drop (k + 1)) by rw [HD.out, if_neg h1, if_neg h2])
            go_wp2_with fail
            go_round
            case rel => exact ⟨k + 1, by omega, by go_num, by omega, HC.out⟩
            case measure => simp [intOf]; omega
      · have HC := Lib.hid (show cmpL l m = 1 by
          rw [hc.out.2, List.drop_of_length_le (show m.length ≤ k by omega), List.drop_eq_getElem_cons hlt]; rfl)
        have hng : (m.length : Int) ≤ k := by omega
        go_wp2_with fail
        go_ret
        exact ⟨ret_int HC.out.symm, rfl⟩
    · obtain rfl : k = l.length := by omega
      by_cases hm : l.length < m.length
      · have HC := Lib.hid (show cmpL l m = -1 by
          rw [hc.out.2, List.drop_length, List.drop_eq_getElem_cons hm]; rfl)
        go_wp2_with fail
        go_ret
        exact ⟨ret_int HC.out.symm, rfl⟩
      · have HC := Lib.hid (show cmpL l m = 0 by
          rw [hc.out.2, List.drop_length, List.drop_of_length_le (by omega)]; rfl)
        go_wp2_with fail
        go_ret
        exact ⟨ret_int HC.out.symm, rfl⟩
set_option maxRecDepth 100000 in
set_option maxHeartbeats 2000000 in
theorem l01Before_c (l m : List Int) (v0 v1 : Value) (w : World) (r0 : Rd w [v0] l) (r1 : Rd w [v1] m) (hlm : l.length = m.length) :
    Calls Tryz.prog 94 #[v0, v1] w fun e w' => e = .returned (.bool (befL l m)) ∧ Below w.heap.size w w' := by
  obtain ⟨a, c, rfl, h0⟩ := rd_list r0
  obtain ⟨a', c', rfl, h1⟩ := rd_list r1
  have hb0 := (rdSl_len h0).2
  unfold maxLen at hb0
  have HLM := Lib.hid hlm
  have HR := Lib.hid r0
  have HM := Lib.hid r1
  clear r0 r1 h0 h1 hlm
  go_enter Tryz.func94, Tryz.ntmps94
  go_wp2_with fail
  go_loopw [5] (fun i wl => ∃ k : Nat, k ≤ l.length ∧ i = .int .i64 k ∧ Hid (Below w.heap.size w wl) ∧ Hid (befL l m = befL (l.drop k) (m.drop k))) (fun i _ => l.length - (intOf i).toNat)
  case atStart => exact ⟨0, Nat.zero_le _, rfl, Below.refl _ _, rfl⟩
  case round =>
    obtain ⟨k, hk, rfl, hbl, hc⟩ := hrel
    have hsr := (St.start w).step hbl.out
    by_cases hlt : k < l.length
    · have hm : k < m.length := by have := HLM.out; omega
      obtain ⟨b, o, rfl, q0, _⟩ := rd_int_at HR.out k hlt
      obtain ⟨b2, o2, rfl, q1, _⟩ := rd_int_at HM.out k hm
      have HD := Lib.hid (hc.out.trans (bef_drop l m k hlt hm))
      have hmi : (k : Int) < m.length := by omega
      have hli : (k : Int) < l.length := by omega
      generalize l[k] = A at *
      generalize m[k] = B at *
      have q0_ := cellL hsr.bel q0
      clear q0_
      have q0_ := cellL hsr.bel q0
      have q1_ := cellL hsr.bel q1
      by_cases h1 : A = B
      · have h2 : (A != B) = false := by simp [h1]
        have HC := Lib.hid (show befL l m = befL (l.drop (k + 1)) (m.drop (k + 1)) by rw [HD.out, if_pos h1])
        clear h1
        go_upto_region 4 with fail
        refine wp_region_noPanic (wp_region_tree4 (fun w' => w'.cell? ⟨b, o + k, none⟩ = some (.int .i64 A) ∧ w'.cell? ⟨b2, o2 + k, none⟩ = some (.int .i64 B)) (.float 0 (.float 1 (.float 2 (.float 3 (.float 4 (.float 5 (.float 6 (.float 7 (.float 8 .nil))))))))) (by kernel_rfl) (by kernel_rfl) (by kernel_rfl) rfl ?_ (fun _ _ _ _ _ h => h) ?_)
        · exact ⟨cellL (hsr.drew).bel q0, cellL (hsr.drew).bel q1⟩
        have hs1 := hsr.drew
        clear q0_ q1_
        have hz_wd2 : wr.heap.size ≤ (wr.drew).heap.size := by simp
        generalize hgen_wd2 : wr.drew = wd2 at *
        have HG_wd2 := Lib.hid hgen_wd2
        clear hgen_wd2
        (repeat (first | (apply t4_skip rfl (by rfl); try simp only [Act.put, List.setIfInBounds_toArray, List.set_cons_zero, List.set_cons_succ]) | (apply t4_float rfl (by rfl); (· (intro w' hS; go_simp <;> with_reducible rfl)); (try simp only [Act.put, List.setIfInBounds_toArray, List.set_cons_zero, List.set_cons_succ]))))
        have q0_ := cellL hs1.bel q0
        have q1_ := cellL hs1.bel q1
        refine t4_nil (NoPanic.normal ?_)
        go_wp2_with fail
        go_roundw
        case rel => exact ⟨k + 1, by omega, by go_num, hs1.bel, HC.out⟩
        case measure => simp [intOf]; omega
      · have h2 : (A != B) = true := by simp [h1]
        have HC := Lib.hid (show befL l m = decide (A < B) by rw [HD.out, if_neg h1])
        clear h1
        go_upto_region 4 with fail
        refine wp_region_noPanic (wp_region_tree4 (fun w' => w'.cell? ⟨b, o + k, none⟩ = some (.int .i64 A) ∧ w'.cell? ⟨b2, o2 + k, none⟩ = some (.int .i64 B)) (.float 0 (.float 1 (.float 2 (.float 3 (.float 4 (.float 5 (.float 6 (.float 7 (.float 8 .nil))))))))) (by kernel_rfl) (by kernel_rfl) (by kernel_rfl) rfl ?_ (fun _ _ _ _ _ h => h) ?_)
        · exact ⟨cellL (hsr.drew).bel q0, cellL (hsr.drew).bel q1⟩
        have hs3 := hsr.drew
        clear q0_ q1_
        have hz_wd4 : wr.heap.size ≤ (wr.drew).heap.size := by simp
        generalize hgen_wd4 : wr.drew = wd4 at *
        have HG_wd4 := Lib.hid hgen_wd4
        clear hgen_wd4
        (repeat (first | (apply t4_skip rfl (by rfl); try simp only [Act.put, List.setIfInBounds_toArray, List.set_cons_zero, List.set_cons_succ]) | (apply t4_float rfl (by rfl); (· (intro w' hS; go_simp <;> with_reducible rfl)); (try simp only [Act.put, List.setIfInBounds_toArray, List.set_cons_zero, List.set_cons_succ]))))
        have q0_ := cellL hs3.bel q0
        have q1_ := cellL hs3.bel q1
        refine t4_nil (NoPanic.normal ?_)
        go_upto_region 5 with fail
        refine wp_region_noPanic (wp_region_tree4 (fun w' => w'.cell? ⟨b, o + k, none⟩ = some (.int .i64 A) ∧ w'.cell? ⟨b2, o2 + k, none⟩ = some (.int .i64 B)) (.float 0 (.float 1 (.float 2 (.float 3 (.float 4 (.float 5 (.float 6 (.float 7 (.float 8 (.float 9 .nil)))))))))) (by kernel_rfl) (by kernel_rfl) (by kernel_rfl) rfl ?_ (fun _ _ _ _ _ h => h) ?_)
        · exact ⟨cellL (hs3.drew).bel q0, cellL (hs3.drew).bel q1⟩
        have hs5 := hs3.drew
        clear q0_ q1_
        have hz_wd6 : wd4.heap.size ≤ (wd4.drew).heap.size := by simp
        generalize hgen_wd6 : wd4.drew = wd6 at *
        have HG_wd6 := Lib.hid hgen_wd6
        clear hgen_wd6
        (repeat (first | (apply t4_skip rfl (by rfl); try simp only [Act.put, List.setIfInBounds_toArray, List.set_cons_zero, List.set_cons_succ]) | (apply t4_float rfl (by rfl); (· (intro w' hS; go_simp <;> with_reducible rfl)); (try simp only [Act.put, List.setIfInBounds_toArray, List.set_cons_zero, List.set_cons_succ]))))
        have q0_ := cellL hs5.bel q0
        have q1_ := cellL hs5.bel q1
        refine t4_nil (NoPanic.normal ?_)
        go_wp2_with fail
        go_ret
        exact ⟨ret_bool HC.out.symm, hs5.bel⟩
    · obtain rfl : k = l.length := by omega
      have HC := Lib.hid (show befL l m = false by rw [hc.out, List.drop_length]; rfl)
      go_wp2_with fail
      go_ret
      exact ⟨ret_bool HC.out.symm, hsr.bel⟩
set_option maxRecDepth 100000 in
set_option maxHeartbeats 2000000 in
theorem l01Tuple_c (size ar : Int) (l : List Int) (v0 : Value) (w : World) (r0 : Rd w [v0] l) (hs0 : -1000 ≤ size) (hs1 : size ≤ 1000000000) :
    Calls Tryz.prog 93 #[.int .i64 size, .int .i64 ar, v0] w fun e w' => e = .returned (.bool (valsOk size l ar)) ∧ w = w' := by
  obtain ⟨a, c, rfl, h0⟩ := rd_list r0
  have hb0 := (rdSl_len h0).2
  unfold maxLen at hb0
  have HR := Lib.hid r0
  clear r0 h0
  go_enter Tryz.func93, Tryz.ntmps93
  go_wp2_with fail
  go_loop [7] (fun i => ∃ k : Nat, k ≤ l.length ∧ i = .int .i64 k ∧ Hid (∀ j (hj : j < l.length), j < k → inB l[j] 0 (size - 1) = true)) (fun i => l.length - (intOf i).toNat)
  case atStart => exact ⟨0, Nat.zero_le _, rfl, fun j _ hj => absurd hj (Nat.not_lt_zero _)⟩
  case round =>
    obtain ⟨k, hk, rfl, hr⟩ := hrel
    by_cases hlt : k < l.length
    · obtain ⟨b, o, rfl, q0, _⟩ := rd_int_at HR.out k hlt
      go_wp2_with fail
      refine (l00In_c l[k] 0 (size - 1) _).mono ?_
      rintro e w1 ⟨rfl, rfl⟩
      cases hq : inB l[k] 0 (size - 1) with
      | false =>
        have HQ := Lib.hid (show valsOk size l ar = false by
          simp only [valsOk, Bool.and_eq_false_iff]
          exact .inr (List.all_eq_false.2 ⟨_, List.getElem_mem hlt, by simp [hq]⟩))
        clear hq
        go_wp2_with fail
        go_ret
        exact ⟨ret_bool HQ.out.symm, rfl⟩
      | true =>
        have HQ := Lib.hid hq
        clear hq
        go_wp2_with fail
        go_round
        case rel =>
          refine ⟨k + 1, by omega, by go_num, fun j hj hjk => ?_⟩
          rcases Nat.lt_or_ge j k with h | h
          · exact hr.out j hj h
          · obtain rfl : j = k := by omega
            exact HQ.out
        case measure => simp [intOf]; omega
    · obtain rfl : k = l.length := by omega
      have HA := Lib.hid (show l.all (fun a => inB a 0 (size - 1)) = true by
        rw [List.all_eq_true]
        intro y hy
        obtain ⟨j, hj, rfl⟩ := List.getElem_of_mem hy
        exact hr.out j hj hj)
      by_cases hn : (l.length : Int) = ar
      · have hn1 : ((l.length : Int) == ar) = true := by simpa using hn
        have HQ := Lib.hid (show valsOk size l ar = true by unfold valsOk; rw [HA.out, decide_eq_true hn]; rfl)
        clear hn
        go_wp2_with fail
        go_ret
        exact ⟨ret_bool (by rw [HQ.out] <;> first | rfl | simp [hn1]), rfl⟩
      · have hn1 : ((l.length : Int) == ar) = false := by simpa using hn
        have HQ := Lib.hid (show valsOk size l ar = false by unfold valsOk; rw [decide_eq_false hn]; rfl)
        clear hn
        go_wp2_with fail
        go_ret
        exact ⟨ret_bool (by rw [HQ.out] <;> first | rfl | simp [hn1]), rfl⟩
theorem valsOk_len {p n : Int} {l : List Int} (h : valsOk p l n = true) : (l.length : Int) = n := by
  simp only [valsOk, Bool.and_eq_true, decide_eq_true_eq] at h
  exact h.1
set_option maxRecDepth 100000 in
set_option maxHeartbeats 4000000 in
theorem ValidRel_c (size : Int) (r : RelT) (v0 v1 : Value) (w : World) (hr : Rd w [v0, v1] r) :
    Calls Tryz.prog 78 #[.int .i64 size, .agg #[v0, v1]] w fun e w' => e = .returned (.bool (relOk size r)) ∧ Below w.heap.size w w' := by
  obtain ⟨ar, l⟩ := r
  have HR := Lib.hid hr
  have z7 := rd_cons rfl hr
  obtain ⟨rfl, hIar⟩ := rd_i1 z7.1
  obtain ⟨a, c, rfl, hRl⟩ := rd_list z7.2
  clear hr z7
  have hb0 := (rdSl_len hRl).2
  unfold maxLen at hb0
  have HL := Lib.hid hRl
  clear hRl
  have hs8 := (St.start w).alloc #[.int .i64 ar, .slice a l.length c] 57 (n := w.heap.size) (by simp)
  have k0_0 := hs8.cellAt 0 rfl 0 rfl
  have k0_1 := hs8.cellAt 0 rfl 1 rfl
  go_enter Tryz.func78, Tryz.ntmps78
  go_wp2_with fail
  refine (isSize_c size _).mono ?_
  rintro e w9 ⟨rfl, rfl, rfl⟩
  cases h1 : inB size 1 4 with
  | false =>
    have H1 := Lib.hid (show relOk size (ar, l) = false by simp only [relOk, h1, Bool.false_and])
    clear h1
    go_wp2_with fail
    go_ret
    exact ⟨ret_bool H1.out.symm, hs8.bel⟩
  | true =>
    have hs := inB_true h1
    have H1 := Lib.hid h1
    clear h1
    go_wp2_with fail
    refine (isArity_c ar _).mono ?_
    rintro e w10 ⟨rfl, rfl, rfl⟩
    cases h2 : inB ar 1 4 with
    | false =>
      have H2 := Lib.hid (show relOk size (ar, l) = false by simp only [relOk, h2, Bool.and_false, Bool.false_and])
      clear h2
      go_wp2_with fail
      go_ret
      exact ⟨ret_bool H2.out.symm, hs8.bel⟩
    | true =>
      have har := inB_true h2
      have H2 := Lib.hid h2
      have H3 := Lib.hid (show relOk size (ar, l) = tupsOk size ar l by simp only [relOk, H1.out, h2, Bool.true_and])
      clear h2
      have HB0 := Lib.hid hs8.bel
      go_wp2_with fail
      go_loopw [19] (fun i wl => ∃ k : Nat, k ≤ l.length ∧ i = .int .i64 k ∧ Hid (Below ((w.alloc (.cells #[.int .i64 ar, .slice a l.length c] 57))).heap.size ((w.alloc (.cells #[.int .i64 ar, .slice a l.length c] 57))) wl) ∧ Hid (∀ j, j < k → tupAt size ar l j = true)) (fun i _ => l.length - (intOf i).toNat)
      case atStart => exact ⟨0, Nat.zero_le _, rfl, Below.refl _ _, fun j hj => absurd hj (Nat.not_lt_zero _)⟩
      case round =>
        obtain ⟨k, hk, rfl, hbl, ht⟩ := hrel
        have hbl2 := hbl.out
        have hz_wr : w.heap.size + 1 ≤ wr.heap.size := by have h9 := hbl2.size; (try simp at h9); omega
        have hs11 := hs8.step hbl2
        clear k0_0 k0_1
        have k0_0 := hs11.cellAt 0 rfl 0 rfl
        have k0_1 := hs11.cellAt 0 rfl 1 rfl
        have HBL := Lib.hid hbl2
        clear hbl2 hbl
        by_cases hlt : k < l.length
        · obtain ⟨b, o, u0, rfl, f0, hx⟩ := rdSl_one rfl (rdSl_mono hs11.bel HL.out) k hlt
          have HX := Lib.hid hx
          clear hx
          obtain ⟨a0, c0, rfl, _⟩ := rd_list HX.out
          go_wp2_with fail
          refine (areValues_c size l[k] _ ar _ HX.out (by omega) (by omega)).mono ?_
          rintro e w12 ⟨rfl, hbw12⟩
          have hz_w12 : wr.heap.size ≤ w12.heap.size := by have h9 := hbw12.size; (try simp at h9); omega
          have hs13 := hs11.step hbw12
          have f0_14 := cellL hbw12 f0
          clear f0
          have HBL_15 := Lib.hid (HBL.out.trans ((hbw12).mono HBL.out.size))
          clear HBL
          have HX_16 := Lib.hid (Rd.mono HX.out hbw12)
          clear HX
          clear k0_0 k0_1
          have k0_0 := hs13.cellAt 0 rfl 0 rfl
          have k0_1 := hs13.cellAt 0 rfl 1 rfl
          cases h4 : valsOk size l[k] ar with
          | false =>
            have H4 := Lib.hid (show relOk size (ar, l) = false by
              rw [H3.out]
              exact tupsOk_not k hlt (by simp [tupAt, List.getD, hlt, h4]))
            clear h4
            go_wp2_with fail
            go_ret
            exact ⟨ret_bool H4.out.symm, hs13.bel⟩
          | true =>
            have H4 := Lib.hid h4
            clear h4
            cases k with
            | zero =>
              go_wp2_with fail
              go_roundw
              case rel =>
                refine ⟨1, by omega, by go_num, HBL_15.out, fun j hj => ?_⟩
                obtain rfl : j = 0 := by omega
                simp [tupAt, List.getD, hlt, H4.out]
              case measure => simp [intOf]; omega
            | succ j =>
              obtain ⟨b', o', u1, e1, f1, hy⟩ := rdSl_one rfl (rdSl_mono hs13.bel HL.out) j (by omega)
              simp only [Option.some.injEq, Addr.mk.injEq, and_true] at e1
              obtain ⟨rfl, rfl⟩ := e1
              have HY := Lib.hid hy
              clear hy
              obtain ⟨a1, c1, rfl, _⟩ := rd_list HY.out
              have ej : ((↑(j + 1) : Int) - 1).toNat = j := by omega
              have ej1 : (0 : Int) ≤ (↑(j + 1) : Int) - 1 := by omega
              have ej2 : (↑(j + 1) : Int) - 1 < l.length := by omega
              go_wp2_with fail
              refine (compare_c l[j] l[j + 1] _ _ _ HY.out HX_16.out).mono ?_
              rintro e w17 ⟨rfl, rfl, rfl⟩
              have hcb := cmp_bd l[j] l[j + 1]
              by_cases h5 : cmpL l[j] l[j + 1] < 0
              · have hT := Lib.hid (show tupAt size ar l (j + 1) = true by simp [tupAt, List.getD, hlt, H4.out, show j < l.length by omega, h5])
                have h6 : ¬ (0 ≤ cmpL l[j] l[j + 1]) := by omega
                go_wp2_with fail
                go_roundw
                case rel =>
                  refine ⟨j + 2, by omega, by go_num, HBL_15.out, fun i hi => ?_⟩
                  rcases Nat.lt_or_ge i (j + 1) with h | h
                  · exact ht.out i h
                  · obtain rfl : i = j + 1 := by omega
                    exact hT.out
                case measure => simp [intOf]; omega
              · have H5 := Lib.hid (show relOk size (ar, l) = false by
                  rw [H3.out]
                  exact tupsOk_not (j + 1) hlt (by simp [tupAt, List.getD, hlt, show j < l.length by omega, h5]))
                have h6 : 0 ≤ cmpL l[j] l[j + 1] := by omega
                go_wp2_with fail
                go_ret
                exact ⟨ret_bool H5.out.symm, hs13.bel⟩
        · obtain rfl : k = l.length := by omega
          have HT := Lib.hid (tupsOk_of ht.out)
          go_wp2_with fail
          go_ret
          exact ⟨ret_bool (by rw [H3.out, HT.out]), hs11.bel⟩
set_option maxRecDepth 100000 in
set_option maxHeartbeats 4000000 in
theorem l01Ok_c (size : Int) (r : RelT) (pb po : Nat) (v0 v1 : Value) (w : World) (hr : Rd w [v0, v1] r) (hc0 : w.cell? ⟨pb, po, none⟩ = some v0) (hc1 : w.cell? ⟨pb, po + 1, none⟩ = some v1) :
    Calls Tryz.prog 73 #[.int .i64 size, .pointer (some ⟨pb, po, none⟩)] w fun e w' => e = .returned (.bool (relOk size r)) ∧ Below w.heap.size w w' := by
  obtain ⟨ar, l⟩ := r
  have HR := Lib.hid hr
  have z18 := rd_cons rfl hr
  obtain ⟨rfl, hIar⟩ := rd_i1 z18.1
  obtain ⟨a, c, rfl, hRl⟩ := rd_list z18.2
  clear hr z18
  have hb0 := (rdSl_len hRl).2
  unfold maxLen at hb0
  have HL := Lib.hid hRl
  clear hRl
  have hc0_ := cellL (St.start w).bel hc0
  clear hc0_
  have hc0_ := cellL (St.start w).bel hc0
  have hc1_ := cellL (St.start w).bel hc1
  go_enter Tryz.func73, Tryz.ntmps73
  go_wp2_with fail
  refine (l01Size_c size _).mono ?_
  rintro e w19 ⟨rfl, rfl, rfl⟩
  cases h1 : inB size 1 4 with
  | false =>
    have H1 := Lib.hid (show relOk size (ar, l) = false by simp only [relOk, h1, Bool.false_and])
    clear h1
    go_wp2_with fail
    go_ret
    exact ⟨ret_bool H1.out.symm, (St.start w).bel⟩
  | true =>
    have hs := inB_true h1
    have H1 := Lib.hid h1
    clear h1
    go_wp2_with fail
    refine (l01Arity_c ar _).mono ?_
    rintro e w20 ⟨rfl, rfl, rfl⟩
    cases h2 : inB ar 1 4 with
    | false =>
      have H2 := Lib.hid (show relOk size (ar, l) = false by simp only [relOk, h2, Bool.and_false, Bool.false_and])
      clear h2
      go_wp2_with fail
      go_ret
      exact ⟨ret_bool H2.out.symm, (St.start w).bel⟩
    | true =>
      have har := inB_true h2
      have H2 := Lib.hid h2
      have H3 := Lib.hid (show relOk size (ar, l) = tupsOk size ar l by simp only [relOk, H1.out, h2, Bool.true_and])
      clear h2
      go_wp2_with fail
      go_loopw [5] (fun i wl => ∃ k : Nat, k ≤ l.length ∧ i = .int .i64 k ∧ Hid (Below w.heap.size w wl) ∧ Hid (∀ j, j < k → tupAt size ar l j = true)) (fun i _ => l.length - (intOf i).toNat)
      case atStart => exact ⟨0, Nat.zero_le _, rfl, Below.refl _ _, fun j hj => absurd hj (Nat.not_lt_zero _)⟩
      case round =>
        obtain ⟨k, hk, rfl, hbl, ht⟩ := hrel
        have hsr := (St.start w).step hbl.out
        have hc0_ := cellL hsr.bel hc0
        have hc1_ := cellL hsr.bel hc1
        clear hbl
        by_cases hlt : k < l.length
        · obtain ⟨b, o, u0, rfl, f0, hx⟩ := rdSl_one rfl HL.out k hlt
          have HX := Lib.hid hx
          clear hx
          obtain ⟨a0, c0, rfl, _⟩ := rd_list HX.out
          clear hc0_ hc1_
          have hc0_ := cellL hsr.bel hc0
          have hc1_ := cellL hsr.bel hc1
          have f0_ := cellL hsr.bel f0
          clear hc0_ hc1_ f0_
          have hc0_ := cellL hsr.bel hc0
          have hc1_ := cellL hsr.bel hc1
          have f0_ := cellL hsr.bel f0
          have hkl : (k : Int) < l.length := by omega
          cases h4 : valsOk size l[k] ar with
          | false =>
            have H4 := Lib.hid (show relOk size (ar, l) = false by
              rw [H3.out]
              exact tupsOk_not k hlt (by simp [tupAt, List.getD, hlt, h4]))
            go_upto_region 6 with fail
            refine wp_region_noPanic (wp_region_tree4 (fun w' => w'.cell? ⟨pb, po, none⟩ = some (.int .i64 ar) ∧ w'.cell? ⟨pb, po + 1, none⟩ = some (.slice (some ⟨b, o, none⟩) l.length c) ∧ w'.cell? ⟨b, o + k, none⟩ = some (.slice a0 l[k].length c0)) (.float 0 (.float 1 (.float 2 (.float 3 (.float 4 (.float 5 (.float 6 (.float 7 (.float 8 (.float 9 (.float 10 (.float 11 (.hard 12 (.float 13 (.float 14 (.float 15 (.float 16 (.float 17 (.float 18 (.float 19 (.float 20 (.float 21 (.float 22 (.float 23 (.float 24 (.float 25 (.float 26 (.float 27 (.float 28 (.float 29 (.float 30 (.float 31 (.float 32 (.hard 33 (.float 34 (.float 35 (.float 36 .nil))))))))))))))))))))))))))))))))))))) (by kernel_rfl) (by kernel_rfl) (by kernel_rfl) rfl ?_ (fun _ _ _ _ _ h => h) ?_)
            · exact ⟨cellL (hsr.drew).bel hc0, cellL (hsr.drew).bel hc1, cellL (hsr.drew).bel f0⟩
            have hs21 := hsr.drew
            clear hc0_ hc1_ f0_
            have hz_wd22 : wr.heap.size ≤ (wr.drew).heap.size := by simp
            generalize hgen_wd22 : wr.drew = wd22 at *
            have HG_wd22 := Lib.hid hgen_wd22
            clear hgen_wd22
            (repeat (first | (apply t4_skip rfl (by rfl); try simp only [Act.put, List.setIfInBounds_toArray, List.set_cons_zero, List.set_cons_succ]) | (apply t4_float rfl (by rfl); (· (intro w' hS; go_simp <;> with_reducible rfl)); (try simp only [Act.put, List.setIfInBounds_toArray, List.set_cons_zero, List.set_cons_succ]))))
            refine t4_hard rfl (by rfl) (fun K hK => ?_)
            go_wp2_with (go_at_call 93; refine (l01Tuple_c size ar l[k] _ _ (Rd.mono HX.out hs21.bel) (by omega) (by omega)).mono ?_; rintro e w23 ⟨rfl, rfl, rfl⟩)
            refine ⟨⟨cellL hs21.bel hc0, cellL hs21.bel hc1, cellL hs21.bel f0⟩, ?_⟩
            (repeat (first | (apply t4_skip rfl (by rfl); try simp only [Act.put, List.setIfInBounds_toArray, List.set_cons_zero, List.set_cons_succ]) | (apply t4_float rfl (by rfl); (· (intro w' hS; go_simp <;> with_reducible rfl)); (try simp only [Act.put, List.setIfInBounds_toArray, List.set_cons_zero, List.set_cons_succ]))))
            refine t4_hskip rfl (by rfl) ?_ ?_
            · exact ⟨cellL hs21.bel hc0, cellL hs21.bel hc1, cellL hs21.bel f0⟩
            (try simp only [Act.put, List.setIfInBounds_toArray, List.set_cons_zero, List.set_cons_succ])
            (repeat (first | (apply t4_skip rfl (by rfl); try simp only [Act.put, List.setIfInBounds_toArray, List.set_cons_zero, List.set_cons_succ]) | (apply t4_float rfl (by rfl); (· (intro w' hS; go_simp <;> with_reducible rfl)); (try simp only [Act.put, List.setIfInBounds_toArray, List.set_cons_zero, List.set_cons_succ]))))
            have hc0_ := cellL hs21.bel hc0
            have hc1_ := cellL hs21.bel hc1
            have f0_ := cellL hs21.bel f0
            refine t4_nil (NoPanic.normal ?_)
            go_wp2_with fail
            go_ret
            exact ⟨ret_bool H4.out.symm, hs21.bel⟩
          | true =>
            have H4 := Lib.hid h4
            by_cases hk0 : k = 0
            · have hk1 : ¬ ((0 : Int) < k) := by omega
              have HK0 := Lib.hid hk0
              have HD := Lib.hid (show decide (0 < k) = false by simp [hk0])
              clear hk0 hk1
              go_upto_region 6 with fail
              refine wp_region_noPanic (wp_region_tree4 (fun w' => w'.cell? ⟨pb, po, none⟩ = some (.int .i64 ar) ∧ w'.cell? ⟨pb, po + 1, none⟩ = some (.slice (some ⟨b, o, none⟩) l.length c) ∧ w'.cell? ⟨b, o + k, none⟩ = some (.slice a0 l[k].length c0)) (.float 0 (.float 1 (.float 2 (.float 3 (.float 4 (.float 5 (.float 6 (.float 7 (.float 8 (.float 9 (.float 10 (.float 11 (.hard 12 (.float 13 (.float 14 (.float 15 (.float 16 (.float 17 (.float 18 (.float 19 (.float 20 (.float 21 (.float 22 (.float 23 (.float 24 (.float 25 (.float 26 (.float 27 (.float 28 (.float 29 (.float 30 (.float 31 (.float 32 (.hard 33 (.float 34 (.float 35 (.float 36 .nil))))))))))))))))))))))))))))))))))))) (by kernel_rfl) (by kernel_rfl) (by kernel_rfl) rfl ?_ (fun _ _ _ _ _ h => h) ?_)
              · exact ⟨cellL (hsr.drew).bel hc0, cellL (hsr.drew).bel hc1, cellL (hsr.drew).bel f0⟩
              have hs24 := hsr.drew
              clear hc0_ hc1_ f0_
              have hz_wd25 : wr.heap.size ≤ (wr.drew).heap.size := by simp
              generalize hgen_wd25 : wr.drew = wd25 at *
              have HG_wd25 := Lib.hid hgen_wd25
              clear hgen_wd25
              (repeat (first | (apply t4_skip rfl (by rfl); try simp only [Act.put, List.setIfInBounds_toArray, List.set_cons_zero, List.set_cons_succ]) | (apply t4_float rfl (by rfl); (· (intro w' hS; go_simp <;> with_reducible rfl)); (try simp only [Act.put, List.setIfInBounds_toArray, List.set_cons_zero, List.set_cons_succ]))))
              (try (rw [HD.out]; (repeat (first | (apply t4_skip rfl (by rfl); try simp only [Act.put, List.setIfInBounds_toArray, List.set_cons_zero, List.set_cons_succ]) | (apply t4_float rfl (by rfl); (· (intro w' hS; go_simp <;> with_reducible rfl)); (try simp only [Act.put, List.setIfInBounds_toArray, List.set_cons_zero, List.set_cons_succ]))))))
              refine t4_hard rfl (by rfl) (fun K hK => ?_)
              go_wp2_with (go_at_call 93; refine (l01Tuple_c size ar l[k] _ _ (Rd.mono HX.out hs24.bel) (by omega) (by omega)).mono ?_; rintro e w26 ⟨rfl, rfl, rfl⟩)
              refine ⟨⟨cellL hs24.bel hc0, cellL hs24.bel hc1, cellL hs24.bel f0⟩, ?_⟩
              (repeat (first | (apply t4_skip rfl (by rfl); try simp only [Act.put, List.setIfInBounds_toArray, List.set_cons_zero, List.set_cons_succ]) | (apply t4_float rfl (by rfl); (· (intro w' hS; go_simp <;> with_reducible rfl)); (try simp only [Act.put, List.setIfInBounds_toArray, List.set_cons_zero, List.set_cons_succ]))))
              (try (rw [HD.out]; (repeat (first | (apply t4_skip rfl (by rfl); try simp only [Act.put, List.setIfInBounds_toArray, List.set_cons_zero, List.set_cons_succ]) | (apply t4_float rfl (by rfl); (· (intro w' hS; go_simp <;> with_reducible rfl)); (try simp only [Act.put, List.setIfInBounds_toArray, List.set_cons_zero, List.set_cons_succ]))))))
              refine t4_hskip rfl (by rfl) ?_ ?_
              · exact ⟨cellL hs24.bel hc0, cellL hs24.bel hc1, cellL hs24.bel f0⟩
              (try simp only [Act.put, List.setIfInBounds_toArray, List.set_cons_zero, List.set_cons_succ])
              (repeat (first | (apply t4_skip rfl (by rfl); try simp only [Act.put, List.setIfInBounds_toArray, List.set_cons_zero, List.set_cons_succ]) | (apply t4_float rfl (by rfl); (· (intro w' hS; go_simp <;> with_reducible rfl)); (try simp only [Act.put, List.setIfInBounds_toArray, List.set_cons_zero, List.set_cons_succ]))))
              (try (rw [HD.out]; (repeat (first | (apply t4_skip rfl (by rfl); try simp only [Act.put, List.setIfInBounds_toArray, List.set_cons_zero, List.set_cons_succ]) | (apply t4_float rfl (by rfl); (· (intro w' hS; go_simp <;> with_reducible rfl)); (try simp only [Act.put, List.setIfInBounds_toArray, List.set_cons_zero, List.set_cons_succ]))))))
              have hc0_ := cellL hs24.bel hc0
              have hc1_ := cellL hs24.bel hc1
              have f0_ := cellL hs24.bel f0
              refine t4_nil (NoPanic.normal ?_)
              go_wp2_with fail
              go_roundw
              case rel =>
                refine ⟨k + 1, by omega, by go_num, hs24.bel, fun j hj => ?_⟩
                have hk0 := HK0.out
                obtain rfl : j = k := by omega
                unfold tupAt
                rw [show l.getD j [] = l[j] by simp [List.getD, hlt], H4.out, decide_eq_true hk0]
                rfl
              case measure => simp [intOf]; omega
            · obtain ⟨j, hkj⟩ : ∃ j, k = j + 1 := ⟨k - 1, by omega⟩
              have HD := Lib.hid (show decide (0 < k) = true by simp [hkj])
              have hjl : j < l.length := by omega
              obtain ⟨b', o', u1, e1, f1, hy⟩ := rdSl_one rfl HL.out j hjl
              simp only [Option.some.injEq, Addr.mk.injEq, and_true] at e1
              obtain ⟨rfl, rfl⟩ := e1
              have HY := Lib.hid hy
              clear hy
              obtain ⟨a1, c1, rfl, _⟩ := rd_list HY.out
              clear hc0_ hc1_ f0_
              have hc0_ := cellL hsr.bel hc0
              have hc1_ := cellL hsr.bel hc1
              have f0_ := cellL hsr.bel f0
              have f1_ := cellL hsr.bel f1
              clear hc0_ hc1_ f0_ f1_
              have hc0_ := cellL hsr.bel hc0
              have hc1_ := cellL hsr.bel hc1
              have f0_ := cellL hsr.bel f0
              have f1_ := cellL hsr.bel f1
              have HLE := Lib.hid (show l[j].length = l[k].length by
                have h := ht.out j (by omega)
                simp only [tupAt, Bool.and_eq_true] at h
                have h9 := h.1
                rw [show l.getD j [] = l[j] by simp [List.getD, show j < l.length by omega, show k - 1 = j by omega, hk0]] at h9
                have e1 := valsOk_len h9
                have e2 := valsOk_len h4
                omega)
              have ej : (k : Int) - 1 = (j : Int) := by omega
              have ejw : IntKind.i64.wrap (j : Int) = (j : Int) := i64_in _ (by omega)
              have HKJ := Lib.hid hkj
              clear hkj
              cases h5 : befL l[j] l[k] with
              | false =>
                have H5 := Lib.hid (show relOk size (ar, l) = false by
                  have hkj := HKJ.out
                  have h6 := cmp_bef _ _ HLE.out
                  rw [h5] at h6
                  rw [H3.out]
                  exact tupsOk_not k hlt (by simp [tupAt, List.getD, hlt, show j < l.length by omega, show k - 1 = j by omega, hk0]; exact fun _ => by simpa using h6.symm))
                go_upto_region 6 with fail
                refine wp_region_noPanic (wp_region_tree4 (fun w' => w'.cell? ⟨pb, po, none⟩ = some (.int .i64 ar) ∧ w'.cell? ⟨pb, po + 1, none⟩ = some (.slice (some ⟨b, o, none⟩) l.length c) ∧ w'.cell? ⟨b, o + k, none⟩ = some (.slice a0 l[k].length c0) ∧ w'.cell? ⟨b, o + j, none⟩ = some (.slice a1 l[j].length c1)) (.float 0 (.float 1 (.float 2 (.float 3 (.float 4 (.float 5 (.float 6 (.float 7 (.float 8 (.float 9 (.float 10 (.float 11 (.hard 12 (.float 13 (.float 14 (.float 15 (.float 16 (.float 17 (.float 18 (.float 19 (.float 20 (.float 21 (.float 22 (.float 23 (.float 24 (.float 25 (.float 26 (.float 27 (.float 28 (.float 29 (.float 30 (.float 31 (.float 32 (.hard 33 (.float 34 (.float 35 (.float 36 .nil))))))))))))))))))))))))))))))))))))) (by kernel_rfl) (by kernel_rfl) (by kernel_rfl) rfl ?_ (fun _ _ _ _ _ h => h) ?_)
                · exact ⟨cellL (hsr.drew).bel hc0, cellL (hsr.drew).bel hc1, cellL (hsr.drew).bel f0, cellL (hsr.drew).bel f1⟩
                have hs27 := hsr.drew
                clear hc0_ hc1_ f0_ f1_
                have hz_wd28 : wr.heap.size ≤ (wr.drew).heap.size := by simp
                generalize hgen_wd28 : wr.drew = wd28 at *
                have HG_wd28 := Lib.hid hgen_wd28
                clear hgen_wd28
                (repeat (first | (apply t4_skip rfl (by rfl); try simp only [Act.put, List.setIfInBounds_toArray, List.set_cons_zero, List.set_cons_succ]) | (apply t4_float rfl (by rfl); (· (intro w' hS; go_simp <;> with_reducible rfl)); (try simp only [Act.put, List.setIfInBounds_toArray, List.set_cons_zero, List.set_cons_succ]))))
                (try (rw [HD.out]; (repeat (first | (apply t4_skip rfl (by rfl); try simp only [Act.put, List.setIfInBounds_toArray, List.set_cons_zero, List.set_cons_succ]) | (apply t4_float rfl (by rfl); (· (intro w' hS; go_simp <;> with_reducible rfl)); (try simp only [Act.put, List.setIfInBounds_toArray, List.set_cons_zero, List.set_cons_succ]))))))
                refine t4_hard rfl (by rfl) (fun K hK => ?_)
                go_wp2_with (go_at_call 93; refine (l01Tuple_c size ar l[k] _ _ (Rd.mono HX.out hs27.bel) (by omega) (by omega)).mono ?_; rintro e w29 ⟨rfl, rfl, rfl⟩)
                refine ⟨⟨cellL hs27.bel hc0, cellL hs27.bel hc1, cellL hs27.bel f0, cellL hs27.bel f1⟩, ?_⟩
                (repeat (first | (apply t4_skip rfl (by rfl); try simp only [Act.put, List.setIfInBounds_toArray, List.set_cons_zero, List.set_cons_succ]) | (apply t4_float rfl (by rfl); (· (intro w' hS; go_simp <;> with_reducible rfl)); (try simp only [Act.put, List.setIfInBounds_toArray, List.set_cons_zero, List.set_cons_succ]))))
                (try (rw [HD.out]; (repeat (first | (apply t4_skip rfl (by rfl); try simp only [Act.put, List.setIfInBounds_toArray, List.set_cons_zero, List.set_cons_succ]) | (apply t4_float rfl (by rfl); (· (intro w' hS; go_simp <;> with_reducible rfl)); (try simp only [Act.put, List.setIfInBounds_toArray, List.set_cons_zero, List.set_cons_succ]))))))
                refine t4_hard rfl (by rfl) (fun K hK => ?_)
                go_wp2_with (go_at_call 94; refine (l01Before_c l[j] l[k] _ _ _ (Rd.mono HY.out hs27.bel) (Rd.mono HX.out hs27.bel) HLE.out).mono ?_; rintro e w30 ⟨rfl, hbw30⟩)
                have hz_w30 : wd28.heap.size ≤ w30.heap.size := by have h9 := hbw30.size; (try simp at h9); omega
                have hs31 := hs27.step hbw30
                refine ⟨⟨cellL hs31.bel hc0, cellL hs31.bel hc1, cellL hs31.bel f0, cellL hs31.bel f1⟩, ?_⟩
                (repeat (first | (apply t4_skip rfl (by rfl); try simp only [Act.put, List.setIfInBounds_toArray, List.set_cons_zero, List.set_cons_succ]) | (apply t4_float rfl (by rfl); (· (intro w' hS; go_simp <;> with_reducible rfl)); (try simp only [Act.put, List.setIfInBounds_toArray, List.set_cons_zero, List.set_cons_succ]))))
                (try (rw [HD.out]; (repeat (first | (apply t4_skip rfl (by rfl); try simp only [Act.put, List.setIfInBounds_toArray, List.set_cons_zero, List.set_cons_succ]) | (apply t4_float rfl (by rfl); (· (intro w' hS; go_simp <;> with_reducible rfl)); (try simp only [Act.put, List.setIfInBounds_toArray, List.set_cons_zero, List.set_cons_succ]))))))
                have hc0_ := cellL hs31.bel hc0
                have hc1_ := cellL hs31.bel hc1
                have f0_ := cellL hs31.bel f0
                have f1_ := cellL hs31.bel f1
                refine t4_nil (NoPanic.normal ?_)
                go_wp2_with fail
                go_ret
                exact ⟨ret_bool H5.out.symm, hs31.bel⟩
              | true =>
                have H5 := Lib.hid (show tupAt size ar l k = true by
                  have hkj := HKJ.out
                  have h6 := cmp_bef _ _ HLE.out
                  rw [h5] at h6
                  simp [tupAt, List.getD, hlt, H4.out, show j < l.length by omega, show k - 1 = j by omega, hk0]
                  simpa using h6.symm)
                go_upto_region 6 with fail
                refine wp_region_noPanic (wp_region_tree4 (fun w' => w'.cell? ⟨pb, po, none⟩ = some (.int .i64 ar) ∧ w'.cell? ⟨pb, po + 1, none⟩ = some (.slice (some ⟨b, o, none⟩) l.length c) ∧ w'.cell? ⟨b, o + k, none⟩ = some (.slice a0 l[k].length c0) ∧ w'.cell? ⟨b, o + j, none⟩ = some (.slice a1 l[j].length c1)) (.float 0 (.float 1 (.float 2 (.float 3 (.float 4 (.float 5 (.float 6 (.float 7 (.float 8 (.float 9 (.float 10 (.float 11 (.hard 12 (.float 13 (.float 14 (.float 15 (.float 16 (.float 17 (.float 18 (.float 19 (.float 20 (.float 21 (.float 22 (.float 23 (.float 24 (.float 25 (.float 26 (.float 27 (.float 28 (.float 29 (.float 30 (.float 31 (.float 32 (.hard 33 (.float 34 (.float 35 (.float 36 .nil))))))))))))))))))))))))))))))))))))) (by kernel_rfl) (by kernel_rfl) (by kernel_rfl) rfl ?_ (fun _ _ _ _ _ h => h) ?_)
                · exact ⟨cellL (hsr.drew).bel hc0, cellL (hsr.drew).bel hc1, cellL (hsr.drew).bel f0, cellL (hsr.drew).bel f1⟩
                have hs32 := hsr.drew
                clear hc0_ hc1_ f0_ f1_
                have hz_wd33 : wr.heap.size ≤ (wr.drew).heap.size := by simp
                generalize hgen_wd33 : wr.drew = wd33 at *
                have HG_wd33 := Lib.hid hgen_wd33
                clear hgen_wd33
                (repeat (first | (apply t4_skip rfl (by rfl); try simp only [Act.put, List.setIfInBounds_toArray, List.set_cons_zero, List.set_cons_succ]) | (apply t4_float rfl (by rfl); (· (intro w' hS; go_simp <;> with_reducible rfl)); (try simp only [Act.put, List.setIfInBounds_toArray, List.set_cons_zero, List.set_cons_succ]))))
                (try (rw [HD.out]; (repeat (first | (apply t4_skip rfl (by rfl); try simp only [Act.put, List.setIfInBounds_toArray, List.set_cons_zero, List.set_cons_succ]) | (apply t4_float rfl (by rfl); (· (intro w' hS; go_simp <;> with_reducible rfl)); (try simp only [Act.put, List.setIfInBounds_toArray, List.set_cons_zero, List.set_cons_succ]))))))
                refine t4_hard rfl (by rfl) (fun K hK => ?_)
                go_wp2_with (go_at_call 93; refine (l01Tuple_c size ar l[k] _ _ (Rd.mono HX.out hs32.bel) (by omega) (by omega)).mono ?_; rintro e w34 ⟨rfl, rfl, rfl⟩)
                refine ⟨⟨cellL hs32.bel hc0, cellL hs32.bel hc1, cellL hs32.bel f0, cellL hs32.bel f1⟩, ?_⟩
                (repeat (first | (apply t4_skip rfl (by rfl); try simp only [Act.put, List.setIfInBounds_toArray, List.set_cons_zero, List.set_cons_succ]) | (apply t4_float rfl (by rfl); (· (intro w' hS; go_simp <;> with_reducible rfl)); (try simp only [Act.put, List.setIfInBounds_toArray, List.set_cons_zero, List.set_cons_succ]))))
                (try (rw [HD.out]; (repeat (first | (apply t4_skip rfl (by rfl); try simp only [Act.put, List.setIfInBounds_toArray, List.set_cons_zero, List.set_cons_succ]) | (apply t4_float rfl (by rfl); (· (intro w' hS; go_simp <;> with_reducible rfl)); (try simp only [Act.put, List.setIfInBounds_toArray, List.set_cons_zero, List.set_cons_succ]))))))
                refine t4_hard rfl (by rfl) (fun K hK => ?_)
                go_wp2_with (go_at_call 94; refine (l01Before_c l[j] l[k] _ _ _ (Rd.mono HY.out hs32.bel) (Rd.mono HX.out hs32.bel) HLE.out).mono ?_; rintro e w35 ⟨rfl, hbw35⟩)
                have hz_w35 : wd33.heap.size ≤ w35.heap.size := by have h9 := hbw35.size; (try simp at h9); omega
                have hs36 := hs32.step hbw35
                refine ⟨⟨cellL hs36.bel hc0, cellL hs36.bel hc1, cellL hs36.bel f0, cellL hs36.bel f1⟩, ?_⟩
                (repeat (first | (apply t4_skip rfl (by rfl); try simp only [Act.put, List.setIfInBounds_toArray, List.set_cons_zero, List.set_cons_succ]) | (apply t4_float rfl (by rfl); (· (intro w' hS; go_simp <;> with_reducible rfl)); (try simp only [Act.put, List.setIfInBounds_toArray, List.set_cons_zero, List.set_cons_succ]))))
                (try (rw [HD.out]; (repeat (first | (apply t4_skip rfl (by rfl); try simp only [Act.put, List.setIfInBounds_toArray, List.set_cons_zero, List.set_cons_succ]) | (apply t4_float rfl (by rfl); (· (intro w' hS; go_simp <;> with_reducible rfl)); (try simp only [Act.put, List.setIfInBounds_toArray, List.set_cons_zero, List.set_cons_succ]))))))
                have hc0_ := cellL hs36.bel hc0
                have hc1_ := cellL hs36.bel hc1
                have f0_ := cellL hs36.bel f0
                have f1_ := cellL hs36.bel f1
                refine t4_nil (NoPanic.normal ?_)
                go_wp2_with fail
                go_roundw
                case rel =>
                  refine ⟨k + 1, by omega, by go_num, hs36.bel, fun i hi => ?_⟩
                  rcases Nat.lt_or_ge i k with h | h
                  · exact ht.out i h
                  · obtain rfl : i = k := by omega
                    exact H5.out
                case measure => simp [intOf]; omega
        · obtain rfl : k = l.length := by omega
          have HT := Lib.hid (tupsOk_of ht.out)
          have hkl : ¬ ((l.length : Int) < l.length) := by omega
          go_wp2_with fail
          go_ret
          exact ⟨ret_bool (by rw [H3.out, HT.out]), hsr.bel⟩

end Go.Proofs.YtamkfnkikiekaaaGreat

/-
  CONTRACTS: slices.IndexFunc, slices.ContainsFunc at lists, relations, constraints.
-/
namespace Go.Proofs.YtamkfnkikiekaaaGreat
open Go.RowKit Go.Shelf
open Rep (Rd Own sz)
set_option linter.unusedSimpArgs false
set_option linter.unusedVariables false

def PredL (g : Nat) (cb : Array Value) (w : World) (l : List (List Int)) (q : List Int → Bool) : Prop :=
  ∀ (W : World) (x : List Int) (u0 : Value), Below w.heap.size w W → Rd W [u0] x → x ∈ l → Calls Tryz.prog g (#[u0] ++ cb) W fun e w' => e = .returned (.bool (q x)) ∧ Below W.heap.size W w'
def PredRl (g : Nat) (cb : Array Value) (w : World) (l : List RelT) (q : RelT → Bool) : Prop :=
  ∀ (W : World) (x : RelT) (u0 u1 : Value), Below w.heap.size w W → Rd W [u0, u1] x → x ∈ l → Calls Tryz.prog g (#[.agg #[u0, u1]] ++ cb) W fun e w' => e = .returned (.bool (q x)) ∧ Below W.heap.size W w'
def PredC (g : Nat) (cb : Array Value) (w : World) (l : List OpT) (q : OpT → Bool) : Prop :=
  ∀ (W : World) (x : OpT) (u0 u1 : Value), Below w.heap.size w W → Rd W [u0, u1] x → x ∈ l → Calls Tryz.prog g (#[.agg #[u0, u1]] ++ cb) W fun e w' => e = .returned (.bool (q x)) ∧ Below W.heap.size W w'

set_option maxRecDepth 100000 in
set_option maxHeartbeats 1000000 in
theorem indexLists_c (l : List (List Int)) (v : Value) (g : Nat) (cb : Array Value) (q : (List Int) → Bool) (w : World) (r : Rd w [v] l)
    (eg : ∀ args w, (callFunc g args).run Tryz.prog w = .ok (.enter g args) w) (hby : PredL g cb w l q) :
    Calls Tryz.prog 56 #[v, .func (.func g) #[] cb] w fun e w' => e = .returned (.int .i64 (firstI q l)) ∧ Below w.heap.size w w' := by
  obtain ⟨a, c, rfl, h⟩ := rd_list r
  clear r
  have hb := (rdSl_len h).2
  unfold maxLen at hb
  generalize hn : l.length = n at *
  have HN := Lib.hid hn
  have HH := Lib.hid h
  have HBY := Lib.hid hby
  clear hn h hby
  go_enter Tryz.func56, Tryz.ntmps56
  go_wp2_with fail
  go_loopw [8] (fun i wr => ∃ k : Nat, k ≤ n ∧ i = .int .i64 k ∧ Hid (Below w.heap.size w wr) ∧ Hid (∀ j (hj : j < l.length), j < k → q l[j] = false)) (fun i _ => n - (intOf i).toNat)
  case atStart => exact ⟨0, Nat.zero_le _, rfl, Below.refl _ _, fun j _ hj => absurd hj (Nat.not_lt_zero _)⟩
  case round =>
    obtain ⟨k, hk, rfl, hbl, hr⟩ := hrel
    by_cases hlt : k < n
    · have k1 : k < l.length := by rw [HN.out]; exact hlt
      obtain ⟨b, o, u0, rfl, q0, hx⟩ := rdSl_one rfl (rdSl_mono hbl.out HH.out) k k1
      have HX := Lib.hid hx
      clear hx
      go_wp2_with fail
      go_at_fn g
      refine (HBY.out _ l[k] _ hbl.out HX.out (List.getElem_mem k1)).mono ?_
      rintro e w1 ⟨rfl, hb1⟩
      cases hq : q l[k] with
      | true =>
        have HQ := Lib.hid hq
        clear hq
        go_wp2_with fail
        go_ret
        exact ⟨ret_int (firstI_at k1 (fun j hj h => hr.out j hj h) HQ.out).symm, hbl.out.trans (hb1.mono hbl.out.size)⟩
      | false =>
        have HQ := Lib.hid hq
        clear hq
        go_wp2_with fail
        go_roundw
        case rel =>
          refine ⟨k + 1, by omega, by go_num, hbl.out.trans (hb1.mono hbl.out.size), ?_⟩
          intro j hj hjk
          rcases Nat.lt_or_ge j k with h | h
          · exact hr.out j hj h
          · obtain rfl : j = k := by omega
            exact HQ.out
        case measure => simp [intOf]; omega
    · obtain rfl : k = n := by omega
      go_wp2_with fail
      go_ret
      refine ⟨ret_int ?_, hbl.out⟩
      rw [firstI_no (fun j hj _ => hr.out j hj (by have := HN.out; omega))]
set_option maxRecDepth 100000 in
set_option maxHeartbeats 1000000 in
theorem indexRels_c (l : List (RelT)) (v : Value) (g : Nat) (cb : Array Value) (q : (RelT) → Bool) (w : World) (r : Rd w [v] l)
    (eg : ∀ args w, (callFunc g args).run Tryz.prog w = .ok (.enter g args) w) (hby : PredRl g cb w l q) :
    Calls Tryz.prog 95 #[v, .func (.func g) #[] cb] w fun e w' => e = .returned (.int .i64 (firstI q l)) ∧ Below w.heap.size w w' := by
  obtain ⟨a, c, rfl, h⟩ := rd_list r
  clear r
  have hb := (rdSl_len h).2
  unfold maxLen at hb
  generalize hn : l.length = n at *
  have HN := Lib.hid hn
  have HH := Lib.hid h
  have HBY := Lib.hid hby
  clear hn h hby
  go_enter Tryz.func95, Tryz.ntmps95
  go_wp2_with fail
  go_loopw [8] (fun i wr => ∃ k : Nat, k ≤ n ∧ i = .int .i64 k ∧ Hid (Below w.heap.size w wr) ∧ Hid (∀ j (hj : j < l.length), j < k → q l[j] = false)) (fun i _ => n - (intOf i).toNat)
  case atStart => exact ⟨0, Nat.zero_le _, rfl, Below.refl _ _, fun j _ hj => absurd hj (Nat.not_lt_zero _)⟩
  case round =>
    obtain ⟨k, hk, rfl, hbl, hr⟩ := hrel
    by_cases hlt : k < n
    · have k1 : k < l.length := by rw [HN.out]; exact hlt
      obtain ⟨b, o, u0, u1, rfl, q0, q1, hx⟩ := rdSl_two rfl (rdSl_mono hbl.out HH.out) k k1
      have HX := Lib.hid hx
      clear hx
      go_wp2_with fail
      go_at_fn g
      refine (HBY.out _ l[k] _ _ hbl.out HX.out (List.getElem_mem k1)).mono ?_
      rintro e w1 ⟨rfl, hb1⟩
      cases hq : q l[k] with
      | true =>
        have HQ := Lib.hid hq
        clear hq
        go_wp2_with fail
        go_ret
        exact ⟨ret_int (firstI_at k1 (fun j hj h => hr.out j hj h) HQ.out).symm, hbl.out.trans (hb1.mono hbl.out.size)⟩
      | false =>
        have HQ := Lib.hid hq
        clear hq
        go_wp2_with fail
        go_roundw
        case rel =>
          refine ⟨k + 1, by omega, by go_num, hbl.out.trans (hb1.mono hbl.out.size), ?_⟩
          intro j hj hjk
          rcases Nat.lt_or_ge j k with h | h
          · exact hr.out j hj h
          · obtain rfl : j = k := by omega
            exact HQ.out
        case measure => simp [intOf]; omega
    · obtain rfl : k = n := by omega
      go_wp2_with fail
      go_ret
      refine ⟨ret_int ?_, hbl.out⟩
      rw [firstI_no (fun j hj _ => hr.out j hj (by have := HN.out; omega))]
set_option maxRecDepth 100000 in
set_option maxHeartbeats 1000000 in
theorem indexCons_c (l : List (OpT)) (v : Value) (g : Nat) (cb : Array Value) (q : (OpT) → Bool) (w : World) (r : Rd w [v] l)
    (eg : ∀ args w, (callFunc g args).run Tryz.prog w = .ok (.enter g args) w) (hby : PredC g cb w l q) :
    Calls Tryz.prog 79 #[v, .func (.func g) #[] cb] w fun e w' => e = .returned (.int .i64 (firstI q l)) ∧ Below w.heap.size w w' := by
  obtain ⟨a, c, rfl, h⟩ := rd_list r
  clear r
  have hb := (rdSl_len h).2
  unfold maxLen at hb
  generalize hn : l.length = n at *
  have HN := Lib.hid hn
  have HH := Lib.hid h
  have HBY := Lib.hid hby
  clear hn h hby
  go_enter Tryz.func79, Tryz.ntmps79
  go_wp2_with fail
  go_loopw [8] (fun i wr => ∃ k : Nat, k ≤ n ∧ i = .int .i64 k ∧ Hid (Below w.heap.size w wr) ∧ Hid (∀ j (hj : j < l.length), j < k → q l[j] = false)) (fun i _ => n - (intOf i).toNat)
  case atStart => exact ⟨0, Nat.zero_le _, rfl, Below.refl _ _, fun j _ hj => absurd hj (Nat.not_lt_zero _)⟩
  case round =>
    obtain ⟨k, hk, rfl, hbl, hr⟩ := hrel
    by_cases hlt : k < n
    · have k1 : k < l.length := by rw [HN.out]; exact hlt
      obtain ⟨b, o, u0, u1, rfl, q0, q1, hx⟩ := rdSl_two rfl (rdSl_mono hbl.out HH.out) k k1
      have HX := Lib.hid hx
      clear hx
      go_wp2_with fail
      go_at_fn g
      refine (HBY.out _ l[k] _ _ hbl.out HX.out (List.getElem_mem k1)).mono ?_
      rintro e w1 ⟨rfl, hb1⟩
      cases hq : q l[k] with
      | true =>
        have HQ := Lib.hid hq
        clear hq
        go_wp2_with fail
        go_ret
        exact ⟨ret_int (firstI_at k1 (fun j hj h => hr.out j hj h) HQ.out).symm, hbl.out.trans (hb1.mono hbl.out.size)⟩
      | false =>
        have HQ := Lib.hid hq
        clear hq
        go_wp2_with fail
        go_roundw
        case rel =>
          refine ⟨k + 1, by omega, by go_num, hbl.out.trans (hb1.mono hbl.out.size), ?_⟩
          intro j hj hjk
          rcases Nat.lt_or_ge j k with h | h
          · exact hr.out j hj h
          · obtain rfl : j = k := by omega
            exact HQ.out
        case measure => simp [intOf]; omega
    · obtain rfl : k = n := by omega
      go_wp2_with fail
      go_ret
      refine ⟨ret_int ?_, hbl.out⟩
      rw [firstI_no (fun j hj _ => hr.out j hj (by have := HN.out; omega))]
set_option maxRecDepth 100000 in
theorem containsLists_c (l : List (List Int)) (v : Value) (g : Nat) (cb : Array Value) (q : (List Int) → Bool) (w : World) (r : Rd w [v] l)
    (eg : ∀ args w, (callFunc g args).run Tryz.prog w = .ok (.enter g args) w) (hby : PredL g cb w l q) :
    Calls Tryz.prog 29 #[v, .func (.func g) #[] cb] w fun e w' => e = .returned (.bool (l.any q)) ∧ Below w.heap.size w w' := by
  obtain ⟨a, c, rfl, _⟩ := rd_list r
  have HR := Lib.hid r
  have HBY := Lib.hid hby
  clear r hby
  go_enter Tryz.func29, Tryz.ntmps29
  go_wp2_with fail
  refine (indexLists_c l _ g cb q _ HR.out eg HBY.out).mono ?_
  rintro e w1 ⟨rfl, hb1⟩
  have hlo := firstI_lo q l
  go_wp2_with fail
  go_ret
  exact ⟨ret_bool (firstI_any q l), hb1⟩
set_option maxRecDepth 100000 in
theorem containsRels_c (l : List (RelT)) (v : Value) (g : Nat) (cb : Array Value) (q : (RelT) → Bool) (w : World) (r : Rd w [v] l)
    (eg : ∀ args w, (callFunc g args).run Tryz.prog w = .ok (.enter g args) w) (hby : PredRl g cb w l q) :
    Calls Tryz.prog 76 #[v, .func (.func g) #[] cb] w fun e w' => e = .returned (.bool (l.any q)) ∧ Below w.heap.size w w' := by
  obtain ⟨a, c, rfl, _⟩ := rd_list r
  have HR := Lib.hid r
  have HBY := Lib.hid hby
  clear r hby
  go_enter Tryz.func76, Tryz.ntmps76
  go_wp2_with fail
  refine (indexRels_c l _ g cb q _ HR.out eg HBY.out).mono ?_
  rintro e w1 ⟨rfl, hb1⟩
  have hlo := firstI_lo q l
  go_wp2_with fail
  go_ret
  exact ⟨ret_bool (firstI_any q l), hb1⟩
set_option maxRecDepth 100000 in
theorem containsCons_c (l : List (OpT)) (v : Value) (g : Nat) (cb : Array Value) (q : (OpT) → Bool) (w : World) (r : Rd w [v] l)
    (eg : ∀ args w, (callFunc g args).run Tryz.prog w = .ok (.enter g args) w) (hby : PredC g cb w l q) :
    Calls Tryz.prog 47 #[v, .func (.func g) #[] cb] w fun e w' => e = .returned (.bool (l.any q)) ∧ Below w.heap.size w w' := by
  obtain ⟨a, c, rfl, _⟩ := rd_list r
  have HR := Lib.hid r
  have HBY := Lib.hid hby
  clear r hby
  go_enter Tryz.func47, Tryz.ntmps47
  go_wp2_with fail
  refine (indexCons_c l _ g cb q _ HR.out eg HBY.out).mono ?_
  rintro e w1 ⟨rfl, hb1⟩
  have hlo := firstI_lo q l
  go_wp2_with fail
  go_ret
  exact ⟨ret_bool (firstI_any q l), hb1⟩

end Go.Proofs.YtamkfnkikiekaaaGreat

/-
  CONTRACTS: valid templates and operations; both sides.
-/
namespace Go.Proofs.YtamkfnkikiekaaaGreat
open Go.RowKit Go.Shelf Go.IntWalk
open Rep (Rd Own sz)
set_option linter.unusedSimpArgs false
set_option linter.unusedVariables false

set_option maxHeartbeats 400000 in
theorem validTemplate1_by (size : Int) (b : Nat) (w : World) (l : List RelT) (hc0 : w.cell? ⟨b, 0, none⟩ = some (.int .i64 size)) :
    PredRl 77 #[.pointer (some ⟨b, 0, none⟩)] w l (fun r => !relOk size r) := by
  intro W x v0 v1 hb hx _
  have hc0' := cellL hb hc0
  show Calls Tryz.prog 77 #[_, .pointer (some ⟨b, 0, none⟩)] W _
  have hb' := World.block_lt_of_cell? _ _ hc0'
  have HX := Lib.hid hx
  have z := rd_cons rfl hx
  obtain ⟨rfl, _⟩ := rd_i1 z.1
  obtain ⟨a, c, rfl, _⟩ := rd_list z.2
  clear hx z
  have hs := (St.start W).alloc #[.int .i64 x.1, .slice a x.2.length c] 57 rfl
  have hd0 := cellL hs.bel hc0'
  go_enter Tryz.func77, Tryz.ntmps77
  go_wp2_with fail
  refine (ValidRel_c size x _ _ _ (Rd.mono HX.out hs.bel)).mono ?_
  rintro e w1 ⟨rfl, hb1⟩
  go_wp2_with fail
  go_ret
  exact ⟨rfl, (hs.step hb1).bel⟩
set_option maxRecDepth 100000 in
set_option maxHeartbeats 1000000 in
theorem ValidTemplate_c (x : Tmpl) (v0 v1 : Value) (w : World) (hx : Rd w [v0, v1] x) :
    Calls Tryz.prog 45 #[.agg #[v0, v1]] w fun e w' => e = .returned (.bool (tmplOk x)) ∧ Below w.heap.size w w' := by
  obtain ⟨p, l⟩ := x
  have z := rd_cons rfl hx
  obtain ⟨rfl, _⟩ := rd_i1 z.1
  have RL := Lib.hid z.2
  obtain ⟨a, c, rfl, hr⟩ := rd_list RL.out
  have hb := (rdSl_len hr).2
  unfold maxLen at hb
  clear hx z hr
  have hs := (St.start w).alloc #[.int .i64 p, .slice a l.length c] 26 rfl
  have eg : ∀ args w, (callFunc 77 args).run Tryz.prog w = .ok (.enter 77 args) w := enters_of Tryz.func77 (by kernel_rfl) rfl
  go_enter Tryz.func45, Tryz.ntmps45
  go_wp2_with fail
  refine (isSize_c p _).mono ?_
  rintro e w1 ⟨rfl, rfl⟩
  cases hp : inB p 1 4 with
  | false =>
    have HP := Lib.hid hp
    clear hp
    go_wp2_with fail
    go_ret
    exact ⟨ret_bool (by simp [tmplOk, HP.out]), hs.bel⟩
  | true =>
    have HP := Lib.hid hp
    clear hp
    by_cases hl : l.length ≤ 6
    · have HL := Lib.hid hl
      go_wp2_with fail
      refine (containsRels_c l _ 77 _ _ _ (Rd.mono RL.out hs.bel) eg (validTemplate1_by p w.heap.size _ l (hs.cellAt 0 rfl 0 rfl))).mono ?_
      rintro e w1 ⟨rfl, hb1⟩
      go_wp2_with fail
      go_ret
      refine ⟨ret_bool ?_, (hs.step hb1).bel⟩
      unfold tmplOk
      simp only [HP.out, decide_eq_true HL.out, Bool.true_and]
      rw [← all_of_any]
    · have HL := Lib.hid hl
      go_wp2_with fail
      go_ret
      exact ⟨ret_bool (by simp only [tmplOk, decide_eq_false HL.out, Bool.and_false, Bool.false_and]), hs.bel⟩
set_option maxRecDepth 100000 in
set_option maxHeartbeats 4000000 in
theorem l01Template_c (x : Tmpl) (pb : Nat) (v0 v1 : Value) (w : World) (hx : Rd w [v0, v1] x) (hc0 : w.cell? ⟨pb, 0, none⟩ = some v0) (hc1 : w.cell? ⟨pb, 1, none⟩ = some v1) :
    Calls Tryz.prog 42 #[.pointer (some ⟨pb, 0, none⟩)] w fun e w' => e = .returned (.bool (tmplOk x)) ∧ Below w.heap.size w w' := by
  obtain ⟨size, l⟩ := x
  have z := rd_cons rfl hx
  obtain ⟨rfl, _⟩ := rd_i1 z.1
  have HRL := Lib.hid z.2
  obtain ⟨a, c, rfl, hrl⟩ := rd_list HRL.out
  have hb0 := (rdSl_len hrl).2
  unfold maxLen at hb0
  have HL := Lib.hid hrl
  clear hx z hrl
  have hc0_ := cellL (St.start w).bel hc0
  clear hc0_
  have hc0_ := cellL (St.start w).bel hc0
  have hc1_ := cellL (St.start w).bel hc1
  go_enter Tryz.func42, Tryz.ntmps42
  go_wp2_with fail
  go_loopw [3] (fun i wl => ∃ k : Nat, k ≤ l.length ∧ i = .int .i64 k ∧ Hid (Below w.heap.size w wl) ∧ Hid (∀ j (hj : j < l.length), j < k → relOk size l[j] = true)) (fun i _ => l.length - (intOf i).toNat)
  case atStart => exact ⟨0, Nat.zero_le _, rfl, Below.refl _ _, fun j _ hj => absurd hj (Nat.not_lt_zero _)⟩
  case round =>
    obtain ⟨k, hk, rfl, hbl, hr⟩ := hrel
    have hsr := (St.start w).step hbl.out
    have hc0_ := cellL hsr.bel hc0
    have hc1_ := cellL hsr.bel hc1
    clear hbl
    by_cases hlt : k < l.length
    · obtain ⟨b, o, u0, u1, rfl, q0, q1, hy⟩ := rdSl_two rfl HL.out k hlt
      have HY := Lib.hid hy
      clear hy
      clear hc0_ hc1_
      have hc0_ := cellL hsr.bel hc0
      have hc1_ := cellL hsr.bel hc1
      have q0_ := cellL hsr.bel q0
      clear hc0_ hc1_ q0_
      have hc0_ := cellL hsr.bel hc0
      have hc1_ := cellL hsr.bel hc1
      have q0_ := cellL hsr.bel q0
      have q1_ := cellL hsr.bel q1
      clear hc0_ hc1_ q0_ q1_
      have hc0_ := cellL hsr.bel hc0
      have hc1_ := cellL hsr.bel hc1
      have q0_ := cellL hsr.bel q0
      have q1_ := cellL hsr.bel q1
      have hkl : (k : Int) < l.length := by omega
      cases h4 : relOk size l[k] with
      | false =>
        have H4 := Lib.hid (show tmplOk (size, l) = false by
          simp only [tmplOk, Bool.and_eq_false_iff]
          exact .inr (List.all_eq_false.2 ⟨_, List.getElem_mem hlt, by simp [h4]⟩))
        go_upto_region 4 with fail
        refine wp_region_noPanic (wp_region_tree4 (fun w' => w'.cell? ⟨pb, 0, none⟩ = some (.int .i64 size) ∧ w'.cell? ⟨pb, 1, none⟩ = some (.slice (some ⟨b, o, none⟩) l.length c) ∧ w'.cell? ⟨b, o + k * 2, none⟩ = some (u0) ∧ w'.cell? ⟨b, o + k * 2 + 1, none⟩ = some (u1)) (.float 0 (.float 1 (.float 2 (.float 3 (.float 4 (.float 5 (.float 6 (.float 7 (.float 8 (.float 9 (.hard 10 (.float 11 .nil)))))))))))) (by kernel_rfl) (by kernel_rfl) (by kernel_rfl) rfl ?_ (fun _ _ _ _ _ h => h) ?_)
        · exact ⟨cellL (hsr.drew).bel hc0, cellL (hsr.drew).bel hc1, cellL (hsr.drew).bel q0, cellL (hsr.drew).bel q1⟩
        have hs37 := hsr.drew
        clear hc0_ hc1_ q0_ q1_
        have hz_wd38 : wr.heap.size ≤ (wr.drew).heap.size := by simp
        generalize hgen_wd38 : wr.drew = wd38 at *
        have HG_wd38 := Lib.hid hgen_wd38
        clear hgen_wd38
        (repeat (first | (apply t4_skip rfl (by rfl); try simp only [Act.put, List.setIfInBounds_toArray, List.set_cons_zero, List.set_cons_succ]) | (apply t4_float rfl (by rfl); (· (intro w' hS; go_simp <;> with_reducible rfl)); (try simp only [Act.put, List.setIfInBounds_toArray, List.set_cons_zero, List.set_cons_succ]))))
        refine t4_hard rfl (by rfl) (fun K hK => ?_)
        go_wp2_with (go_at_call 73; refine (l01Ok_c size l[k] _ _ _ _ _ (Rd.mono HY.out hs37.bel) (cellL hs37.bel q0) (cellL hs37.bel q1)).mono ?_; rintro e w39 ⟨rfl, hbw39⟩)
        have hz_w39 : wd38.heap.size ≤ w39.heap.size := by have h9 := hbw39.size; (try simp at h9); omega
        have hs40 := hs37.step hbw39
        refine ⟨⟨cellL hs40.bel hc0, cellL hs40.bel hc1, cellL hs40.bel q0, cellL hs40.bel q1⟩, ?_⟩
        (repeat (first | (apply t4_skip rfl (by rfl); try simp only [Act.put, List.setIfInBounds_toArray, List.set_cons_zero, List.set_cons_succ]) | (apply t4_float rfl (by rfl); (· (intro w' hS; go_simp <;> with_reducible rfl)); (try simp only [Act.put, List.setIfInBounds_toArray, List.set_cons_zero, List.set_cons_succ]))))
        have hc0_ := cellL hs40.bel hc0
        have hc1_ := cellL hs40.bel hc1
        have q0_ := cellL hs40.bel q0
        have q1_ := cellL hs40.bel q1
        refine t4_nil (NoPanic.normal ?_)
        go_wp2_with fail
        go_ret
        exact ⟨ret_bool H4.out.symm, hs40.bel⟩
      | true =>
        have H4 := Lib.hid h4
        go_upto_region 4 with fail
        refine wp_region_noPanic (wp_region_tree4 (fun w' => w'.cell? ⟨pb, 0, none⟩ = some (.int .i64 size) ∧ w'.cell? ⟨pb, 1, none⟩ = some (.slice (some ⟨b, o, none⟩) l.length c) ∧ w'.cell? ⟨b, o + k * 2, none⟩ = some (u0) ∧ w'.cell? ⟨b, o + k * 2 + 1, none⟩ = some (u1)) (.float 0 (.float 1 (.float 2 (.float 3 (.float 4 (.float 5 (.float 6 (.float 7 (.float 8 (.float 9 (.hard 10 (.float 11 .nil)))))))))))) (by kernel_rfl) (by kernel_rfl) (by kernel_rfl) rfl ?_ (fun _ _ _ _ _ h => h) ?_)
        · exact ⟨cellL (hsr.drew).bel hc0, cellL (hsr.drew).bel hc1, cellL (hsr.drew).bel q0, cellL (hsr.drew).bel q1⟩
        have hs41 := hsr.drew
        clear hc0_ hc1_ q0_ q1_
        have hz_wd42 : wr.heap.size ≤ (wr.drew).heap.size := by simp
        generalize hgen_wd42 : wr.drew = wd42 at *
        have HG_wd42 := Lib.hid hgen_wd42
        clear hgen_wd42
        (repeat (first | (apply t4_skip rfl (by rfl); try simp only [Act.put, List.setIfInBounds_toArray, List.set_cons_zero, List.set_cons_succ]) | (apply t4_float rfl (by rfl); (· (intro w' hS; go_simp <;> with_reducible rfl)); (try simp only [Act.put, List.setIfInBounds_toArray, List.set_cons_zero, List.set_cons_succ]))))
        refine t4_hard rfl (by rfl) (fun K hK => ?_)
        go_wp2_with (go_at_call 73; refine (l01Ok_c size l[k] _ _ _ _ _ (Rd.mono HY.out hs41.bel) (cellL hs41.bel q0) (cellL hs41.bel q1)).mono ?_; rintro e w43 ⟨rfl, hbw43⟩)
        have hz_w43 : wd42.heap.size ≤ w43.heap.size := by have h9 := hbw43.size; (try simp at h9); omega
        have hs44 := hs41.step hbw43
        refine ⟨⟨cellL hs44.bel hc0, cellL hs44.bel hc1, cellL hs44.bel q0, cellL hs44.bel q1⟩, ?_⟩
        (repeat (first | (apply t4_skip rfl (by rfl); try simp only [Act.put, List.setIfInBounds_toArray, List.set_cons_zero, List.set_cons_succ]) | (apply t4_float rfl (by rfl); (· (intro w' hS; go_simp <;> with_reducible rfl)); (try simp only [Act.put, List.setIfInBounds_toArray, List.set_cons_zero, List.set_cons_succ]))))
        have hc0_ := cellL hs44.bel hc0
        have hc1_ := cellL hs44.bel hc1
        have q0_ := cellL hs44.bel q0
        have q1_ := cellL hs44.bel q1
        refine t4_nil (NoPanic.normal ?_)
        go_wp2_with fail
        go_roundw
        case rel =>
          refine ⟨k + 1, by omega, by go_num, hs44.bel, fun j hj hjk => ?_⟩
          rcases Nat.lt_or_ge j k with h | h
          · exact hr.out j hj h
          · obtain rfl : j = k := by omega
            exact H4.out
        case measure => simp [intOf]; omega
    · obtain rfl : k = l.length := by omega
      have HA := Lib.hid (show l.all (relOk size) = true by
        rw [List.all_eq_true]
        intro y hy
        obtain ⟨j, hj, rfl⟩ := List.getElem_of_mem hy
        exact hr.out j hj hj)
      have hkl : ¬ ((l.length : Int) < l.length) := by omega
      go_wp2_with fail
      refine (l01Size_c size _).mono ?_
      rintro e w45 ⟨rfl, rfl, rfl⟩
      cases h1 : inB size 1 4 with
      | false =>
        have H1 := Lib.hid (show tmplOk (size, l) = false by simp only [tmplOk, h1, Bool.false_and])
        clear h1
        go_wp2_with fail
        go_ret
        exact ⟨ret_bool H1.out.symm, hsr.bel⟩
      | true =>
        have H1 := Lib.hid (show tmplOk (size, l) = decide (l.length ≤ 6) by simp only [tmplOk, h1, HA.out, Bool.true_and, Bool.and_true])
        clear h1
        go_wp2_with fail
        go_ret
        exact ⟨ret_bool (by rw [H1.out]; (try simp); (try omega)), hsr.bel⟩

end Go.Proofs.YtamkfnkikiekaaaGreat

/-
  CONTRACTS: the number of a tuple, the value of an operation, folding; both sides.
-/
namespace Go.Proofs.YtamkfnkikiekaaaGreat
open Go.RowKit Go.Shelf Go.IntWalk
open Rep (Rd Own sz)
set_option linter.unusedSimpArgs false
set_option linter.unusedVariables false

end Go.Proofs.YtamkfnkikiekaaaGreat

/-
  PLAIN LAW: whether a tuple is one of a relation: by searching, by its number; when an operation keeps a relation.
-/
namespace Go.Proofs.YtamkfnkikiekaaaGreat
open Go.RowKit
set_option linter.unusedSimpArgs false
set_option linter.unusedVariables false

theorem cmp_trans : ∀ l m n : List Int, cmpL l m < 0 → cmpL m n < 0 → cmpL l n < 0
  | [], [], _, h, _ => by simp [cmpL] at h
  | _ :: _, [], _, h, _ => by simp [cmpL] at h
  | _, _ :: _, [], _, h => by simp [cmpL] at h
  | [], _ :: _, _ :: _, _, _ => by simp [cmpL]
  | a :: l, b :: m, c :: n, h, k => by
    unfold cmpL at h k ⊢
    by_cases h1 : a < b
    · by_cases h2 : b < c
      · rw [if_pos (by omega)]; omega
      · rw [if_neg h2] at k
        by_cases h3 : c < b
        · rw [if_pos h3] at k; omega
        · rw [if_pos (by omega)]; omega
    · rw [if_neg h1] at h
      by_cases h2 : b < a
      · rw [if_pos h2] at h; omega
      · rw [if_neg h2] at h
        by_cases h3 : b < c
        · rw [if_pos (by omega)]; omega
        · rw [if_neg h3] at k
          by_cases h4 : c < b
          · rw [if_pos h4] at k; omega
          · rw [if_neg h4] at k
            rw [if_neg (by omega), if_neg (by omega)]
            exact cmp_trans l m n h k
/-- Tuples that rise. -/
def Inc (x : List (List Int)) : Prop := ∀ i j, i < j → j < x.length → cmpL (x.getD i []) (x.getD j []) < 0
theorem inc_of {x : List (List Int)} (h : ∀ j, j + 1 < x.length → cmpL (x.getD j []) (x.getD (j + 1) []) < 0) : Inc x := by
  intro i j hij hj
  induction j with
  | zero => omega
  | succ j ih =>
    rcases Nat.lt_or_ge i j with h1 | h1
    · exact cmp_trans _ _ _ (ih h1 (by omega)) (h j hj)
    · obtain rfl : i = j := by omega
      exact h i hj
/-- Whether a tuple is one of them. -/
def hasT (x : List (List Int)) (t : List Int) : Bool := x.contains t
def Val (size : Int) (l : List Int) : Prop := ∀ a, a ∈ l → 0 ≤ a ∧ a ≤ size - 1
theorem codeL_cons (size : Int) (a : Int) : ∀ l : List Int, codeL size (a :: l) = a * size ^ l.length + codeL size l := by
  have key : ∀ (l : List Int) (n : Int), l.foldl (fun n a => n * size + a) n = n * size ^ l.length + l.foldl (fun n a => n * size + a) 0 := by
    intro l
    induction l with
    | nil => intro n; simp
    | cons b l ih =>
      intro n
      rw [List.foldl_cons, List.foldl_cons, ih (n * size + b), ih (0 * size + b), List.length_cons, Int.pow_succ, Int.zero_mul, Int.zero_add, Int.add_mul, Int.mul_comm (size ^ l.length) size, Int.mul_assoc]
      omega
  intro l
  unfold codeL
  rw [List.foldl_cons, key l, Int.zero_mul, Int.zero_add]
/-- Numbers of tuples rise as the tuples do. -/
theorem code_lt {size : Int} (hs : 1 ≤ size) : ∀ (l m : List Int), l.length = m.length → Val size l → Val size m → cmpL l m < 0 → codeL size l < codeL size m
  | [], [], _, _, _, h => by simp [cmpL] at h
  | a :: l, b :: m, hl, hv, hw, h => by
    have hl' : l.length = m.length := by simpa using hl
    have hv' : Val size l := fun x hx => hv x (List.mem_cons_of_mem _ hx)
    have hw' : Val size m := fun x hx => hw x (List.mem_cons_of_mem _ hx)
    rw [codeL_cons, codeL_cons, ← hl']
    have b1 := codeL_bd hs l hv'
    have b2 := codeL_bd hs m hw'
    rw [← hl'] at b2
    unfold cmpL at h
    split at h
    · rename_i hab
      have : (a + 1) * size ^ l.length ≤ b * size ^ l.length := Int.mul_le_mul_of_nonneg_right (by omega) (by omega)
      rw [Int.add_mul] at this
      omega
    · split at h
      · omega
      · obtain rfl : a = b := by omega
        have := code_lt hs l m hl' hv' hw' h
        omega
theorem cmp_tri : ∀ (l m : List Int), l.length = m.length → l = m ∨ cmpL l m < 0 ∨ cmpL m l < 0
  | [], [], _ => .inl rfl
  | a :: l, b :: m, h => by
    by_cases h1 : a < b
    · exact .inr (.inl (by unfold cmpL; rw [if_pos h1]; omega))
    · by_cases h2 : b < a
      · exact .inr (.inr (by unfold cmpL; rw [if_pos h2]; omega))
      · obtain rfl : a = b := by omega
        rcases cmp_tri l m (by simpa using h) with h3 | h3 | h3
        · exact .inl (by rw [h3])
        · exact .inr (.inl (by unfold cmpL; rw [if_neg h1, if_neg h1]; exact h3))
        · exact .inr (.inr (by unfold cmpL; rw [if_neg h1, if_neg h1]; exact h3))
/-- The set of tuples, told by their numbers. -/
def setTo (size : Int) (n : Nat) (x : List (List Int)) : Nat → List Bool
  | 0 => List.replicate n false
  | k + 1 => (setTo size n x k).set (codeL size (x.getD k [])).toNat true
theorem relOk_inc {size : Int} {r : RelT} (h : relOk size r = true) : Inc r.2 := by
  have ht := (relOk_get h).2.2
  refine inc_of fun j hj => ?_
  have := tupsOk_get ht (j + 1) hj
  simp only [tupAt, Bool.and_eq_true, Bool.or_eq_true, decide_eq_true_eq] at this
  rcases this.2 with h1 | h1
  · omega
  · simpa using h1
theorem relOk_val {size : Int} {r : RelT} (h : relOk size r = true) : ∀ t, t ∈ r.2 → t.length = r.1.toNat ∧ Val size t := by
  intro t ht
  obtain ⟨j, hj, rfl⟩ := List.getElem_of_mem ht
  have h2 := tupsOk_get (relOk_get h).2.2 j hj
  simp only [tupAt, Bool.and_eq_true] at h2
  have h3 := h2.1
  rw [show r.2.getD j [] = r.2[j] by simp [List.getD, hj]] at h3
  have h4 := valsOk_len h3
  simp only [valsOk, Bool.and_eq_true, List.all_eq_true] at h3
  exact ⟨by omega, fun a ha => inB_true (h3.2 a ha)⟩
theorem pow256 {s a : Int} (hs : 1 ≤ s ∧ s ≤ 4) (ha : 1 ≤ a ∧ a ≤ 4) : 1 ≤ s ^ a.toNat ∧ s ^ a.toNat ≤ 256 := by
  obtain rfl | rfl | rfl | rfl : a = 1 ∨ a = 2 ∨ a = 3 ∨ a = 4 := by omega
  all_goals (obtain rfl | rfl | rfl | rfl : s = 1 ∨ s = 2 ∨ s = 3 ∨ s = 4 := by omega) <;> decide
theorem relOk_count {size : Int} {r : RelT} (h : relOk size r = true) : (r.2.length : Int) ≤ size ^ r.1.toNat ∧ r.2.length ≤ 256 := by
  have hs := (relOk_get h).1
  have hp := pow256 hs (relOk_get h).2.1
  have hi := relOk_inc h
  have hv := relOk_val h
  have hg : ∀ i, i < r.2.length → r.2.getD i [] ∈ r.2 := fun i h => by simp [List.getD, h]
  have lo : ∀ i : Nat, i < r.2.length → (i : Int) ≤ codeL size (r.2.getD i []) := by
    intro i
    induction i with
    | zero => intro h; exact (codeL_bd hs.1 _ (hv _ (hg 0 h)).2).1
    | succ i ih =>
      intro h
      have h1 := ih (by omega)
      have a := hv _ (hg i (by omega))
      have b := hv _ (hg (i + 1) h)
      have := code_lt hs.1 _ _ (a.1.trans b.1.symm) a.2 b.2 (hi i (i + 1) (by omega) h)
      omega
  by_cases h0 : r.2.length = 0
  · omega
  · have h1 := lo (r.2.length - 1) (by omega)
    have b := hv _ (hg (r.2.length - 1) (by omega))
    have h2 := (codeL_bd hs.1 _ b.2).2
    rw [b.1] at h2
    omega
end Go.Proofs.YtamkfnkikiekaaaGreat

/-
  CONTRACTS: valid instances; both sides.
-/
namespace Go.Proofs.YtamkfnkikiekaaaGreat
open Go.RowKit Go.Shelf Go.IntWalk
open Rep (Rd Own sz)
set_option linter.unusedSimpArgs false
set_option linter.unusedVariables false

theorem conOk_rel {size : Int} {rs : List RelT} {vars ci : Int} {sc : List Int} (h : inB ci 0 (rs.length - 1) = false) : conOk (size, rs) vars (ci, sc) = false := by unfold conOk; simp only; rw [h]; rfl
theorem conOk_vals {size : Int} {rs : List RelT} {vars : Int} {k : Nat} {sc : List Int} (hk : k < rs.length) : conOk (size, rs) vars ((k : Int), sc) = valsOk vars sc rs[k].1 := by
  unfold conOk
  simp only [Int.toNat_natCast]
  rw [show inB (k : Int) 0 ((rs.length : Int) - 1) = true by simp [inB]; omega, show rs.getD k (0, []) = rs[k] by simp [List.getD, hk]]
  rfl
set_option maxRecDepth 100000 in
set_option maxHeartbeats 4000000 in
theorem validInstance1_by (tb xb : Nat) (rs : List RelT) (size vars : Int) (va : Value) (w : World) (l : List OpT) (hc0 : w.cell? ⟨tb, 1, none⟩ = some va) (hc1 : w.cell? ⟨xb, 0, none⟩ = some (.int .i64 vars)) (hr : Rd w [va] rs) (hrl : rs.length ≤ 6) (hv : 1 ≤ vars ∧ vars ≤ 10) :
    PredC 48 #[.pointer (some ⟨tb, 0, none⟩), .pointer (some ⟨xb, 0, none⟩)] w l (fun c => !conOk (size, rs) vars c) := by
  intro W x v0 v1 hb hx _
  have HR := Lib.hid (Rd.mono hr hb)
  have g0 := cellL hb hc0
  have g1 := cellL hb hc1
  clear hc0 hc1 hr hb
  show Calls Tryz.prog 48 #[_, .pointer (some ⟨tb, 0, none⟩), .pointer (some ⟨xb, 0, none⟩)] W _
  obtain ⟨ci, sc⟩ := x
  have z := rd_cons rfl hx
  obtain ⟨rfl, hIc⟩ := rd_i1 z.1
  have HSC := Lib.hid z.2
  obtain ⟨a2, c2, rfl, _⟩ := rd_list z.2
  obtain ⟨a, c, rfl, _⟩ := rd_list HR.out
  clear hx z
  simp only at hIc
  have g0_ := cellL (St.start W).bel g0
  clear g0_
  have g0_ := cellL (St.start W).bel g0
  have g1_ := cellL (St.start W).bel g1
  have hs46 := (St.start W).alloc #[.int .i64 ci, .slice a2 sc.length c2] 60 (n := W.heap.size) (by simp)
  clear g0_ g1_
  have k0_0 := hs46.cellAt 0 rfl 0 rfl
  have k0_1 := hs46.cellAt 0 rfl 1 rfl
  have g0_ := cellL hs46.bel g0
  have g1_ := cellL hs46.bel g1
  have ew : IntKind.i64.wrap ((rs.length : Int) - 1) = (rs.length : Int) - 1 := i64_in _ (by omega)
  go_enter Tryz.func48, Tryz.ntmps48
  cases h1 : inB ci 0 (rs.length - 1) with
  | false =>
    have H1 := Lib.hid (conOk_rel (size := size) (vars := vars) (sc := sc) h1)
    go_upto_region 1 with fail
    refine wp_region_noPanic (wp_region_tree4 (fun w' => w'.cell? ⟨W.heap.size, 0, none⟩ = some (.int .i64 ci) ∧ w'.cell? ⟨W.heap.size, 1, none⟩ = some (.slice a2 sc.length c2) ∧ w'.cell? ⟨tb, 1, none⟩ = some (.slice a rs.length c) ∧ w'.cell? ⟨xb, 0, none⟩ = some (.int .i64 vars)) (.float 0 (.float 1 (.float 2 (.float 3 (.float 4 (.float 5 (.hard 6 (.float 7 (.float 8 (.float 9 (.float 10 (.float 11 (.float 12 (.float 13 (.float 14 (.float 15 (.float 16 (.float 17 (.float 18 (.float 19 (.hard 20 (.float 21 (.float 22 (.float 23 .nil)))))))))))))))))))))))) (by kernel_rfl) (by kernel_rfl) (by kernel_rfl) rfl ?_ (fun _ _ _ _ _ h => h) ?_)
    · exact ⟨(hs46.drew).cellAt 0 rfl 0 rfl, (hs46.drew).cellAt 0 rfl 1 rfl, cellL (hs46.drew).bel g0, cellL (hs46.drew).bel g1⟩
    have hs47 := hs46.drew
    clear k0_0 k0_1 g0_ g1_
    have hz_wd48 : W.heap.size + 1 ≤ ((W.alloc (.cells #[.int .i64 ci, .slice a2 sc.length c2] 60)).drew).heap.size := by simp
    generalize hgen_wd48 : (W.alloc (.cells #[.int .i64 ci, .slice a2 sc.length c2] 60)).drew = wd48 at *
    have HG_wd48 := Lib.hid hgen_wd48
    clear hgen_wd48
    (repeat (first | (apply t4_skip rfl (by rfl); try simp only [Act.put, List.setIfInBounds_toArray, List.set_cons_zero, List.set_cons_succ]) | (apply t4_float rfl (by rfl); (· (intro w' hS; go_simp <;> with_reducible rfl)); (try simp only [Act.put, List.setIfInBounds_toArray, List.set_cons_zero, List.set_cons_succ]))))
    refine t4_hard rfl (by rfl) (fun K hK => ?_)
    go_wp2_with (go_at_call 49; refine (within_c ci 0 (rs.length - 1) _).mono ?_; rintro e w49 ⟨rfl, rfl, rfl⟩)
    refine ⟨⟨hs47.cellAt 0 rfl 0 rfl, hs47.cellAt 0 rfl 1 rfl, cellL hs47.bel g0, cellL hs47.bel g1⟩, ?_⟩
    (repeat (first | (apply t4_skip rfl (by rfl); try simp only [Act.put, List.setIfInBounds_toArray, List.set_cons_zero, List.set_cons_succ]) | (apply t4_float rfl (by rfl); (· (intro w' hS; go_simp <;> with_reducible rfl)); (try simp only [Act.put, List.setIfInBounds_toArray, List.set_cons_zero, List.set_cons_succ]))))
    refine t4_hskip rfl (by rfl) ?_ ?_
    · exact ⟨hs47.cellAt 0 rfl 0 rfl, hs47.cellAt 0 rfl 1 rfl, cellL hs47.bel g0, cellL hs47.bel g1⟩
    (try simp only [Act.put, List.setIfInBounds_toArray, List.set_cons_zero, List.set_cons_succ])
    (repeat (first | (apply t4_skip rfl (by rfl); try simp only [Act.put, List.setIfInBounds_toArray, List.set_cons_zero, List.set_cons_succ]) | (apply t4_float rfl (by rfl); (· (intro w' hS; go_simp <;> with_reducible rfl)); (try simp only [Act.put, List.setIfInBounds_toArray, List.set_cons_zero, List.set_cons_succ]))))
    have k0_0 := hs47.cellAt 0 rfl 0 rfl
    have k0_1 := hs47.cellAt 0 rfl 1 rfl
    have g0_ := cellL hs47.bel g0
    have g1_ := cellL hs47.bel g1
    refine t4_nil (NoPanic.normal ?_)
    go_wp2_with fail
    go_ret
    exact ⟨ret_bool (by rw [H1.out]; rfl), hs47.bel⟩
  | true =>
    have h2 := inB_true h1
    obtain ⟨k, rfl⟩ : ∃ k : Nat, ci = k := ⟨ci.toNat, by omega⟩
    have hk : k < rs.length := by omega
    obtain ⟨b, o, u0, u1, rfl, q0, q1, hy⟩ := rd_two_at rfl HR.out k hk
    have hyz := rd_cons rfl hy
    obtain ⟨rfl, _⟩ := rd_i1 hyz.1
    have H1 := Lib.hid (conOk_vals (size := size) (vars := vars) (sc := sc) hk)
    clear hy hyz
    generalize rs[k].1 = AR at *
    have hkl : (k : Int) < rs.length := by omega
    clear k0_0 k0_1 g0_ g1_
    have k0_0 := hs46.cellAt 0 rfl 0 rfl
    have k0_1 := hs46.cellAt 0 rfl 1 rfl
    have g0_ := cellL hs46.bel g0
    have g1_ := cellL hs46.bel g1
    have q0_ := cellL hs46.bel q0
    clear k0_0 k0_1 g0_ g1_ q0_
    have k0_0 := hs46.cellAt 0 rfl 0 rfl
    have k0_1 := hs46.cellAt 0 rfl 1 rfl
    have g0_ := cellL hs46.bel g0
    have g1_ := cellL hs46.bel g1
    have q0_ := cellL hs46.bel q0
    go_upto_region 1 with fail
    refine wp_region_noPanic (wp_region_tree4 (fun w' => w'.cell? ⟨W.heap.size, 0, none⟩ = some (.int .i64 (k : Int)) ∧ w'.cell? ⟨W.heap.size, 1, none⟩ = some (.slice a2 sc.length c2) ∧ w'.cell? ⟨tb, 1, none⟩ = some (.slice (some ⟨b, o, none⟩) rs.length c) ∧ w'.cell? ⟨xb, 0, none⟩ = some (.int .i64 vars) ∧ w'.cell? ⟨b, o + k * 2, none⟩ = some (.int .i64 AR)) (.float 0 (.float 1 (.float 2 (.float 3 (.float 4 (.float 5 (.hard 6 (.float 7 (.float 8 (.float 9 (.float 10 (.float 11 (.float 12 (.float 13 (.float 14 (.float 15 (.float 16 (.float 17 (.float 18 (.float 19 (.hard 20 (.float 21 (.float 22 (.float 23 .nil)))))))))))))))))))))))) (by kernel_rfl) (by kernel_rfl) (by kernel_rfl) rfl ?_ (fun _ _ _ _ _ h => h) ?_)
    · exact ⟨(hs46.drew).cellAt 0 rfl 0 rfl, (hs46.drew).cellAt 0 rfl 1 rfl, cellL (hs46.drew).bel g0, cellL (hs46.drew).bel g1, cellL (hs46.drew).bel q0⟩
    have hs50 := hs46.drew
    clear k0_0 k0_1 g0_ g1_ q0_
    have hz_wd51 : W.heap.size + 1 ≤ ((W.alloc (.cells #[.int .i64 (k : Int), .slice a2 sc.length c2] 60)).drew).heap.size := by simp
    generalize hgen_wd51 : (W.alloc (.cells #[.int .i64 (k : Int), .slice a2 sc.length c2] 60)).drew = wd51 at *
    have HG_wd51 := Lib.hid hgen_wd51
    clear hgen_wd51
    (repeat (first | (apply t4_skip rfl (by rfl); try simp only [Act.put, List.setIfInBounds_toArray, List.set_cons_zero, List.set_cons_succ]) | (apply t4_float rfl (by rfl); (· (intro w' hS; go_simp <;> with_reducible rfl)); (try simp only [Act.put, List.setIfInBounds_toArray, List.set_cons_zero, List.set_cons_succ]))))
    refine t4_hard rfl (by rfl) (fun K hK => ?_)
    go_wp2_with (go_at_call 49; refine (within_c k 0 (rs.length - 1) _).mono ?_; rintro e w52 ⟨rfl, rfl, rfl⟩)
    refine ⟨⟨hs50.cellAt 0 rfl 0 rfl, hs50.cellAt 0 rfl 1 rfl, cellL hs50.bel g0, cellL hs50.bel g1, cellL hs50.bel q0⟩, ?_⟩
    (repeat (first | (apply t4_skip rfl (by rfl); try simp only [Act.put, List.setIfInBounds_toArray, List.set_cons_zero, List.set_cons_succ]) | (apply t4_float rfl (by rfl); (· (intro w' hS; go_simp <;> with_reducible rfl)); (try simp only [Act.put, List.setIfInBounds_toArray, List.set_cons_zero, List.set_cons_succ]))))
    refine t4_hard rfl (by rfl) (fun K hK => ?_)
    go_wp2_with (go_at_call 31; refine (areValues_c vars sc _ AR _ (Rd.mono HSC.out hs50.bel) (by omega) (by omega)).mono ?_; rintro e w53 ⟨rfl, hbw53⟩)
    have hz_w53 : wd51.heap.size ≤ w53.heap.size := by have h9 := hbw53.size; (try simp at h9); omega
    have hs54 := hs50.step hbw53
    refine ⟨⟨hs54.cellAt 0 rfl 0 rfl, hs54.cellAt 0 rfl 1 rfl, cellL hs54.bel g0, cellL hs54.bel g1, cellL hs54.bel q0⟩, ?_⟩
    (repeat (first | (apply t4_skip rfl (by rfl); try simp only [Act.put, List.setIfInBounds_toArray, List.set_cons_zero, List.set_cons_succ]) | (apply t4_float rfl (by rfl); (· (intro w' hS; go_simp <;> with_reducible rfl)); (try simp only [Act.put, List.setIfInBounds_toArray, List.set_cons_zero, List.set_cons_succ]))))
    have k0_0 := hs54.cellAt 0 rfl 0 rfl
    have k0_1 := hs54.cellAt 0 rfl 1 rfl
    have g0_ := cellL hs54.bel g0
    have g1_ := cellL hs54.bel g1
    have q0_ := cellL hs54.bel q0
    refine t4_nil (NoPanic.normal ?_)
    go_wp2_with fail
    go_ret
    exact ⟨ret_bool (by rw [H1.out]), hs54.bel⟩
set_option maxRecDepth 100000 in
set_option maxHeartbeats 4000000 in
theorem ValidInstance_c (t : Tmpl) (x : Inst) (t0 t1 x0 x1 : Value) (w : World) (ht : Rd w [t0, t1] t) (hx : Rd w [x0, x1] x) :
    Calls Tryz.prog 20 #[.agg #[t0, t1], .agg #[x0, x1]] w fun e w' => e = .returned (.bool (instOk t x)) ∧ Below w.heap.size w w' := by
  obtain ⟨size, rs⟩ := t
  obtain ⟨vars, l⟩ := x
  have HT := Lib.hid ht
  have zt := rd_cons rfl ht
  obtain ⟨rfl, _⟩ := rd_i1 zt.1
  obtain ⟨at0, ct0, rfl, _⟩ := rd_list zt.2
  have HTR := Lib.hid zt.2
  have zx := rd_cons rfl hx
  obtain ⟨rfl, _⟩ := rd_i1 zx.1
  have HL := Lib.hid zx.2
  obtain ⟨a, c, rfl, _⟩ := rd_list zx.2
  clear ht hx zt zx
  have eg : ∀ args w, (callFunc 48 args).run Tryz.prog w = .ok (.enter 48 args) w := enters_of Tryz.func48 (by kernel_rfl) rfl
  have hs55 := (St.start w).alloc #[.int .i64 size, .slice at0 rs.length ct0] 26 (n := w.heap.size) (by simp)
  have k0_0 := hs55.cellAt 0 rfl 0 rfl
  have k0_1 := hs55.cellAt 0 rfl 1 rfl
  have hs56 := hs55.alloc #[.int .i64 vars, .slice a l.length c] 29 (n := w.heap.size + 1) (by simp)
  clear k0_0 k0_1
  have k0_0 := hs56.cellAt 0 rfl 0 rfl
  have k0_1 := hs56.cellAt 0 rfl 1 rfl
  have k1_0 := hs56.cellAt 1 rfl 0 rfl
  have k1_1 := hs56.cellAt 1 rfl 1 rfl
  go_enter Tryz.func20, Tryz.ntmps20
  go_wp2_with fail
  refine (ValidTemplate_c (size, rs) _ _ _ (Rd.mono HT.out hs56.bel)).mono ?_
  rintro e w57 ⟨rfl, hbw57⟩
  have hz_w57 : w.heap.size + 1 + 1 ≤ w57.heap.size := by have h9 := hbw57.size; (try simp at h9); omega
  have hs58 := hs56.step hbw57
  clear k0_0 k0_1 k1_0 k1_1
  have k0_0 := hs58.cellAt 0 rfl 0 rfl
  have k0_1 := hs58.cellAt 0 rfl 1 rfl
  have k1_0 := hs58.cellAt 1 rfl 0 rfl
  have k1_1 := hs58.cellAt 1 rfl 1 rfl
  cases h1 : tmplOk (size, rs) with
  | false =>
    have H1 := Lib.hid (show instOk (size, rs) (vars, l) = false by unfold instOk; rw [h1]; rfl)
    clear h1
    go_wp2_with fail
    go_ret
    exact ⟨ret_bool H1.out.symm, hs58.bel⟩
  | true =>
    have H1 := Lib.hid h1
    have hrl := (tmplOk_get h1).2.1
    simp only at hrl
    clear h1
    go_wp2_with fail
    refine (isVars_c vars _).mono ?_
    rintro e w59 ⟨rfl, rfl, rfl⟩
    cases h2 : inB vars 1 10 with
    | false =>
      have H2 := Lib.hid (show instOk (size, rs) (vars, l) = false by unfold instOk; simp only [h2, Bool.and_false, Bool.false_and])
      clear h2
      go_wp2_with fail
      go_ret
      exact ⟨ret_bool H2.out.symm, hs58.bel⟩
    | true =>
      have H2 := Lib.hid h2
      have hv := inB_true h2
      clear h2
      by_cases hl : l.length ≤ 24
      · have HLL := Lib.hid hl
        go_wp2_with fail
        refine (containsCons_c l _ 48 _ _ _ (Rd.mono HL.out hs58.bel) eg (validInstance1_by _ _ rs size vars _ _ l (hs58.cellAt 0 rfl 1 rfl) (hs58.cellAt 1 rfl 0 rfl) (Rd.mono HTR.out hs58.bel) hrl hv)).mono ?_
        rintro e w60 ⟨rfl, hbw60⟩
        have hz_w60 : w57.heap.size ≤ w60.heap.size := by have h9 := hbw60.size; (try simp at h9); omega
        have hs61 := hs58.step hbw60
        clear k0_0 k0_1 k1_0 k1_1
        have k0_0 := hs61.cellAt 0 rfl 0 rfl
        have k0_1 := hs61.cellAt 0 rfl 1 rfl
        have k1_0 := hs61.cellAt 1 rfl 0 rfl
        have k1_1 := hs61.cellAt 1 rfl 1 rfl
        go_wp2_with fail
        go_ret
        refine ⟨ret_bool ?_, hs61.bel⟩
        unfold instOk
        simp only [H1.out, H2.out, decide_eq_true HLL.out, Bool.true_and]
        rw [← all_of_any]
      · have HLL := Lib.hid hl
        go_wp2_with fail
        go_ret
        exact ⟨ret_bool (by simp only [instOk, decide_eq_false HLL.out, Bool.and_false, Bool.false_and]), hs58.bel⟩
set_option maxRecDepth 100000 in
set_option maxHeartbeats 2000000 in
theorem l01Places_c (ar : Int) (l : List Int) (v0 : Value) (w : World) (r0 : Rd w [v0] l) (hs0 : -1000 ≤ ar) (hs1 : ar ≤ 1000000000) :
    Calls Tryz.prog 44 #[v0, .int .i64 ar] w fun e w' => e = .returned (.bool (l.all (fun a => inB a 0 (ar - 1)))) ∧ w = w' := by
  obtain ⟨a, c, rfl, h0⟩ := rd_list r0
  have hb0 := (rdSl_len h0).2
  unfold maxLen at hb0
  have HR := Lib.hid r0
  clear r0 h0
  go_enter Tryz.func44, Tryz.ntmps44
  go_wp2_with fail
  go_loop [5] (fun i => ∃ k : Nat, k ≤ l.length ∧ i = .int .i64 k ∧ Hid (∀ j (hj : j < l.length), j < k → inB l[j] 0 (ar - 1) = true)) (fun i => l.length - (intOf i).toNat)
  case atStart => exact ⟨0, Nat.zero_le _, rfl, fun j _ hj => absurd hj (Nat.not_lt_zero _)⟩
  case round =>
    obtain ⟨k, hk, rfl, hr⟩ := hrel
    by_cases hlt : k < l.length
    · obtain ⟨b, o, rfl, q0, _⟩ := rd_int_at HR.out k hlt
      go_wp2_with fail
      refine (l00In_c l[k] 0 (ar - 1) _).mono ?_
      rintro e w1 ⟨rfl, rfl⟩
      cases hq : inB l[k] 0 (ar - 1) with
      | false =>
        have HQ := Lib.hid (show l.all (fun a => inB a 0 (ar - 1)) = false from List.all_eq_false.2 ⟨_, List.getElem_mem hlt, by simp [hq]⟩)
        clear hq
        go_wp2_with fail
        go_ret
        exact ⟨ret_bool HQ.out.symm, rfl⟩
      | true =>
        have HQ := Lib.hid hq
        clear hq
        go_wp2_with fail
        go_round
        case rel =>
          refine ⟨k + 1, by omega, by go_num, fun j hj hjk => ?_⟩
          rcases Nat.lt_or_ge j k with h | h
          · exact hr.out j hj h
          · obtain rfl : j = k := by omega
            exact HQ.out
        case measure => simp [intOf]; omega
    · obtain rfl : k = l.length := by omega
      have HA := Lib.hid (show l.all (fun a => inB a 0 (ar - 1)) = true by
        rw [List.all_eq_true]
        intro y hy
        obtain ⟨j, hj, rfl⟩ := List.getElem_of_mem hy
        exact hr.out j hj hj)
      go_wp2_with fail
      go_ret
      exact ⟨ret_bool HA.out.symm, rfl⟩
set_option maxRecDepth 100000 in
set_option maxHeartbeats 8000000 in
theorem l05Ok_c (t : Tmpl) (x : Inst) (tb xb : Nat) (t0 t1 x0 x1 : Value) (w : World) (ht : Rd w [t0, t1] t) (hx : Rd w [x0, x1] x)
    (ct0 : w.cell? ⟨tb, 0, none⟩ = some t0) (ct1 : w.cell? ⟨tb, 1, none⟩ = some t1) (cx0 : w.cell? ⟨xb, 0, none⟩ = some x0) (cx1 : w.cell? ⟨xb, 1, none⟩ = some x1) :
    Calls Tryz.prog 18 #[.pointer (some ⟨tb, 0, none⟩), .pointer (some ⟨xb, 0, none⟩)] w fun e w' => e = .returned (.bool (instOk t x)) ∧ Below w.heap.size w w' := by
  obtain ⟨size, rs⟩ := t
  obtain ⟨vars, l⟩ := x
  have HT := Lib.hid ht
  have zt := rd_cons rfl ht
  obtain ⟨rfl, _⟩ := rd_i1 zt.1
  obtain ⟨at0, cc0, rfl, _⟩ := rd_list zt.2
  have HTR := Lib.hid zt.2
  have zx := rd_cons rfl hx
  obtain ⟨rfl, _⟩ := rd_i1 zx.1
  have HL := Lib.hid zx.2
  obtain ⟨a, c, rfl, hrl⟩ := rd_list zx.2
  have hb0 := (rdSl_len hrl).2
  unfold maxLen at hb0
  have HLR := Lib.hid hrl
  clear ht hx zt zx hrl
  have ct0_ := cellL (St.start w).bel ct0
  clear ct0_
  have ct0_ := cellL (St.start w).bel ct0
  have ct1_ := cellL (St.start w).bel ct1
  clear ct0_ ct1_
  have ct0_ := cellL (St.start w).bel ct0
  have ct1_ := cellL (St.start w).bel ct1
  have cx0_ := cellL (St.start w).bel cx0
  clear ct0_ ct1_ cx0_
  have ct0_ := cellL (St.start w).bel ct0
  have ct1_ := cellL (St.start w).bel ct1
  have cx0_ := cellL (St.start w).bel cx0
  have cx1_ := cellL (St.start w).bel cx1
  go_enter Tryz.func18, Tryz.ntmps18
  go_wp2_with fail
  refine (l01Template_c (size, rs) _ _ _ _ (Rd.mono HT.out (St.start w).bel) (cellL (St.start w).bel ct0) (cellL (St.start w).bel ct1)).mono ?_
  rintro e w62 ⟨rfl, hbw62⟩
  have hz_w62 : w.heap.size ≤ w62.heap.size := by have h9 := hbw62.size; (try simp at h9); omega
  have hs63 := (St.start w).step hbw62
  clear ct0_ ct1_ cx0_ cx1_
  have ct0_ := cellL hs63.bel ct0
  have ct1_ := cellL hs63.bel ct1
  have cx0_ := cellL hs63.bel cx0
  have cx1_ := cellL hs63.bel cx1
  cases h1 : tmplOk (size, rs) with
  | false =>
    have H1 := Lib.hid (show instOk (size, rs) (vars, l) = false by unfold instOk; rw [h1]; rfl)
    clear h1
    go_wp2_with fail
    go_ret
    exact ⟨ret_bool H1.out.symm, hs63.bel⟩
  | true =>
    have H1 := Lib.hid h1
    have hrl := (tmplOk_get h1).2.1
    simp only at hrl
    clear h1
    go_wp2_with fail
    refine (l00In_c vars 1 10 _).mono ?_
    rintro e w64 ⟨rfl, rfl, rfl⟩
    cases h2 : inB vars 1 10 with
    | false =>
      have H2 := Lib.hid (show instOk (size, rs) (vars, l) = false by unfold instOk; simp only [h2, Bool.and_false, Bool.false_and])
      clear h2
      go_wp2_with fail
      go_ret
      exact ⟨ret_bool H2.out.symm, hs63.bel⟩
    | true =>
      have H2 := Lib.hid h2
      have hv := inB_true h2
      clear h2
      by_cases hl : l.length ≤ 24
      · have H3 := Lib.hid (show instOk (size, rs) (vars, l) = l.all (conOk (size, rs) vars) by unfold instOk; simp only [H1.out, H2.out, decide_eq_true hl, Bool.true_and])
        have ew : IntKind.i64.wrap ((rs.length : Int) - 1) = (rs.length : Int) - 1 := i64_in _ (by omega)
        go_wp2_with fail
        go_loopw [5] (fun i wl => ∃ k : Nat, k ≤ l.length ∧ i = .int .i64 k ∧ Hid (Below (w62).heap.size (w62) wl) ∧ Hid (∀ j (hj : j < l.length), j < k → conOk (size, rs) vars l[j] = true)) (fun i _ => l.length - (intOf i).toNat)
        case atStart => exact ⟨0, Nat.zero_le _, rfl, Below.refl _ _, fun j _ hj => absurd hj (Nat.not_lt_zero _)⟩
        case round =>
          obtain ⟨k, hk, rfl, hbl, hr⟩ := hrel
          have hbl2 := hbl.out
          have hz_wr : w62.heap.size ≤ wr.heap.size := by have h9 := hbl2.size; (try simp at h9); omega
          have hs65 := hs63.step hbl2
          clear ct0_ ct1_ cx0_ cx1_
          have ct0_ := cellL hs65.bel ct0
          have ct1_ := cellL hs65.bel ct1
          have cx0_ := cellL hs65.bel cx0
          have cx1_ := cellL hs65.bel cx1
          have HBL := Lib.hid hbl2
          clear hbl2 hbl
          by_cases hlt : k < l.length
          · obtain ⟨b, o, u0, u1, rfl, q0, q1, hy⟩ := rdSl_two rfl HLR.out k hlt
            have hyz := rd_cons rfl hy
            obtain ⟨rfl, hIc⟩ := rd_i1 hyz.1
            have HSC := Lib.hid hyz.2
            obtain ⟨a2, c2, rfl, _⟩ := rd_list hyz.2
            clear hy hyz
            have HK := Lib.hid (show ∀ B, conOk (size, rs) vars l[k] = B → (B = false → instOk (size, rs) (vars, l) = false) by
              intro B e hB
              rw [H3.out]
              exact List.all_eq_false.2 ⟨_, List.getElem_mem hlt, by rw [e, hB]; decide⟩)
            have hkl : (k : Int) < l.length := by omega
            generalize hlk : l[k] = LK at *
            obtain ⟨ci, sc⟩ := LK
            simp only at *
            have HLK := Lib.hid hlk
            clear hlk
            clear ct0_ ct1_ cx0_ cx1_
            have ct0_ := cellL hs65.bel ct0
            have ct1_ := cellL hs65.bel ct1
            have cx0_ := cellL hs65.bel cx0
            have cx1_ := cellL hs65.bel cx1
            have q0_ := cellL hs65.bel q0
            clear ct0_ ct1_ cx0_ cx1_ q0_
            have ct0_ := cellL hs65.bel ct0
            have ct1_ := cellL hs65.bel ct1
            have cx0_ := cellL hs65.bel cx0
            have cx1_ := cellL hs65.bel cx1
            have q0_ := cellL hs65.bel q0
            have q1_ := cellL hs65.bel q1
            clear ct0_ ct1_ cx0_ cx1_ q0_ q1_
            have ct0_ := cellL hs65.bel ct0
            have ct1_ := cellL hs65.bel ct1
            have cx0_ := cellL hs65.bel cx0
            have cx1_ := cellL hs65.bel cx1
            have q0_ := cellL hs65.bel q0
            have q1_ := cellL hs65.bel q1
            cases h1 : inB ci 0 (rs.length - 1) with
            | false =>
              have HF := Lib.hid (HK.out false (conOk_rel h1) rfl)
              go_upto_region 7 with fail
              refine wp_region_noPanic (wp_region_tree4 (fun w' => w'.cell? ⟨tb, 0, none⟩ = some (.int .i64 size) ∧ w'.cell? ⟨tb, 1, none⟩ = some (.slice at0 rs.length cc0) ∧ w'.cell? ⟨xb, 0, none⟩ = some (.int .i64 vars) ∧ w'.cell? ⟨xb, 1, none⟩ = some (.slice (some ⟨b, o, none⟩) l.length c) ∧ w'.cell? ⟨b, o + k * 2, none⟩ = some (.int .i64 ci) ∧ w'.cell? ⟨b, o + k * 2 + 1, none⟩ = some (.slice a2 sc.length c2)) (.float 0 (.float 1 (.float 2 (.float 3 (.float 4 (.float 5 (.float 6 (.float 7 (.float 8 (.float 9 (.hard 10 (.float 11 (.float 12 (.float 13 (.float 14 (.float 15 (.float 16 (.float 17 (.float 18 (.float 19 (.float 20 (.float 21 (.float 22 (.float 23 (.float 24 (.float 25 (.float 26 (.float 27 (.float 28 (.float 29 (.float 30 (.float 31 (.float 32 (.float 33 (.float 34 (.float 35 (.float 36 (.float 37 (.float 38 (.float 39 (.hard 40 (.float 41 (.float 42 .nil))))))))))))))))))))))))))))))))))))))))))) (by kernel_rfl) (by kernel_rfl) (by kernel_rfl) rfl ?_ (fun _ _ _ _ _ h => h) ?_)
              · exact ⟨cellL (hs65.drew).bel ct0, cellL (hs65.drew).bel ct1, cellL (hs65.drew).bel cx0, cellL (hs65.drew).bel cx1, cellL (hs65.drew).bel q0, cellL (hs65.drew).bel q1⟩
              have hs66 := hs65.drew
              have HBL_67 := Lib.hid (HBL.out.trans (((belowD _)).mono HBL.out.size))
              clear HBL
              clear ct0_ ct1_ cx0_ cx1_ q0_ q1_
              have hz_wd68 : wr.heap.size ≤ (wr.drew).heap.size := by simp
              generalize hgen_wd68 : wr.drew = wd68 at *
              have HG_wd68 := Lib.hid hgen_wd68
              clear hgen_wd68
              (repeat (first | (apply t4_skip rfl (by rfl); try simp only [Act.put, List.setIfInBounds_toArray, List.set_cons_zero, List.set_cons_succ]) | (apply t4_float rfl (by rfl); (· (intro w' hS; go_simp <;> with_reducible rfl)); (try simp only [Act.put, List.setIfInBounds_toArray, List.set_cons_zero, List.set_cons_succ]))))
              refine t4_hard rfl (by rfl) (fun K hK => ?_)
              go_wp2_with (go_at_call 43; refine (l00In_c ci 0 (rs.length - 1) _).mono ?_; rintro e w69 ⟨rfl, rfl, rfl⟩)
              refine ⟨⟨cellL hs66.bel ct0, cellL hs66.bel ct1, cellL hs66.bel cx0, cellL hs66.bel cx1, cellL hs66.bel q0, cellL hs66.bel q1⟩, ?_⟩
              (repeat (first | (apply t4_skip rfl (by rfl); try simp only [Act.put, List.setIfInBounds_toArray, List.set_cons_zero, List.set_cons_succ]) | (apply t4_float rfl (by rfl); (· (intro w' hS; go_simp <;> with_reducible rfl)); (try simp only [Act.put, List.setIfInBounds_toArray, List.set_cons_zero, List.set_cons_succ]))))
              refine t4_hskip rfl (by rfl) ?_ ?_
              · exact ⟨cellL hs66.bel ct0, cellL hs66.bel ct1, cellL hs66.bel cx0, cellL hs66.bel cx1, cellL hs66.bel q0, cellL hs66.bel q1⟩
              (try simp only [Act.put, List.setIfInBounds_toArray, List.set_cons_zero, List.set_cons_succ])
              (repeat (first | (apply t4_skip rfl (by rfl); try simp only [Act.put, List.setIfInBounds_toArray, List.set_cons_zero, List.set_cons_succ]) | (apply t4_float rfl (by rfl); (· (intro w' hS; go_simp <;> with_reducible rfl)); (try simp only [Act.put, List.setIfInBounds_toArray, List.set_cons_zero, List.set_cons_succ]))))
              have ct0_ := cellL hs66.bel ct0
              have ct1_ := cellL hs66.bel ct1
              have cx0_ := cellL hs66.bel cx0
              have cx1_ := cellL hs66.bel cx1
              have q0_ := cellL hs66.bel q0
              have q1_ := cellL hs66.bel q1
              refine t4_nil (NoPanic.normal ?_)
              go_wp2_with fail
              go_ret
              exact ⟨ret_bool HF.out.symm, hs66.bel⟩
            | true =>
              have h2 := inB_true h1
              obtain ⟨j, rfl⟩ : ∃ j : Nat, ci = j := ⟨ci.toNat, by omega⟩
              have hj : j < rs.length := by omega
              obtain ⟨b3, o3, y0, y1, rfl, r0, r1, hy⟩ := rd_two_at rfl HTR.out j hj
              have hyz := rd_cons rfl hy
              obtain ⟨rfl, _⟩ := rd_i1 hyz.1
              have HV := Lib.hid (conOk_vals (size := size) (vars := vars) (sc := sc) hj)
              clear hy hyz
              generalize rs[j].1 = AR at *
              have hjl : (j : Int) < rs.length := by omega
              clear ct0_ ct1_ cx0_ cx1_ q0_ q1_
              have ct0_ := cellL hs65.bel ct0
              have ct1_ := cellL hs65.bel ct1
              have cx0_ := cellL hs65.bel cx0
              have cx1_ := cellL hs65.bel cx1
              have q0_ := cellL hs65.bel q0
              have q1_ := cellL hs65.bel q1
              have r0_ := cellL hs65.bel r0
              clear ct0_ ct1_ cx0_ cx1_ q0_ q1_ r0_
              have ct0_ := cellL hs65.bel ct0
              have ct1_ := cellL hs65.bel ct1
              have cx0_ := cellL hs65.bel cx0
              have cx1_ := cellL hs65.bel cx1
              have q0_ := cellL hs65.bel q0
              have q1_ := cellL hs65.bel q1
              have r0_ := cellL hs65.bel r0
              by_cases h4 : (sc.length : Int) = AR
              · have h5 : ((sc.length : Int) != AR) = false := by simp [h4]
                have HV2 := Lib.hid (show conOk (size, rs) vars ((j : Int), sc) = sc.all (fun a => inB a 0 (vars - 1)) by rw [HV.out]; unfold valsOk; rw [decide_eq_true h4]; rfl)
                clear h4
                go_upto_region 7 with fail
                refine wp_region_noPanic (wp_region_tree4 (fun w' => w'.cell? ⟨tb, 0, none⟩ = some (.int .i64 size) ∧ w'.cell? ⟨tb, 1, none⟩ = some (.slice (some ⟨b3, o3, none⟩) rs.length cc0) ∧ w'.cell? ⟨xb, 0, none⟩ = some (.int .i64 vars) ∧ w'.cell? ⟨xb, 1, none⟩ = some (.slice (some ⟨b, o, none⟩) l.length c) ∧ w'.cell? ⟨b, o + k * 2, none⟩ = some (.int .i64 (j : Int)) ∧ w'.cell? ⟨b, o + k * 2 + 1, none⟩ = some (.slice a2 sc.length c2) ∧ w'.cell? ⟨b3, o3 + j * 2, none⟩ = some (.int .i64 AR)) (.float 0 (.float 1 (.float 2 (.float 3 (.float 4 (.float 5 (.float 6 (.float 7 (.float 8 (.float 9 (.hard 10 (.float 11 (.float 12 (.float 13 (.float 14 (.float 15 (.float 16 (.float 17 (.float 18 (.float 19 (.float 20 (.float 21 (.float 22 (.float 23 (.float 24 (.float 25 (.float 26 (.float 27 (.float 28 (.float 29 (.float 30 (.float 31 (.float 32 (.float 33 (.float 34 (.float 35 (.float 36 (.float 37 (.float 38 (.float 39 (.hard 40 (.float 41 (.float 42 .nil))))))))))))))))))))))))))))))))))))))))))) (by kernel_rfl) (by kernel_rfl) (by kernel_rfl) rfl ?_ (fun _ _ _ _ _ h => h) ?_)
                · exact ⟨cellL (hs65.drew).bel ct0, cellL (hs65.drew).bel ct1, cellL (hs65.drew).bel cx0, cellL (hs65.drew).bel cx1, cellL (hs65.drew).bel q0, cellL (hs65.drew).bel q1, cellL (hs65.drew).bel r0⟩
                have hs70 := hs65.drew
                have HBL_71 := Lib.hid (HBL.out.trans (((belowD _)).mono HBL.out.size))
                clear HBL
                clear ct0_ ct1_ cx0_ cx1_ q0_ q1_ r0_
                have hz_wd72 : wr.heap.size ≤ (wr.drew).heap.size := by simp
                generalize hgen_wd72 : wr.drew = wd72 at *
                have HG_wd72 := Lib.hid hgen_wd72
                clear hgen_wd72
                (repeat (first | (apply t4_skip rfl (by rfl); try simp only [Act.put, List.setIfInBounds_toArray, List.set_cons_zero, List.set_cons_succ]) | (apply t4_float rfl (by rfl); (· (intro w' hS; go_simp <;> with_reducible rfl)); (try simp only [Act.put, List.setIfInBounds_toArray, List.set_cons_zero, List.set_cons_succ]))))
                refine t4_hard rfl (by rfl) (fun K hK => ?_)
                go_wp2_with (go_at_call 43; refine (l00In_c j 0 (rs.length - 1) _).mono ?_; rintro e w73 ⟨rfl, rfl, rfl⟩)
                refine ⟨⟨cellL hs70.bel ct0, cellL hs70.bel ct1, cellL hs70.bel cx0, cellL hs70.bel cx1, cellL hs70.bel q0, cellL hs70.bel q1, cellL hs70.bel r0⟩, ?_⟩
                (repeat (first | (apply t4_skip rfl (by rfl); try simp only [Act.put, List.setIfInBounds_toArray, List.set_cons_zero, List.set_cons_succ]) | (apply t4_float rfl (by rfl); (· (intro w' hS; go_simp <;> with_reducible rfl)); (try simp only [Act.put, List.setIfInBounds_toArray, List.set_cons_zero, List.set_cons_succ]))))
                refine t4_hard rfl (by rfl) (fun K hK => ?_)
                go_wp2_with (go_at_call 44; refine (l01Places_c vars sc _ _ (Rd.mono HSC.out hs70.bel) (by omega) (by omega)).mono ?_; rintro e w74 ⟨rfl, rfl, rfl⟩)
                refine ⟨⟨cellL hs70.bel ct0, cellL hs70.bel ct1, cellL hs70.bel cx0, cellL hs70.bel cx1, cellL hs70.bel q0, cellL hs70.bel q1, cellL hs70.bel r0⟩, ?_⟩
                (repeat (first | (apply t4_skip rfl (by rfl); try simp only [Act.put, List.setIfInBounds_toArray, List.set_cons_zero, List.set_cons_succ]) | (apply t4_float rfl (by rfl); (· (intro w' hS; go_simp <;> with_reducible rfl)); (try simp only [Act.put, List.setIfInBounds_toArray, List.set_cons_zero, List.set_cons_succ]))))
                have ct0_ := cellL hs70.bel ct0
                have ct1_ := cellL hs70.bel ct1
                have cx0_ := cellL hs70.bel cx0
                have cx1_ := cellL hs70.bel cx1
                have q0_ := cellL hs70.bel q0
                have q1_ := cellL hs70.bel q1
                have r0_ := cellL hs70.bel r0
                refine t4_nil (NoPanic.normal ?_)
                cases h6 : sc.all (fun a => inB a 0 (vars - 1)) with
                | false =>
                  have HF := Lib.hid (HK.out false (by rw [HV2.out, h6]) rfl)
                  clear h6
                  go_wp2_with fail
                  go_ret
                  exact ⟨ret_bool HF.out.symm, hs70.bel⟩
                | true =>
                  have HT6 := Lib.hid (HV2.out.trans h6)
                  clear h6
                  go_wp2_with fail
                  go_roundw
                  case rel =>
                    refine ⟨k + 1, by omega, by go_num, HBL_71.out, fun i hi hik => ?_⟩
                    rcases Nat.lt_or_ge i k with h | h
                    · exact hr.out i hi h
                    · obtain rfl : i = k := by omega
                      rw [HLK.out]; exact HT6.out
                  case measure => simp [intOf]; omega
              · have h5 : ((sc.length : Int) != AR) = true := by simp [h4]
                have HF := Lib.hid (HK.out false (by rw [HV.out]; unfold valsOk; rw [decide_eq_false h4]; rfl) rfl)
                clear h4
                go_upto_region 7 with fail
                refine wp_region_noPanic (wp_region_tree4 (fun w' => w'.cell? ⟨tb, 0, none⟩ = some (.int .i64 size) ∧ w'.cell? ⟨tb, 1, none⟩ = some (.slice (some ⟨b3, o3, none⟩) rs.length cc0) ∧ w'.cell? ⟨xb, 0, none⟩ = some (.int .i64 vars) ∧ w'.cell? ⟨xb, 1, none⟩ = some (.slice (some ⟨b, o, none⟩) l.length c) ∧ w'.cell? ⟨b, o + k * 2, none⟩ = some (.int .i64 (j : Int)) ∧ w'.cell? ⟨b, o + k * 2 + 1, none⟩ = some (.slice a2 sc.length c2) ∧ w'.cell? ⟨b3, o3 + j * 2, none⟩ = some (.int .i64 AR)) (.float 0 (.float 1 (.float 2 (.float 3 (.float 4 (.float 5 (.float 6 (.float 7 (.float 8 (.float 9 (.hard 10 (.float 11 (.float 12 (.float 13 (.float 14 (.float 15 (.float 16 (.float 17 (.float 18 (.float 19 (.float 20 (.float 21 (.float 22 (.float 23 (.float 24 (.float 25 (.float 26 (.float 27 (.float 28 (.float 29 (.float 30 (.float 31 (.float 32 (.float 33 (.float 34 (.float 35 (.float 36 (.float 37 (.float 38 (.float 39 (.hard 40 (.float 41 (.float 42 .nil))))))))))))))))))))))))))))))))))))))))))) (by kernel_rfl) (by kernel_rfl) (by kernel_rfl) rfl ?_ (fun _ _ _ _ _ h => h) ?_)
                · exact ⟨cellL (hs65.drew).bel ct0, cellL (hs65.drew).bel ct1, cellL (hs65.drew).bel cx0, cellL (hs65.drew).bel cx1, cellL (hs65.drew).bel q0, cellL (hs65.drew).bel q1, cellL (hs65.drew).bel r0⟩
                have hs75 := hs65.drew
                have HBL_76 := Lib.hid (HBL.out.trans (((belowD _)).mono HBL.out.size))
                clear HBL
                clear ct0_ ct1_ cx0_ cx1_ q0_ q1_ r0_
                have hz_wd77 : wr.heap.size ≤ (wr.drew).heap.size := by simp
                generalize hgen_wd77 : wr.drew = wd77 at *
                have HG_wd77 := Lib.hid hgen_wd77
                clear hgen_wd77
                (repeat (first | (apply t4_skip rfl (by rfl); try simp only [Act.put, List.setIfInBounds_toArray, List.set_cons_zero, List.set_cons_succ]) | (apply t4_float rfl (by rfl); (· (intro w' hS; go_simp <;> with_reducible rfl)); (try simp only [Act.put, List.setIfInBounds_toArray, List.set_cons_zero, List.set_cons_succ]))))
                refine t4_hard rfl (by rfl) (fun K hK => ?_)
                go_wp2_with (go_at_call 43; refine (l00In_c j 0 (rs.length - 1) _).mono ?_; rintro e w78 ⟨rfl, rfl, rfl⟩)
                refine ⟨⟨cellL hs75.bel ct0, cellL hs75.bel ct1, cellL hs75.bel cx0, cellL hs75.bel cx1, cellL hs75.bel q0, cellL hs75.bel q1, cellL hs75.bel r0⟩, ?_⟩
                (repeat (first | (apply t4_skip rfl (by rfl); try simp only [Act.put, List.setIfInBounds_toArray, List.set_cons_zero, List.set_cons_succ]) | (apply t4_float rfl (by rfl); (· (intro w' hS; go_simp <;> with_reducible rfl)); (try simp only [Act.put, List.setIfInBounds_toArray, List.set_cons_zero, List.set_cons_succ]))))
                refine t4_hskip rfl (by rfl) ?_ ?_
                · exact ⟨cellL hs75.bel ct0, cellL hs75.bel ct1, cellL hs75.bel cx0, cellL hs75.bel cx1, cellL hs75.bel q0, cellL hs75.bel q1, cellL hs75.bel r0⟩
                (try simp only [Act.put, List.setIfInBounds_toArray, List.set_cons_zero, List.set_cons_succ])
                (repeat (first | (apply t4_skip rfl (by rfl); try simp only [Act.put, List.setIfInBounds_toArray, List.set_cons_zero, List.set_cons_succ]) | (apply t4_float rfl (by rfl); (· (intro w' hS; go_simp <;> with_reducible rfl)); (try simp only [Act.put, List.setIfInBounds_toArray, List.set_cons_zero, List.set_cons_succ]))))
                have ct0_ := cellL hs75.bel ct0
                have ct1_ := cellL hs75.bel ct1
                have cx0_ := cellL hs75.bel cx0
                have cx1_ := cellL hs75.bel cx1
                have q0_ := cellL hs75.bel q0
                have q1_ := cellL hs75.bel q1
                have r0_ := cellL hs75.bel r0
                refine t4_nil (NoPanic.normal ?_)
                go_wp2_with fail
                go_ret
                exact ⟨ret_bool HF.out.symm, hs75.bel⟩
          · obtain rfl : k = l.length := by omega
            have HA := Lib.hid (show l.all (conOk (size, rs) vars) = true by
              rw [List.all_eq_true]
              intro y hy
              obtain ⟨j, hj, rfl⟩ := List.getElem_of_mem hy
              exact hr.out j hj hj)
            have hkl : ¬ ((l.length : Int) < l.length) := by omega
            go_wp2_with fail
            go_ret
            exact ⟨ret_bool (by rw [H3.out, HA.out]), hs65.bel⟩
      · have HLL := Lib.hid hl
        go_wp2_with fail
        go_ret
        exact ⟨ret_bool (by simp only [instOk, decide_eq_false HLL.out, Bool.and_false, Bool.false_and]), hs63.bel⟩
end Go.Proofs.YtamkfnkikiekaaaGreat

