/-
  SEVERAL TEXTS IN ONE.
-/
import Derived.Test.YtjnkkjgkinmhkaaDoorSysB
import Derived.Test.YtjnkkjgkinmhkaaDoorRowsB
import Derived.Deep.DeepCutAuto

/-
  PLAIN: relations, operations, templates: when they are valid; the order of tuples.
-/
namespace Go.Proofs.YtjnkkjgkinmhkaaDoor
open Go.RowKit
set_option linter.unusedSimpArgs false
set_option linter.unusedVariables false

/-- slices.Compare. -/
def cmpL : List Int → List Int → Int
  | [], [] => 0
  | [], _ :: _ => -1
  | _ :: _, [] => 1
  | a :: l, b :: m => if a < b then -1 else if b < a then 1 else cmpL l m
/-- l01Before. -/
def befL : List Int → List Int → Bool
  | [], _ => false
  | _ :: _, [] => false
  | a :: l, b :: m => if a = b then befL l m else decide (a < b)
theorem cmp_bef : ∀ (l m : List Int), l.length = m.length → befL l m = decide (cmpL l m < 0)
  | [], [], _ => by simp [befL, cmpL]
  | a :: l, b :: m, h => by
    have ih := cmp_bef l m (by simpa using h)
    unfold befL cmpL
    by_cases h1 : a = b
    · subst h1; simp [ih]
    · rw [if_neg h1]
      by_cases h2 : a < b
      · rw [if_pos h2]; simp [h2]
      · rw [if_neg h2, if_pos (by omega)]; simp; omega
theorem cmp_bd : ∀ (l m : List Int), -1 ≤ cmpL l m ∧ cmpL l m ≤ 1
  | [], [] => by simp [cmpL]
  | [], _ :: _ => by simp [cmpL]
  | _ :: _, [] => by simp [cmpL]
  | a :: l, b :: m => by
    have := cmp_bd l m
    unfold cmpL
    split
    · omega
    · split <;> omega
/-- Compared up to place k, alike so far. -/
theorem cmp_drop (l m : List Int) (k : Nat) (hl : k < l.length) (hm : k < m.length) : cmpL (l.drop k) (m.drop k) = if l[k] < m[k] then -1 else if m[k] < l[k] then 1 else cmpL (l.drop (k + 1)) (m.drop (k + 1)) := by
  rw [List.drop_eq_getElem_cons hl, List.drop_eq_getElem_cons hm, cmpL]
theorem bef_drop (l m : List Int) (k : Nat) (hl : k < l.length) (hm : k < m.length) : befL (l.drop k) (m.drop k) = if l[k] = m[k] then befL (l.drop (k + 1)) (m.drop (k + 1)) else decide (l[k] < m[k]) := by
  rw [List.drop_eq_getElem_cons hl, List.drop_eq_getElem_cons hm, befL]
/-- Tuple i is right, and comes behind the one before. -/
def tupAt (size ar : Int) (l : List (List Int)) (i : Nat) : Bool := valsOk size (l.getD i []) ar && (decide (i = 0) || decide (cmpL (l.getD (i - 1) []) (l.getD i []) < 0))
def tupsOk (size ar : Int) (l : List (List Int)) : Bool := (List.range l.length).all (tupAt size ar l)
def relOk (size : Int) (r : RelT) : Bool := inB size 1 4 && inB r.1 1 4 && tupsOk size r.1 r.2
theorem tupsOk_of {size ar : Int} {l : List (List Int)} (h : ∀ j, j < l.length → tupAt size ar l j = true) : tupsOk size ar l = true := by
  unfold tupsOk
  rw [List.all_eq_true]
  intro j hj
  exact h j (List.mem_range.1 hj)
theorem tupsOk_not {size ar : Int} {l : List (List Int)} (j : Nat) (hj : j < l.length) (h : tupAt size ar l j = false) : tupsOk size ar l = false := by
  unfold tupsOk
  rw [List.all_eq_false]
  exact ⟨j, List.mem_range.2 hj, by rw [h]; decide⟩
theorem tupsOk_get {size ar : Int} {l : List (List Int)} (h : tupsOk size ar l = true) (j : Nat) (hj : j < l.length) : tupAt size ar l j = true := by
  unfold tupsOk at h
  rw [List.all_eq_true] at h
  exact h j (List.mem_range.2 hj)
def tmplOk (t : Tmpl) : Bool := inB t.1 1 4 && decide (t.2.length ≤ 6) && t.2.all (relOk t.1)
def opOk (size : Int) (f : OpT) : Bool := inB size 1 4 && inB f.1 1 3 && valsOk size f.2 (size ^ f.1.toNat)
def conOk (t : Tmpl) (vars : Int) (c : OpT) : Bool := inB c.1 0 (t.2.length - 1) && valsOk vars c.2 (t.2.getD c.1.toNat (0, [])).1
def instOk (t : Tmpl) (x : Inst) : Bool := tmplOk t && inB x.1 1 10 && decide (x.2.length ≤ 24) && x.2.all (conOk t x.1)
theorem relOk_get {size : Int} {r : RelT} (h : relOk size r = true) : (1 ≤ size ∧ size ≤ 4) ∧ (1 ≤ r.1 ∧ r.1 ≤ 4) ∧ tupsOk size r.1 r.2 = true := by
  simp only [relOk, Bool.and_eq_true] at h
  exact ⟨inB_true h.1.1, inB_true h.1.2, h.2⟩
theorem tmplOk_get {t : Tmpl} (h : tmplOk t = true) : (1 ≤ t.1 ∧ t.1 ≤ 4) ∧ t.2.length ≤ 6 ∧ ∀ r, r ∈ t.2 → relOk t.1 r = true := by
  simp only [tmplOk, Bool.and_eq_true, decide_eq_true_eq, List.all_eq_true] at h
  exact ⟨inB_true h.1.1, h.1.2, h.2⟩
theorem opOk_get {size : Int} {f : OpT} (h : opOk size f = true) : (1 ≤ size ∧ size ≤ 4) ∧ (1 ≤ f.1 ∧ f.1 ≤ 3) ∧ valsOk size f.2 (size ^ f.1.toNat) = true := by
  simp only [opOk, Bool.and_eq_true] at h
  exact ⟨inB_true h.1.1, inB_true h.1.2, h.2⟩
theorem instOk_get {t : Tmpl} {x : Inst} (h : instOk t x = true) : tmplOk t = true ∧ (1 ≤ x.1 ∧ x.1 ≤ 10) ∧ x.2.length ≤ 24 ∧ ∀ c, c ∈ x.2 → conOk t x.1 c = true := by
  simp only [instOk, Bool.and_eq_true, decide_eq_true_eq, List.all_eq_true] at h
  exact ⟨h.1.1.1, inB_true h.1.1.2, h.1.2, h.2⟩
/-- The number of a tuple. -/
def codeL (size : Int) (l : List Int) : Int := l.foldl (fun n a => n * size + a) 0
theorem codeL_snoc (size : Int) (l : List Int) (a : Int) : codeL size (l ++ [a]) = codeL size l * size + a := by simp [codeL]
theorem pow_ge1 {s : Int} (hs : 1 ≤ s) : ∀ n : Nat, 1 ≤ s ^ n
  | 0 => by simp
  | n + 1 => by
    have ih := pow_ge1 hs n
    rw [Int.pow_succ]
    have := Int.mul_le_mul ih hs (by omega) (by omega)
    omega
theorem fold_bd {size : Int} (hs : 1 ≤ size) : ∀ (l : List Int) (n : Int), 0 ≤ n → (∀ a, a ∈ l → 0 ≤ a ∧ a ≤ size - 1) → n * size ^ l.length ≤ l.foldl (fun n a => n * size + a) n ∧ l.foldl (fun n a => n * size + a) n < (n + 1) * size ^ l.length
  | [], n, hn, _ => by simp; omega
  | a :: l, n, hn, h => by
    have ha := h a (List.mem_cons_self ..)
    have hX := pow_ge1 hs l.length
    have h0 : 0 ≤ n * size := Int.mul_nonneg hn (by omega)
    obtain ⟨h1, h2⟩ := fold_bd hs l (n * size + a) (by omega) (fun b hb => h b (List.mem_cons_of_mem _ hb))
    rw [List.length_cons, Int.pow_succ, List.foldl_cons]
    have e1 : n * (size ^ l.length * size) = n * size * size ^ l.length := by rw [Int.mul_comm (size ^ l.length) size, Int.mul_assoc]
    have e2 : (n + 1) * (size ^ l.length * size) = (n * size + size) * size ^ l.length := by rw [Int.mul_comm (size ^ l.length) size, ← Int.mul_assoc, Int.add_mul, Int.one_mul]
    rw [e1, e2]
    have h3 : n * size * size ^ l.length ≤ (n * size + a) * size ^ l.length := Int.mul_le_mul_of_nonneg_right (by omega) (by omega)
    have h4 : (n * size + a + 1) * size ^ l.length ≤ (n * size + size) * size ^ l.length := Int.mul_le_mul_of_nonneg_right (by omega) (by omega)
    omega
theorem codeL_bd {size : Int} (hs : 1 ≤ size) (l : List Int) (h : ∀ a, a ∈ l → 0 ≤ a ∧ a ≤ size - 1) : 0 ≤ codeL size l ∧ codeL size l < size ^ l.length := by
  have := fold_bd hs l 0 (Int.le_refl _) h
  unfold codeL
  rw [Int.zero_mul, Int.zero_add, Int.one_mul] at this
  exact this

end Go.Proofs.YtjnkkjgkinmhkaaDoor

/-
  CONTRACTS: valid relations, templates, operations; both sides.
-/
namespace Go.Proofs.YtjnkkjgkinmhkaaDoor
open Go.RowKit Go.Shelf Go.IntWalk
open Rep (Rd Own sz)
set_option linter.unusedSimpArgs false
set_option linter.unusedVariables false

theorem isArity_c (n : Int) (w : World) : Calls Tryd.prog 58 #[.int .i64 n] w fun e w' => e = .returned (.bool (inB n 1 4)) ∧ w = w' := by
  go_enter Tryd.func58, Tryd.ntmps58
  go_wp2_with fail
  refine (within_c n 1 4 _).mono ?_
  rintro e w1 ⟨rfl, rfl⟩
  go_wp2_with fail
  go_ret
  exact ⟨rfl, rfl⟩
theorem isVars_c (n : Int) (w : World) : Calls Tryd.prog 54 #[.int .i64 n] w fun e w' => e = .returned (.bool (inB n 1 10)) ∧ w = w' := by
  go_enter Tryd.func54, Tryd.ntmps54
  go_wp2_with fail
  refine (within_c n 1 10 _).mono ?_
  rintro e w1 ⟨rfl, rfl⟩
  go_wp2_with fail
  go_ret
  exact ⟨rfl, rfl⟩
theorem l01Arity_c (n : Int) (w : World) : Calls Tryd.prog 51 #[.int .i64 n] w fun e w' => e = .returned (.bool (inB n 1 4)) ∧ w = w' := by
  go_enter Tryd.func51, Tryd.ntmps51
  go_wp2_with fail
  refine (l00In_c n 1 4 _).mono ?_
  rintro e w1 ⟨rfl, rfl⟩
  go_wp2_with fail
  go_ret
  exact ⟨rfl, rfl⟩
theorem valsOk_len {p n : Int} {l : List Int} (h : valsOk p l n = true) : (l.length : Int) = n := by
  simp only [valsOk, Bool.and_eq_true, decide_eq_true_eq] at h
  exact h.1

end Go.Proofs.YtjnkkjgkinmhkaaDoor

/-
  CONTRACTS: slices.IndexFunc, slices.ContainsFunc at lists, relations, constraints.
-/
namespace Go.Proofs.YtjnkkjgkinmhkaaDoor
open Go.RowKit Go.Shelf
open Rep (Rd Own sz)
set_option linter.unusedSimpArgs false
set_option linter.unusedVariables false

def PredL (g : Nat) (cb : Array Value) (w : World) (l : List (List Int)) (q : List Int → Bool) : Prop :=
  ∀ (W : World) (x : List Int) (u0 : Value), Below w.heap.size w W → Rd W [u0] x → x ∈ l → Calls Tryd.prog g (#[u0] ++ cb) W fun e w' => e = .returned (.bool (q x)) ∧ Below W.heap.size W w'
def PredRl (g : Nat) (cb : Array Value) (w : World) (l : List RelT) (q : RelT → Bool) : Prop :=
  ∀ (W : World) (x : RelT) (u0 u1 : Value), Below w.heap.size w W → Rd W [u0, u1] x → x ∈ l → Calls Tryd.prog g (#[.agg #[u0, u1]] ++ cb) W fun e w' => e = .returned (.bool (q x)) ∧ Below W.heap.size W w'
def PredC (g : Nat) (cb : Array Value) (w : World) (l : List OpT) (q : OpT → Bool) : Prop :=
  ∀ (W : World) (x : OpT) (u0 u1 : Value), Below w.heap.size w W → Rd W [u0, u1] x → x ∈ l → Calls Tryd.prog g (#[.agg #[u0, u1]] ++ cb) W fun e w' => e = .returned (.bool (q x)) ∧ Below W.heap.size W w'

set_option maxRecDepth 100000 in
set_option maxHeartbeats 1000000 in
theorem indexCons_c (l : List (OpT)) (v : Value) (g : Nat) (cb : Array Value) (q : (OpT) → Bool) (w : World) (r : Rd w [v] l)
    (eg : ∀ args w, (callFunc g args).run Tryd.prog w = .ok (.enter g args) w) (hby : PredC g cb w l q) :
    Calls Tryd.prog 76 #[v, .func (.func g) #[] cb] w fun e w' => e = .returned (.int .i64 (firstI q l)) ∧ Below w.heap.size w w' := by
  obtain ⟨a, c, rfl, h⟩ := rd_list r
  clear r
  have hb := (rdSl_len h).2
  unfold maxLen at hb
  generalize hn : l.length = n at *
  have HN := Lib.hid hn
  have HH := Lib.hid h
  have HBY := Lib.hid hby
  clear hn h hby
  go_enter Tryd.func76, Tryd.ntmps76
  go_wp2_with fail
  go_loopw [8] (fun i wr => ∃ k : Nat, k ≤ n ∧ i = .int .i64 k ∧ Hid (Below w.heap.size w wr) ∧ Hid (∀ j (hj : j < l.length), j < k → q l[j] = false)) (fun i _ => n - (intOf i).toNat)
  case atStart => exact ⟨0, Nat.zero_le _, rfl, Below.refl _ _, fun j _ hj => absurd hj (Nat.not_lt_zero _)⟩
  case round =>
    obtain ⟨k, hk, rfl, hbl, hr⟩ := hrel
    by_cases hlt : k < n
    · have k1 : k < l.length := by rw [HN.out]; exact hlt
      obtain ⟨b, o, u0, u1, rfl, q0, q1, hx⟩ := rdSl_two rfl (rdSl_mono hbl.out HH.out) k k1
      have HX := Lib.hid hx
      clear hx
      go_wp2_with fail
      go_at_fn g
      refine (HBY.out _ l[k] _ _ hbl.out HX.out (List.getElem_mem k1)).mono ?_
      rintro e w1 ⟨rfl, hb1⟩
      cases hq : q l[k] with
      | true =>
        have HQ := Lib.hid hq
        clear hq
        go_wp2_with fail
        go_ret
        exact ⟨ret_int (firstI_at k1 (fun j hj h => hr.out j hj h) HQ.out).symm, hbl.out.trans (hb1.mono hbl.out.size)⟩
      | false =>
        have HQ := Lib.hid hq
        clear hq
        go_wp2_with fail
        go_roundw
        case rel =>
          refine ⟨k + 1, by omega, by go_num, hbl.out.trans (hb1.mono hbl.out.size), ?_⟩
          intro j hj hjk
          rcases Nat.lt_or_ge j k with h | h
          · exact hr.out j hj h
          · obtain rfl : j = k := by omega
            exact HQ.out
        case measure => simp [intOf]; omega
    · obtain rfl : k = n := by omega
      go_wp2_with fail
      go_ret
      refine ⟨ret_int ?_, hbl.out⟩
      rw [firstI_no (fun j hj _ => hr.out j hj (by have := HN.out; omega))]
set_option maxRecDepth 100000 in
theorem containsCons_c (l : List (OpT)) (v : Value) (g : Nat) (cb : Array Value) (q : (OpT) → Bool) (w : World) (r : Rd w [v] l)
    (eg : ∀ args w, (callFunc g args).run Tryd.prog w = .ok (.enter g args) w) (hby : PredC g cb w l q) :
    Calls Tryd.prog 55 #[v, .func (.func g) #[] cb] w fun e w' => e = .returned (.bool (l.any q)) ∧ Below w.heap.size w w' := by
  obtain ⟨a, c, rfl, _⟩ := rd_list r
  have HR := Lib.hid r
  have HBY := Lib.hid hby
  clear r hby
  go_enter Tryd.func55, Tryd.ntmps55
  go_wp2_with fail
  refine (indexCons_c l _ g cb q _ HR.out eg HBY.out).mono ?_
  rintro e w1 ⟨rfl, hb1⟩
  have hlo := firstI_lo q l
  go_wp2_with fail
  go_ret
  exact ⟨ret_bool (firstI_any q l), hb1⟩

end Go.Proofs.YtjnkkjgkinmhkaaDoor

/-
  CONTRACTS: valid templates and operations; both sides.
-/
namespace Go.Proofs.YtjnkkjgkinmhkaaDoor
open Go.RowKit Go.Shelf Go.IntWalk
open Rep (Rd Own sz)
set_option linter.unusedSimpArgs false
set_option linter.unusedVariables false

theorem pow64 {s a : Int} (hs : 1 ≤ s ∧ s ≤ 4) (ha : 1 ≤ a ∧ a ≤ 3) : 1 ≤ s ^ a.toNat ∧ s ^ a.toNat ≤ 64 := by
  obtain rfl | rfl | rfl : a = 1 ∨ a = 2 ∨ a = 3 := by omega
  all_goals (obtain rfl | rfl | rfl | rfl : s = 1 ∨ s = 2 ∨ s = 3 ∨ s = 4 := by omega) <;> decide

end Go.Proofs.YtjnkkjgkinmhkaaDoor

/-
  CONTRACTS: the number of a tuple, the value of an operation, folding; both sides.
-/
namespace Go.Proofs.YtjnkkjgkinmhkaaDoor
open Go.RowKit Go.Shelf Go.IntWalk
open Rep (Rd Own sz)
set_option linter.unusedSimpArgs false
set_option linter.unusedVariables false

theorem codeL_take {size : Int} {l : List Int} {k : Nat} (hk : k < l.length) : codeL size (l.take (k + 1)) = codeL size (l.take k) * size + l[k] := by
  rw [List.take_succ_eq_append_getElem hk, codeL_snoc]
theorem codeL_step {size : Int} (hs : 1 ≤ size) {l : List Int} (hv : ∀ a, a ∈ l → 0 ≤ a ∧ a ≤ size - 1) (hp : size ^ l.length ≤ 1000000000000) {k : Nat} (hk : k < l.length) :
    0 ≤ codeL size (l.take k) * size ∧ codeL size (l.take k) * size ≤ 1000000000000 ∧ 0 ≤ codeL size (l.take k) * size + l[k] ∧ codeL size (l.take k) * size + l[k] ≤ 1000000000000 ∧ 0 ≤ l[k] := by
  have ha := hv _ (List.getElem_mem hk)
  have h1 := codeL_bd hs (l.take k) (fun a h => hv a (List.mem_of_mem_take h))
  have h2 := codeL_bd hs (l.take (k + 1)) (fun a h => hv a (List.mem_of_mem_take h))
  rw [codeL_take hk] at h2
  have h3 : size ^ (l.take (k + 1)).length ≤ size ^ l.length := pow_le_of hs (by rw [List.length_take]; omega)
  have h4 : 0 ≤ codeL size (l.take k) * size := Int.mul_nonneg h1.1 (by omega)
  omega
/-- The value of an operation at its arguments. -/
def valOf (size : Int) (f : OpT) (args : List Int) : Int := f.2.getD (codeL size args).toNat 0
theorem valOf_at {size : Int} {f : OpT} {args : List Int} (hok : opOk size f = true) (hlen : (args.length : Int) = f.1) (hv : ∀ a, a ∈ args → 0 ≤ a ∧ a ≤ size - 1) :
    ∃ k : Nat, ∃ hk : k < f.2.length, codeL size args = (k : Int) ∧ valOf size f args = f.2[k] ∧ 0 ≤ valOf size f args ∧ valOf size f args ≤ size - 1 ∧ f.2.length ≤ 64 ∧ size ^ args.length ≤ 64 := by
  obtain ⟨hs, har, ht⟩ := opOk_get hok
  have h1 := codeL_bd hs.1 args hv
  have h2 := valsOk_len ht
  have h3 := pow64 hs har
  have h4 : args.length = f.1.toNat := by omega
  rw [h4] at h1
  refine ⟨(codeL size args).toNat, by omega, by omega, ?_⟩
  have hk : (codeL size args).toNat < f.2.length := by omega
  have e : valOf size f args = f.2[(codeL size args).toNat] := by simp [valOf, List.getD, hk]
  have hv2 : ∀ a, a ∈ f.2 → 0 ≤ a ∧ a ≤ size - 1 := by
    simp only [valsOk, Bool.and_eq_true, List.all_eq_true] at ht
    exact fun a h => inB_true (ht.2 a h)
  have h5 := hv2 _ (List.getElem_mem hk)
  rw [← e] at h5
  exact ⟨e, h5.1, h5.2, by omega, by rw [h4]; omega⟩
theorem rd_lit2 {w : World} {b : Nat} {x y : Int} (hx : I64 x) (hy : I64 y) (h0 : w.cell? ⟨b, 0, none⟩ = some (.int .i64 x)) (h1 : w.cell? ⟨b, 1, none⟩ = some (.int .i64 y)) : Rd w [.slice (some ⟨b, 0, none⟩) 2 2] [x, y] := by
  refine ⟨_, _, rfl, by simp, by decide, fun i hi => ?_⟩
  match i, hi with
  | 0, _ =>
    refine ⟨b, 0, [.int .i64 x], rfl, ⟨rfl, hx⟩, fun j hj => ?_⟩
    obtain rfl : j = 0 := by simp at hj; omega
    simpa using h0
  | 1, _ =>
    refine ⟨b, 0, [.int .i64 y], rfl, ⟨rfl, hy⟩, fun j hj => ?_⟩
    obtain rfl : j = 0 := by simp at hj; omega
    simpa [sz] using h1
/-- Folding: the values from the left, two at a time. -/
def foldV (size : Int) (f : OpT) (a : Int) (l : List Int) : Int := l.foldl (fun x y => valOf size f [x, y]) a
theorem foldV_in {size : Int} {f : OpT} (hok : opOk size f = true) (h2 : f.1 = 2) : ∀ (l : List Int) (a : Int), (0 ≤ a ∧ a ≤ size - 1) → (∀ y, y ∈ l → 0 ≤ y ∧ y ≤ size - 1) → 0 ≤ foldV size f a l ∧ foldV size f a l ≤ size - 1
  | [], a, ha, _ => ha
  | y :: l, a, ha, hl => by
    have hy := hl y (List.mem_cons_self ..)
    obtain ⟨_, _, _, _, g1, g2, _⟩ := valOf_at (args := [a, y]) hok (by simp [h2]) (by intro z hz; simp at hz; rcases hz with rfl | rfl <;> assumption)
    exact foldV_in hok h2 l (valOf size f [a, y]) ⟨g1, g2⟩ (fun z hz => hl z (List.mem_cons_of_mem _ hz))
theorem foldV_take {size : Int} {f : OpT} {a : Int} {l : List Int} {k : Nat} (hk : k < l.length) : foldV size f a (l.take (k + 1)) = valOf size f [foldV size f a (l.take k), l[k]] := by
  unfold foldV
  rw [List.take_succ_eq_append_getElem hk, List.foldl_append]; rfl

end Go.Proofs.YtjnkkjgkinmhkaaDoor

/-
  PLAIN LAW: whether a tuple is one of a relation: by searching, by its number; when an operation keeps a relation.
-/
namespace Go.Proofs.YtjnkkjgkinmhkaaDoor
open Go.RowKit
set_option linter.unusedSimpArgs false
set_option linter.unusedVariables false

theorem cmp_self : ∀ l : List Int, cmpL l l = 0
  | [] => rfl
  | a :: l => by
    have ih := cmp_self l
    unfold cmpL; rw [if_neg (by omega), if_neg (by omega)]; exact ih
theorem cmp_zero : ∀ l m : List Int, cmpL l m = 0 → l = m
  | [], [], _ => rfl
  | [], _ :: _, h => by simp [cmpL] at h
  | _ :: _, [], h => by simp [cmpL] at h
  | a :: l, b :: m, h => by
    unfold cmpL at h
    split at h
    · omega
    · split at h
      · omega
      · have := cmp_zero l m h
        subst this
        obtain rfl : a = b := by omega
        rfl
theorem cmp_trans : ∀ l m n : List Int, cmpL l m < 0 → cmpL m n < 0 → cmpL l n < 0
  | [], [], _, h, _ => by simp [cmpL] at h
  | _ :: _, [], _, h, _ => by simp [cmpL] at h
  | _, _ :: _, [], _, h => by simp [cmpL] at h
  | [], _ :: _, _ :: _, _, _ => by simp [cmpL]
  | a :: l, b :: m, c :: n, h, k => by
    unfold cmpL at h k ⊢
    by_cases h1 : a < b
    · by_cases h2 : b < c
      · rw [if_pos (by omega)]; omega
      · rw [if_neg h2] at k
        by_cases h3 : c < b
        · rw [if_pos h3] at k; omega
        · rw [if_pos (by omega)]; omega
    · rw [if_neg h1] at h
      by_cases h2 : b < a
      · rw [if_pos h2] at h; omega
      · rw [if_neg h2] at h
        by_cases h3 : b < c
        · rw [if_pos (by omega)]; omega
        · rw [if_neg h3] at k
          by_cases h4 : c < b
          · rw [if_pos h4] at k; omega
          · rw [if_neg h4] at k
            rw [if_neg (by omega), if_neg (by omega)]
            exact cmp_trans l m n h k
/-- Tuples that rise. -/
def Inc (x : List (List Int)) : Prop := ∀ i j, i < j → j < x.length → cmpL (x.getD i []) (x.getD j []) < 0
theorem inc_of {x : List (List Int)} (h : ∀ j, j + 1 < x.length → cmpL (x.getD j []) (x.getD (j + 1) []) < 0) : Inc x := by
  intro i j hij hj
  induction j with
  | zero => omega
  | succ j ih =>
    rcases Nat.lt_or_ge i j with h1 | h1
    · exact cmp_trans _ _ _ (ih h1 (by omega)) (h j hj)
    · obtain rfl : i = j := by omega
      exact h i hj
/-- Whether a tuple is one of them. -/
def hasT (x : List (List Int)) (t : List Int) : Bool := x.contains t
theorem search_end {x : List (List Int)} {t : List Int} (hi : Inc x) {k : Nat} (hk : k ≤ x.length) (h1 : ∀ i, i < k → cmpL (x.getD i []) t < 0) (h2 : ∀ i, k ≤ i → i < x.length → 0 ≤ cmpL (x.getD i []) t) :
    hasT x t = (decide (k < x.length) && decide (cmpL (x.getD k []) t = 0)) := by
  unfold hasT
  rw [Bool.eq_iff_iff]
  simp only [List.contains_iff_mem, Bool.and_eq_true, decide_eq_true_eq]
  constructor
  · intro hm
    obtain ⟨i, hil, rfl⟩ := List.getElem_of_mem hm
    have e : x.getD i [] = x[i] := by simp [List.getD, hil]
    have hki : k ≤ i := by
      rcases Nat.lt_or_ge i k with h | h
      · have := h1 i h; rw [e, cmp_self] at this; omega
      · exact h
    rcases Nat.lt_or_ge k i with h | h
    · have a := hi k i h hil
      have b := h2 k (Nat.le_refl _) (by omega)
      rw [e] at a
      omega
    · obtain rfl : i = k := by omega
      exact ⟨hil, by rw [e, cmp_self]⟩
  · rintro ⟨hl, he⟩
    have e : x.getD k [] = x[k] := by simp [List.getD, hl]
    rw [e] at he
    rw [← cmp_zero _ _ he]
    exact List.getElem_mem hl
theorem search_lo {x : List (List Int)} {t : List Int} (hi : Inc x) {h : Nat} (hl : h < x.length) (hc : cmpL (x.getD h []) t < 0) : ∀ i, i < h + 1 → cmpL (x.getD i []) t < 0 := by
  intro i hih
  rcases Nat.lt_or_ge i h with h1 | h1
  · exact cmp_trans _ _ _ (hi i h h1 hl) hc
  · obtain rfl : i = h := by omega
    exact hc
theorem search_hi {x : List (List Int)} {t : List Int} (hi : Inc x) {h : Nat} (hc : ¬ cmpL (x.getD h []) t < 0) : ∀ i, h ≤ i → i < x.length → 0 ≤ cmpL (x.getD i []) t := by
  intro i hih hil
  rcases Nat.lt_or_ge h i with h1 | h1
  · have a := hi h i h1 hil
    by_cases hn : cmpL (x.getD i []) t < 0
    · exact absurd (cmp_trans _ _ _ a hn) hc
    · omega
  · obtain rfl : i = h := by omega
    omega
def Val (size : Int) (l : List Int) : Prop := ∀ a, a ∈ l → 0 ≤ a ∧ a ≤ size - 1
theorem codeL_cons (size : Int) (a : Int) : ∀ l : List Int, codeL size (a :: l) = a * size ^ l.length + codeL size l := by
  have key : ∀ (l : List Int) (n : Int), l.foldl (fun n a => n * size + a) n = n * size ^ l.length + l.foldl (fun n a => n * size + a) 0 := by
    intro l
    induction l with
    | nil => intro n; simp
    | cons b l ih =>
      intro n
      rw [List.foldl_cons, List.foldl_cons, ih (n * size + b), ih (0 * size + b), List.length_cons, Int.pow_succ, Int.zero_mul, Int.zero_add, Int.add_mul, Int.mul_comm (size ^ l.length) size, Int.mul_assoc]
      omega
  intro l
  unfold codeL
  rw [List.foldl_cons, key l, Int.zero_mul, Int.zero_add]
/-- Numbers of tuples rise as the tuples do. -/
theorem code_lt {size : Int} (hs : 1 ≤ size) : ∀ (l m : List Int), l.length = m.length → Val size l → Val size m → cmpL l m < 0 → codeL size l < codeL size m
  | [], [], _, _, _, h => by simp [cmpL] at h
  | a :: l, b :: m, hl, hv, hw, h => by
    have hl' : l.length = m.length := by simpa using hl
    have hv' : Val size l := fun x hx => hv x (List.mem_cons_of_mem _ hx)
    have hw' : Val size m := fun x hx => hw x (List.mem_cons_of_mem _ hx)
    rw [codeL_cons, codeL_cons, ← hl']
    have b1 := codeL_bd hs l hv'
    have b2 := codeL_bd hs m hw'
    rw [← hl'] at b2
    unfold cmpL at h
    split at h
    · rename_i hab
      have : (a + 1) * size ^ l.length ≤ b * size ^ l.length := Int.mul_le_mul_of_nonneg_right (by omega) (by omega)
      rw [Int.add_mul] at this
      omega
    · split at h
      · omega
      · obtain rfl : a = b := by omega
        have := code_lt hs l m hl' hv' hw' h
        omega
theorem cmp_tri : ∀ (l m : List Int), l.length = m.length → l = m ∨ cmpL l m < 0 ∨ cmpL m l < 0
  | [], [], _ => .inl rfl
  | a :: l, b :: m, h => by
    by_cases h1 : a < b
    · exact .inr (.inl (by unfold cmpL; rw [if_pos h1]; omega))
    · by_cases h2 : b < a
      · exact .inr (.inr (by unfold cmpL; rw [if_pos h2]; omega))
      · obtain rfl : a = b := by omega
        rcases cmp_tri l m (by simpa using h) with h3 | h3 | h3
        · exact .inl (by rw [h3])
        · exact .inr (.inl (by unfold cmpL; rw [if_neg h1, if_neg h1]; exact h3))
        · exact .inr (.inr (by unfold cmpL; rw [if_neg h1, if_neg h1]; exact h3))
theorem code_inj {size : Int} (hs : 1 ≤ size) {l m : List Int} (h : l.length = m.length) (hl : Val size l) (hm : Val size m) (e : codeL size l = codeL size m) : l = m := by
  rcases cmp_tri l m h with h1 | h1 | h1
  · exact h1
  · have := code_lt hs l m h hl hm h1; omega
  · have := code_lt hs m l h.symm hm hl h1; omega
/-- As many rising tuples as there are: all of them. -/
theorem full_mem {size : Int} (hs : 1 ≤ size) {ar : Nat} {x : List (List Int)} (hi : Inc x) (hv : ∀ t, t ∈ x → t.length = ar ∧ Val size t) (hn : (x.length : Int) = size ^ ar) {t : List Int} (hl : t.length = ar) (ht : Val size t) : t ∈ x := by
  have hg : ∀ i, i < x.length → x.getD i [] ∈ x := fun i h => by simp [List.getD, h]
  have lo : ∀ i : Nat, i < x.length → (i : Int) ≤ codeL size (x.getD i []) := by
    intro i
    induction i with
    | zero => intro h; exact (codeL_bd hs _ (hv _ (hg 0 h)).2).1
    | succ i ih =>
      intro h
      have h1 := ih (by omega)
      have a := hv _ (hg i (by omega))
      have b := hv _ (hg (i + 1) h)
      have := code_lt hs _ _ (a.1.trans b.1.symm) a.2 b.2 (hi i (i + 1) (by omega) h)
      omega
  have hi2 : ∀ d i : Nat, i + d + 1 = x.length → codeL size (x.getD i []) ≤ i := by
    intro d
    induction d with
    | zero =>
      intro i h
      have b := hv _ (hg i (by omega))
      have := (codeL_bd hs _ b.2).2
      rw [b.1, ← hn] at this
      omega
    | succ d ih =>
      intro i h
      have h1 := ih (i + 1) (by omega)
      have a := hv _ (hg i (by omega))
      have b := hv _ (hg (i + 1) (by omega))
      have := code_lt hs _ _ (a.1.trans b.1.symm) a.2 b.2 (hi i (i + 1) (by omega) (by omega))
      omega
  have hb := codeL_bd hs t ht
  rw [hl, ← hn] at hb
  obtain ⟨k, hk⟩ : ∃ k : Nat, codeL size t = k := ⟨(codeL size t).toNat, by omega⟩
  have hkl : k < x.length := by omega
  have a := hv _ (hg k hkl)
  have e : x.getD k [] = t := code_inj hs (a.1.trans hl.symm) a.2 ht (by have := lo k hkl; have := hi2 (x.length - 1 - k) k (by omega); omega)
  rw [← e]; exact hg k hkl
/-- The set of tuples, told by their numbers. -/
def setTo (size : Int) (n : Nat) (x : List (List Int)) : Nat → List Bool
  | 0 => List.replicate n false
  | k + 1 => (setTo size n x k).set (codeL size (x.getD k [])).toNat true
theorem setTo_len (size : Int) (n : Nat) (x : List (List Int)) : ∀ k, (setTo size n x k).length = n
  | 0 => by simp [setTo]
  | k + 1 => by simp [setTo, setTo_len size n x k]
theorem setTo_get {size : Int} {n : Nat} {x : List (List Int)} (hx : ∀ t, t ∈ x → 0 ≤ codeL size t ∧ codeL size t < n) (c : Nat) (hc : c < n) : ∀ k, k ≤ x.length → (setTo size n x k).getD c false = decide (∃ j, j < k ∧ codeL size (x.getD j []) = c)
  | 0, _ => by simp [setTo, List.getD, hc]
  | k + 1, h => by
    have ih := setTo_get hx c hc k (by omega)
    have hm : x.getD k [] ∈ x := by simp [List.getD, show k < x.length by omega]
    have hb := hx _ hm
    unfold setTo
    by_cases he : codeL size (x.getD k []) = c
    · have : (codeL size (x.getD k [])).toNat = c := by omega
      rw [this]
      have h2 : ((setTo size n x k).set c true).getD c false = true := by simp [List.getD, setTo_len, hc]
      rw [h2]
      symm
      rw [decide_eq_true_eq]
      exact ⟨k, by omega, he⟩
    · have hne : (codeL size (x.getD k [])).toNat ≠ c := by omega
      have h2 : ((setTo size n x k).set (codeL size (x.getD k [])).toNat true).getD c false = (setTo size n x k).getD c false := by
        generalize (codeL size (x.getD k [])).toNat = q at hne ⊢
        simp [List.getD, List.getElem?_set_ne hne]
      rw [h2, ih]
      apply decide_eq_decide.2
      constructor
      · rintro ⟨j, hj, e⟩; exact ⟨j, by omega, e⟩
      · rintro ⟨j, hj, e⟩
        rcases Nat.lt_or_ge j k with h3 | h3
        · exact ⟨j, h3, e⟩
        · obtain rfl : j = k := by omega
          exact absurd e he
theorem setTo_mem {size : Int} (hs : 1 ≤ size) {ar : Nat} {n : Nat} (hn : (n : Int) = size ^ ar) {x : List (List Int)} (hv : ∀ t, t ∈ x → t.length = ar ∧ Val size t) {t : List Int} (hl : t.length = ar) (ht : Val size t) :
    (setTo size n x x.length).getD (codeL size t).toNat false = hasT x t := by
  unfold hasT
  have hb := codeL_bd hs t ht
  rw [hl, ← hn] at hb
  have hx : ∀ t, t ∈ x → 0 ≤ codeL size t ∧ codeL size t < n := fun t h => by
    have := hv t h
    have h2 := codeL_bd hs t this.2
    rw [this.1, ← hn] at h2
    exact h2
  rw [setTo_get hx _ (by omega) _ (Nat.le_refl _), Bool.eq_iff_iff, decide_eq_true_eq, List.contains_iff_mem]
  constructor
  · rintro ⟨j, hj, e⟩
    have hm : x.getD j [] ∈ x := by simp [List.getD, hj]
    have a := hv _ hm
    have := code_inj hs (a.1.trans hl.symm) a.2 ht (by omega)
    rw [← this]; exact hm
  · intro hm
    obtain ⟨j, hj, rfl⟩ := List.getElem_of_mem hm
    exact ⟨j, hj, by simp [List.getD, hj]; omega⟩

theorem relOk_inc {size : Int} {r : RelT} (h : relOk size r = true) : Inc r.2 := by
  have ht := (relOk_get h).2.2
  refine inc_of fun j hj => ?_
  have := tupsOk_get ht (j + 1) hj
  simp only [tupAt, Bool.and_eq_true, Bool.or_eq_true, decide_eq_true_eq] at this
  rcases this.2 with h1 | h1
  · omega
  · simpa using h1
theorem relOk_val {size : Int} {r : RelT} (h : relOk size r = true) : ∀ t, t ∈ r.2 → t.length = r.1.toNat ∧ Val size t := by
  intro t ht
  obtain ⟨j, hj, rfl⟩ := List.getElem_of_mem ht
  have h2 := tupsOk_get (relOk_get h).2.2 j hj
  simp only [tupAt, Bool.and_eq_true] at h2
  have h3 := h2.1
  rw [show r.2.getD j [] = r.2[j] by simp [List.getD, hj]] at h3
  have h4 := valsOk_len h3
  simp only [valsOk, Bool.and_eq_true, List.all_eq_true] at h3
  exact ⟨by omega, fun a ha => inB_true (h3.2 a ha)⟩
theorem pow256 {s a : Int} (hs : 1 ≤ s ∧ s ≤ 4) (ha : 1 ≤ a ∧ a ≤ 4) : 1 ≤ s ^ a.toNat ∧ s ^ a.toNat ≤ 256 := by
  obtain rfl | rfl | rfl | rfl : a = 1 ∨ a = 2 ∨ a = 3 ∨ a = 4 := by omega
  all_goals (obtain rfl | rfl | rfl | rfl : s = 1 ∨ s = 2 ∨ s = 3 ∨ s = 4 := by omega) <;> decide
theorem relOk_count {size : Int} {r : RelT} (h : relOk size r = true) : (r.2.length : Int) ≤ size ^ r.1.toNat ∧ r.2.length ≤ 256 := by
  have hs := (relOk_get h).1
  have hp := pow256 hs (relOk_get h).2.1
  have hi := relOk_inc h
  have hv := relOk_val h
  have hg : ∀ i, i < r.2.length → r.2.getD i [] ∈ r.2 := fun i h => by simp [List.getD, h]
  have lo : ∀ i : Nat, i < r.2.length → (i : Int) ≤ codeL size (r.2.getD i []) := by
    intro i
    induction i with
    | zero => intro h; exact (codeL_bd hs.1 _ (hv _ (hg 0 h)).2).1
    | succ i ih =>
      intro h
      have h1 := ih (by omega)
      have a := hv _ (hg i (by omega))
      have b := hv _ (hg (i + 1) h)
      have := code_lt hs.1 _ _ (a.1.trans b.1.symm) a.2 b.2 (hi i (i + 1) (by omega) h)
      omega
  by_cases h0 : r.2.length = 0
  · omega
  · have h1 := lo (r.2.length - 1) (by omega)
    have b := hv _ (hg (r.2.length - 1) (by omega))
    have h2 := (codeL_bd hs.1 _ b.2).2
    rw [b.1] at h2
    omega
/-- What an operation makes of tuples; whether it keeps a relation. -/
def makeT (size : Int) (f : OpT) (ts : List (List Int)) (ar : Nat) : List Int := (List.range ar).map (fun p => valOf size f (ts.map (fun t => t.getD p 0)))
def pickT (x : List (List Int)) (places : List Int) : List (List Int) := places.map (fun k => x.getD k.toNat [])
def keepAt (size : Int) (f : OpT) (r : RelT) (i : Nat) : Bool := hasT r.2 (makeT size f (pickT r.2 (digs r.2.length f.1.toNat i)) r.1.toNat)
def keepsP (size : Int) (f : OpT) (r : RelT) : Bool := (List.range (r.2.length ^ f.1.toNat)).all (fun i => keepAt size f r i)
theorem pick_mem {x : List (List Int)} {l : List Int} (h : ∀ a, a ∈ l → 0 ≤ a ∧ a < x.length) : ∀ t, t ∈ pickT x l → t ∈ x := by
  intro t ht
  simp only [pickT, List.mem_map] at ht
  obtain ⟨a, ha, rfl⟩ := ht
  have := h a ha
  simp [List.getD, show a.toNat < x.length by omega]
theorem make_val {size : Int} {f : OpT} (hok : opOk size f = true) {ar : Nat} {ts : List (List Int)} (hl : (ts.length : Int) = f.1) (hv : ∀ t, t ∈ ts → t.length = ar ∧ Val size t) :
    (makeT size f ts ar).length = ar ∧ Val size (makeT size f ts ar) ∧ ∀ p, p < ar → Val size (ts.map (fun t => t.getD p 0)) := by
  have h1 : ∀ p, p < ar → Val size (ts.map (fun t => t.getD p 0)) := by
    intro p hp a ha
    simp only [List.mem_map] at ha
    obtain ⟨t, ht, rfl⟩ := ha
    have := hv t ht
    refine this.2 _ ?_
    simp [List.getD, show p < t.length by omega]
  refine ⟨by simp [makeT], ?_, h1⟩
  intro a ha
  simp only [makeT, List.mem_map, List.mem_range] at ha
  obtain ⟨p, hp, rfl⟩ := ha
  obtain ⟨_, _, _, _, g1, g2, _⟩ := valOf_at (args := ts.map (fun t => t.getD p 0)) hok (by simpa using hl) (fun a ha => h1 p hp a ha)
  exact ⟨g1, g2⟩
theorem keeps_full {size : Int} {f : OpT} {r : RelT} (hf : opOk size f = true) (hr : relOk size r = true) (hn : (r.2.length : Int) = size ^ r.1.toNat) : keepsP size f r = true := by
  have hs := (relOk_get hr).1
  have har := (opOk_get hf).2.1
  unfold keepsP
  rw [List.all_eq_true]
  intro i _
  have hp := pow256 hs (relOk_get hr).2.1
  have h1 : ∀ t, t ∈ pickT r.2 (digs r.2.length f.1.toNat i) → t ∈ r.2 := pick_mem (fun a ha => by
    have := digs_mem r.2.length (by omega) f.1.toNat i a ha
    omega)
  have h2 := make_val (ar := r.1.toNat) hf (ts := pickT r.2 (digs r.2.length f.1.toNat i)) (by simp [pickT]; omega) (fun t ht => relOk_val hr t (h1 t ht))
  unfold keepAt hasT
  rw [List.contains_iff_mem]
  exact full_mem hs.1 (relOk_inc hr) (relOk_val hr) hn h2.1 h2.2.1

end Go.Proofs.YtjnkkjgkinmhkaaDoor

/-
  CONTRACTS: valid instances; both sides.
-/
namespace Go.Proofs.YtjnkkjgkinmhkaaDoor
open Go.RowKit Go.Shelf Go.IntWalk
open Rep (Rd Own sz)
set_option linter.unusedSimpArgs false
set_option linter.unusedVariables false

theorem conOk_rel {size : Int} {rs : List RelT} {vars ci : Int} {sc : List Int} (h : inB ci 0 (rs.length - 1) = false) : conOk (size, rs) vars (ci, sc) = false := by unfold conOk; simp only; rw [h]; rfl
theorem conOk_vals {size : Int} {rs : List RelT} {vars : Int} {k : Nat} {sc : List Int} (hk : k < rs.length) : conOk (size, rs) vars ((k : Int), sc) = valsOk vars sc rs[k].1 := by
  unfold conOk
  simp only [Int.toNat_natCast]
  rw [show inB (k : Int) 0 ((rs.length : Int) - 1) = true by simp [inB]; omega, show rs.getD k (0, []) = rs[k] by simp [List.getD, hk]]
  rfl
set_option maxRecDepth 100000 in
set_option maxHeartbeats 2000000 in
theorem l01Places_c (ar : Int) (l : List Int) (v0 : Value) (w : World) (r0 : Rd w [v0] l) (hs0 : -1000 ≤ ar) (hs1 : ar ≤ 1000000000) :
    Calls Tryd.prog 52 #[v0, .int .i64 ar] w fun e w' => e = .returned (.bool (l.all (fun a => inB a 0 (ar - 1)))) ∧ w = w' := by
  obtain ⟨a, c, rfl, h0⟩ := rd_list r0
  have hb0 := (rdSl_len h0).2
  unfold maxLen at hb0
  have HR := Lib.hid r0
  clear r0 h0
  go_enter Tryd.func52, Tryd.ntmps52
  go_wp2_with fail
  go_loop [5] (fun i => ∃ k : Nat, k ≤ l.length ∧ i = .int .i64 k ∧ Hid (∀ j (hj : j < l.length), j < k → inB l[j] 0 (ar - 1) = true)) (fun i => l.length - (intOf i).toNat)
  case atStart => exact ⟨0, Nat.zero_le _, rfl, fun j _ hj => absurd hj (Nat.not_lt_zero _)⟩
  case round =>
    obtain ⟨k, hk, rfl, hr⟩ := hrel
    by_cases hlt : k < l.length
    · obtain ⟨b, o, rfl, q0, _⟩ := rd_int_at HR.out k hlt
      go_wp2_with fail
      refine (l00In_c l[k] 0 (ar - 1) _).mono ?_
      rintro e w1 ⟨rfl, rfl⟩
      cases hq : inB l[k] 0 (ar - 1) with
      | false =>
        have HQ := Lib.hid (show l.all (fun a => inB a 0 (ar - 1)) = false from List.all_eq_false.2 ⟨_, List.getElem_mem hlt, by simp [hq]⟩)
        clear hq
        go_wp2_with fail
        go_ret
        exact ⟨ret_bool HQ.out.symm, rfl⟩
      | true =>
        have HQ := Lib.hid hq
        clear hq
        go_wp2_with fail
        go_round
        case rel =>
          refine ⟨k + 1, by omega, by go_num, fun j hj hjk => ?_⟩
          rcases Nat.lt_or_ge j k with h | h
          · exact hr.out j hj h
          · obtain rfl : j = k := by omega
            exact HQ.out
        case measure => simp [intOf]; omega
    · obtain rfl : k = l.length := by omega
      have HA := Lib.hid (show l.all (fun a => inB a 0 (ar - 1)) = true by
        rw [List.all_eq_true]
        intro y hy
        obtain ⟨j, hj, rfl⟩ := List.getElem_of_mem hy
        exact hr.out j hj hj)
      go_wp2_with fail
      go_ret
      exact ⟨ret_bool HA.out.symm, rfl⟩
theorem inst_con {t : Tmpl} {x : Inst} (h : instOk t x = true) {c : OpT} (hc : c ∈ x.2) : ∃ k : Nat, c.1 = k ∧ ∃ hk : k < t.2.length, (c.2.length : Int) = t.2[k].1 ∧ ∀ v, v ∈ c.2 → 0 ≤ v ∧ v ≤ x.1 - 1 := by
  have h1 := (instOk_get h).2.2.2 c hc
  unfold conOk at h1
  rw [Bool.and_eq_true] at h1
  have h2 := inB_true h1.1
  refine ⟨c.1.toNat, by omega, by omega, ?_⟩
  have h3 := h1.2
  rw [show t.2.getD c.1.toNat (0, []) = t.2[c.1.toNat]'(by omega) by simp [List.getD, show c.1.toNat < t.2.length by omega]] at h3
  refine ⟨valsOk_len h3, fun v hv => ?_⟩
  simp only [valsOk, Bool.and_eq_true, List.all_eq_true] at h3
  exact inB_true (h3.2 v hv)

end Go.Proofs.YtjnkkjgkinmhkaaDoor
