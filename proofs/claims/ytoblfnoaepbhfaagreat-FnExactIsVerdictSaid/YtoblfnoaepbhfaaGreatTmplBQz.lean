import Derived.Test.YtoblfnoaepbhfaaGreatSysBQz
import Derived.Test.YtoblfnoaepbhfaaGreatRowsBQz
import Derived.Deep.DeepCutAuto
set_option linter.unusedSimpArgs false
set_option linter.unusedVariables false
set_option maxHeartbeats 4000000
set_option maxRecDepth 100000
namespace Go.Proofs.YtoblfnoaepbhfaaGreat
open Go.Proofs.Tryz
open Go.RowKit
def cmpL : List Int → List Int → Int
 | [], [] => 0
 | [], _ :: _ => -1
 | _ :: _, [] => 1
 | a :: l, b :: m => if a < b then -1 else if b < a then 1 else cmpL l m
def BR : List Int → List Int → Bool
 | [], _ => false
 | _ :: _, [] => false
 | a :: l, b :: m => if a = b then BR l m else decide (a < b)
theorem Oj : ∀ (l m : List Int), l.length = m.length → BR l m = decide (cmpL l m < 0)
 | [], [], _ => by simp [BR, cmpL]
 | a :: l, b :: m, h => by
  have ih := Oj l m (by simpa using h)
  unfold BR cmpL
  by_cases h1 : a = b
  · subst h1; simp [ih]
  · rw [if_neg h1]
    by_cases h2 : a < b
    · rw [if_pos h2]; simp [h2]
    · rw [if_neg h2, if_pos (by omega)]; simp; omega
theorem aaq : ∀ (l m : List Int), -1 ≤ cmpL l m ∧ cmpL l m ≤ 1
 | [], [] => by simp [cmpL]
 | [], _ :: _ => by simp [cmpL]
 | _ :: _, [] => by simp [cmpL]
 | a :: l, b :: m => by
  have := aaq l m
  unfold cmpL
  split
  · omega
  · split <;> omega
theorem aar (l m : List Int) (k : Nat) (hl : k < l.length) (hm : k < m.length) : cmpL (l.drop k) (m.drop k) = if l[k] < m[k] then -1 else if m[k] < l[k] then 1 else cmpL (l.drop (k + 1)) (m.drop (k + 1)) := by
 rw [List.drop_eq_getElem_cons hl, List.drop_eq_getElem_cons hm, cmpL]
theorem aas (l m : List Int) (k : Nat) (hl : k < l.length) (hm : k < m.length) : BR (l.drop k) (m.drop k) = if l[k] = m[k] then BR (l.drop (k + 1)) (m.drop (k + 1)) else decide (l[k] < m[k]) := by
 rw [List.drop_eq_getElem_cons hl, List.drop_eq_getElem_cons hm, BR]
def nX (size ar : Int) (l : List (List Int)) (i : Nat) : Bool := bG size (l.getD i []) ar && (decide (i = 0) || decide (cmpL (l.getD (i - 1) []) (l.getD i []) < 0))
def wH (size ar : Int) (l : List (List Int)) : Bool := (List.range l.length).all (nX size ar l)
def fJ (size : Int) (r : bH) : Bool := inB size 1 4 && inB r.1 1 4 && wH size r.1 r.2
theorem Ew {size ar : Int} {l : List (List Int)} (h : ∀ j, j < l.length → nX size ar l j = true) : wH size ar l = true := by
 unfold wH
 rw [List.all_eq_true]
 intro j hj
 exact h j (List.mem_range.1 hj)
theorem yJ {size ar : Int} {l : List (List Int)} (j : Nat) (hj : j < l.length) (h : nX size ar l j = false) : wH size ar l = false := by
 unfold wH
 rw [List.all_eq_false]
 exact ⟨j, List.mem_range.2 hj, by rw [h]; decide⟩
theorem BU {size ar : Int} {l : List (List Int)} (h : wH size ar l = true) (j : Nat) (hj : j < l.length) : nX size ar l j = true := by
 unfold wH at h
 rw [List.all_eq_true] at h
 exact h j (List.mem_range.2 hj)
def lV (t : dB) : Bool := inB t.1 1 4 && decide (t.2.length ≤ 6) && t.2.all (fJ t.1)
def Ey (size : Int) (f : nI) : Bool := inB size 1 4 && inB f.1 1 3 && bG size f.2 (size ^ f.1.toNat)
def sV (t : dB) (vars : Int) (c : nI) : Bool := inB c.1 0 (t.2.length - 1) && bG vars c.2 (t.2.getD c.1.toNat (0, [])).1
def cu (t : dB) (x : Inst) : Bool := lV t && inB x.1 1 10 && decide (x.2.length ≤ 24) && x.2.all (sV t x.1)
theorem gV {size : Int} {r : bH} (h : fJ size r = true) : (1 ≤ size ∧ size ≤ 4) ∧ (1 ≤ r.1 ∧ r.1 ≤ 4) ∧ wH size r.1 r.2 = true := by
 simp only [fJ, Bool.and_eq_true] at h
 exact ⟨bQ h.1.1, bQ h.1.2, h.2⟩
theorem dV {t : dB} (h : lV t = true) : (1 ≤ t.1 ∧ t.1 ≤ 4) ∧ t.2.length ≤ 6 ∧ ∀ r, r ∈ t.2 → fJ t.1 r = true := by
 simp only [lV, Bool.and_eq_true, decide_eq_true_eq, List.all_eq_true] at h
 exact ⟨bQ h.1.1, h.1.2, h.2⟩
theorem mO {size : Int} {f : nI} (h : Ey size f = true) : (1 ≤ size ∧ size ≤ 4) ∧ (1 ≤ f.1 ∧ f.1 ≤ 3) ∧ bG size f.2 (size ^ f.1.toNat) = true := by
 simp only [Ey, Bool.and_eq_true] at h
 exact ⟨bQ h.1.1, bQ h.1.2, h.2⟩
theorem aX {t : dB} {x : Inst} (h : cu t x = true) : lV t = true ∧ (1 ≤ x.1 ∧ x.1 ≤ 10) ∧ x.2.length ≤ 24 ∧ ∀ c, c ∈ x.2 → sV t x.1 c = true := by
 simp only [cu, Bool.and_eq_true, decide_eq_true_eq, List.all_eq_true] at h
 exact ⟨h.1.1.1, bQ h.1.1.2, h.1.2, h.2⟩
def dD (size : Int) (l : List Int) : Int := l.foldl (fun n a => n * size + a) 0
theorem IU (size : Int) (l : List Int) (a : Int) : dD size (l ++ [a]) = dD size l * size + a := by simp [dD]
theorem Xc {s : Int} (hs : 1 ≤ s) : ∀ n : Nat, 1 ≤ s ^ n
 | 0 => by simp
 | n + 1 => by
  have ih := Xc hs n
  rw [Int.pow_succ]
  have := Int.mul_le_mul ih hs (by omega) (by omega)
  omega
theorem Xd {size : Int} (hs : 1 ≤ size) : ∀ (l : List Int) (n : Int), 0 ≤ n → (∀ a, a ∈ l → 0 ≤ a ∧ a ≤ size - 1) → n * size ^ l.length ≤ l.foldl (fun n a => n * size + a) n ∧ l.foldl (fun n a => n * size + a) n < (n + 1) * size ^ l.length
 | [], n, hn, _ => by simp; omega
 | a :: l, n, hn, h => by
  have ha := h a (List.mem_cons_self ..)
  have hX := Xc hs l.length
  have h0 : 0 ≤ n * size := Int.mul_nonneg hn (by omega)
  obtain ⟨h1, h2⟩ := Xd hs l (n * size + a) (by omega) (fun b hb => h b (List.mem_cons_of_mem _ hb))
  rw [List.length_cons, Int.pow_succ, List.foldl_cons]
  have e1 : n * (size ^ l.length * size) = n * size * size ^ l.length := by rw [Int.mul_comm (size ^ l.length) size, Int.mul_assoc]
  have e2 : (n + 1) * (size ^ l.length * size) = (n * size + size) * size ^ l.length := by rw [Int.mul_comm (size ^ l.length) size, ← Int.mul_assoc, Int.add_mul, Int.one_mul]
  rw [e1, e2]
  have h3 : n * size * size ^ l.length ≤ (n * size + a) * size ^ l.length := Int.mul_le_mul_of_nonneg_right (by omega) (by omega)
  have h4 : (n * size + a + 1) * size ^ l.length ≤ (n * size + size) * size ^ l.length := Int.mul_le_mul_of_nonneg_right (by omega) (by omega)
  omega
theorem jl {size : Int} (hs : 1 ≤ size) (l : List Int) (h : ∀ a, a ∈ l → 0 ≤ a ∧ a ≤ size - 1) : 0 ≤ dD size l ∧ dD size l < size ^ l.length := by
 have := Xd hs l 0 (Int.le_refl _) h
 unfold dD
 rw [Int.zero_mul, Int.zero_add, Int.one_mul] at this
 exact this
open Go.Shelf Go.IntWalk
open Rep (Rd Own sz)
theorem QB (n : Int) (w : World) : Calls prog 227 #[.int .i64 n] w fun e w' => e = .returned (.bool (inB n 1 4)) ∧ w = w' := by
 go_enter func227, ntmps227
 go_wp2_with fail
 refine (iZ n 1 4 _).mono ?_
 rintro e w1 ⟨rfl, rfl⟩
 go_wp2_with fail
 go_ret
 exact ⟨rfl, rfl⟩
theorem Yp (n : Int) (w : World) : Calls prog 305 #[.int .i64 n] w fun e w' => e = .returned (.bool (inB n 1 4)) ∧ w = w' := by
 go_enter func305, ntmps305
 go_wp2_with fail
 refine (iZ n 1 4 _).mono ?_
 rintro e w1 ⟨rfl, rfl⟩
 go_wp2_with fail
 go_ret
 exact ⟨rfl, rfl⟩
theorem aat (n : Int) (w : World) : Calls prog 143 #[.int .i64 n] w fun e w' => e = .returned (.bool (inB n 1 10)) ∧ w = w' := by
 go_enter func143, ntmps143
 go_wp2_with fail
 refine (iZ n 1 10 _).mono ?_
 rintro e w1 ⟨rfl, rfl⟩
 go_wp2_with fail
 go_ret
 exact ⟨rfl, rfl⟩
theorem LY (n : Int) (w : World) : Calls prog 210 #[.int .i64 n] w fun e w' => e = .returned (.bool (inB n 1 4)) ∧ w = w' := by
 go_enter func210, ntmps210
 go_wp2_with fail
 refine (dw n 1 4 _).mono ?_
 rintro e w1 ⟨rfl, rfl⟩
 go_wp2_with fail
 go_ret
 exact ⟨rfl, rfl⟩
theorem Un (n : Int) (w : World) : Calls prog 302 #[.int .i64 n] w fun e w' => e = .returned (.bool (inB n 1 4)) ∧ w = w' := by
 go_enter func302, ntmps302
 go_wp2_with fail
 refine (dw n 1 4 _).mono ?_
 rintro e w1 ⟨rfl, rfl⟩
 go_wp2_with fail
 go_ret
 exact ⟨rfl, rfl⟩
theorem Ol (n : Int) (w : World) : Calls prog 355 #[.int .i64 n] w fun e w' => e = .returned (.bool false) ∧ w = w' := by
 have h : (n != n) = false := by simp
 go_enter func355, ntmps355
 go_wp2_with fail
 go_ret
 exact ⟨ak (by simp), rfl⟩
theorem Om (a b : Int) (w : World) : Calls prog 340 #[.int .i64 a, .int .i64 b] w fun e w' => e = .returned (.int .i64 (if a < b then -1 else if b < a then 1 else 0)) ∧ w = w' := by
 by_cases h1 : a < b
 · rw [if_pos h1]
   go_enter func340, ntmps340
   go_wp2_with (first | (go_at_call 355; refine (Ol _ _).mono ?_; rintro e w' ⟨rfl, rfl⟩))
   go_ret
   exact ⟨rfl, rfl⟩
 rw [if_neg h1]
 by_cases h2 : b < a
 · rw [if_pos h2]
   go_enter func340, ntmps340
   go_wp2_with (first | (go_at_call 355; refine (Ol _ _).mono ?_; rintro e w' ⟨rfl, rfl⟩))
   go_ret
   exact ⟨rfl, rfl⟩
 rw [if_neg h2]
 go_enter func340, ntmps340
 go_wp2_with (first | (go_at_call 355; refine (Ol _ _).mono ?_; rintro e w' ⟨rfl, rfl⟩))
 go_ret
 exact ⟨rfl, rfl⟩
theorem LZ (l m : List Int) (v0 v1 : Value) (w : World) (r0 : Rd w [v0] l) (r1 : Rd w [v1] m) :
 Calls prog 323 #[v0, v1] w fun e w' => e = .returned (.int .i64 (cmpL l m)) ∧ w = w' := by
 obtain ⟨a, c, rfl, h0⟩ := ah r0
 obtain ⟨a', c', rfl, h1⟩ := ah r1
 have hb0 := (aN h0).2
 have hb1 := (aN h1).2
 unfold maxLen at hb0 hb1
 have HR := qH r0
 have HM := qH r1
 clear r0 r1 h0 h1
 go_enter func323, ntmps323
 go_wp2_with fail
 go_loop [11] (fun i => ∃ k : Nat, k ≤ l.length ∧ i = .int .i64 k ∧ Hid (k ≤ m.length ∧ cmpL l m = cmpL (l.drop k) (m.drop k))) (fun i => l.length - (intOf i).toNat)
 case atStart => exact ⟨0, Nat.zero_le _, rfl, Nat.zero_le _, rfl⟩
 obtain ⟨k, hk, rfl, hc⟩ := hrel
 have hkm := hc.out.1
 by_cases hlt : k < l.length
 rotate_left
 · obtain rfl : k = l.length := by omega
   by_cases hm : l.length < m.length
   · have HC := qH (show cmpL l m = -1 by
      rw [hc.out.2, List.drop_length, List.drop_eq_getElem_cons hm]; rfl)
     go_wp2_with fail
     go_ret
     exact ⟨aU HC.out.symm, rfl⟩
   have HC := qH (show cmpL l m = 0 by
    rw [hc.out.2, List.drop_length, List.drop_of_length_le (by omega)]; rfl)
   go_wp2_with fail
   go_ret
   exact ⟨aU HC.out.symm, rfl⟩
 obtain ⟨b, o, rfl, q0, _⟩ := aI HR.out k hlt
 by_cases hm : k < m.length
 rotate_left
 · have HC := qH (show cmpL l m = 1 by
    rw [hc.out.2, List.drop_of_length_le (show m.length ≤ k by omega), List.drop_eq_getElem_cons hlt]; rfl)
   have hng : (m.length : Int) ≤ k := by omega
   go_wp2_with fail
   go_ret
   exact ⟨aU HC.out.symm, rfl⟩
 obtain ⟨b2, o2, rfl, q1, _⟩ := aI HM.out k hm
 have HD := qH (hc.out.2.trans (aar l m k hlt hm))
 have hng : ¬ ((m.length : Int) ≤ k) := by omega
 have hmi : (k : Int) < m.length := by omega
 generalize l[k] = A at *
 generalize m[k] = B at *
 go_wp2_with fail
 refine (Om A B _).mono ?_
 rintro e w1 ⟨rfl, rfl⟩
 by_cases h1 : A < B
 · rw [if_pos h1]
   have HC := qH (show cmpL l m = -1 by rw [HD.out, if_pos h1])
   go_wp2_with fail
   go_ret
   exact ⟨aU HC.out.symm, rfl⟩
 rw [if_neg h1]
 by_cases h2 : B < A
 · rw [if_pos h2]
   have HC := qH (show cmpL l m = 1 by rw [HD.out, if_neg h1, if_pos h2])
   go_wp2_with fail
   go_ret
   exact ⟨aU HC.out.symm, rfl⟩
 rw [if_neg h2]
 have HC := qH (show cmpL l m = cmpL (l.drop (k + 1)) (m.drop (k + 1)) by rw [HD.out, if_neg h1, if_neg h2])
 go_wp2_with fail
 go_round
 case rel => exact ⟨k + 1, by omega, by go_num, by omega, HC.out⟩
 simp [intOf]; omega
theorem Fg (l m : List Int) (v0 v1 : Value) (w : World) (r0 : Rd w [v0] l) (r1 : Rd w [v1] m) (hlm : l.length = m.length) :
 Calls prog 324 #[v0, v1] w fun e w' => e = .returned (.bool (BR l m)) ∧ Below w.heap.size w w' := by
 obtain ⟨a, c, rfl, h0⟩ := ah r0
 obtain ⟨a', c', rfl, h1⟩ := ah r1
 have hb0 := (aN h0).2
 unfold maxLen at hb0
 have HLM := qH hlm
 have HR := qH r0
 have HM := qH r1
 clear r0 r1 h0 h1 hlm
 go_enter func324, ntmps324
 go_wp2_with fail
 go_loopw [5] (fun i wl => ∃ k : Nat, k ≤ l.length ∧ i = .int .i64 k ∧ Hid (Below w.heap.size w wl) ∧ Hid (BR l m = BR (l.drop k) (m.drop k))) (fun i _ => l.length - (intOf i).toNat)
 case atStart => exact ⟨0, Nat.zero_le _, rfl, Below.refl _ _, rfl⟩
 obtain ⟨k, hk, rfl, hbl, hc⟩ := hrel
 have hsr := (St.start w).step hbl.out
 by_cases hlt : k < l.length
 rotate_left
 · obtain rfl : k = l.length := by omega
   have HC := qH (show BR l m = false by rw [hc.out, List.drop_length]; rfl)
   go_wp2_with fail
   go_ret
   exact ⟨ak HC.out.symm, hsr.bel⟩
 have hm : k < m.length := by have := HLM.out; omega
 obtain ⟨b, o, rfl, q0, _⟩ := aI HR.out k hlt
 obtain ⟨b2, o2, rfl, q1, _⟩ := aI HM.out k hm
 have HD := qH (hc.out.trans (aas l m k hlt hm))
 have hmi : (k : Int) < m.length := by omega
 have hli : (k : Int) < l.length := by omega
 generalize l[k] = A at *
 generalize m[k] = B at *
 obtain ⟨dW, dO⟩ := iQ hsr.bel q0 q1
 by_cases h1 : A = B
 · have h2 : (A != B) = false := by simp [h1]
   have HC := qH (show BR l m = BR (l.drop (k + 1)) (m.drop (k + 1)) by rw [HD.out, if_pos h1])
   clear h1
   go_upto_region 4 with fail
   refine iT (fun w' => cI w' b (o + k) A ∧ cI w' b2 (o2 + k) B) (.z [0,1,2,3,4,5,6,7,8] .nil) ?_ ?_
   · exact (iQ (hsr.drew).bel q0 q1:)
   have hs1 := hsr.drew
   clear dW dO
   have ahp : wr.heap.size ≤ (wr.drew).heap.size := by simp
   generalize wr.drew = wd2 at *
   refine aV ?_
   obtain ⟨dW, dO⟩ := iQ hs1.bel q0 q1
   refine iF ?_
   go_wp2_with fail
   go_roundw
   case rel => exact ⟨k + 1, by omega, by go_num, hs1.bel, HC.out⟩
   simp [intOf]; omega
 have h2 : (A != B) = true := by simp [h1]
 have HC := qH (show BR l m = decide (A < B) by rw [HD.out, if_neg h1])
 clear h1
 go_upto_region 4 with fail
 refine iT (fun w' => cI w' b (o + k) A ∧ cI w' b2 (o2 + k) B) (.z [0,1,2,3,4,5,6,7,8] .nil) ?_ ?_
 · exact (iQ (hsr.drew).bel q0 q1:)
 have hs3 := hsr.drew
 clear dW dO
 have Uo : wr.heap.size ≤ (wr.drew).heap.size := by simp
 generalize wr.drew = wd4 at *
 refine aV ?_
 obtain ⟨dW, dO⟩ := iQ hs3.bel q0 q1
 refine iF ?_
 go_upto_region 5 with fail
 refine iT (fun w' => cI w' b (o + k) A ∧ cI w' b2 (o2 + k) B) (.z [0,1,2,3,4,5,6,7,8,9] .nil) ?_ ?_
 · exact (iQ (hs3.drew).bel q0 q1:)
 have hs5 := hs3.drew
 clear dW dO
 have Uj : wd4.heap.size ≤ (wd4.drew).heap.size := by simp
 generalize wd4.drew = F7 at *
 refine aV ?_
 obtain ⟨dW, dO⟩ := iQ hs5.bel q0 q1
 refine iF ?_
 go_wp2_with fail
 go_ret
 exact ⟨ak HC.out.symm, hs5.bel⟩
theorem qN (size ar : Int) (l : List Int) (v0 : Value) (w : World) (r0 : Rd w [v0] l) (hs0 : -1000 ≤ size) (hs1 : size ≤ 1000000000) :
 Calls prog 287 #[.int .i64 size, .int .i64 ar, v0] w fun e w' => e = .returned (.bool (bG size l ar)) ∧ w = w' := by
 obtain ⟨a, c, rfl, h0⟩ := ah r0
 have hb0 := (aN h0).2
 unfold maxLen at hb0
 have HR := qH r0
 clear r0 h0
 go_enter func287, ntmps287
 go_wp2_with fail
 go_loop [7] (fun i => ∃ k : Nat, k ≤ l.length ∧ i = .int .i64 k ∧ Hid (∀ j (hj : j < l.length), j < k → inB l[j] 0 (size - 1) = true)) (fun i => l.length - (intOf i).toNat)
 case atStart => exact ⟨0, Nat.zero_le _, rfl, fun j _ hj => absurd hj (Nat.not_lt_zero _)⟩
 obtain ⟨k, hk, rfl, hr⟩ := hrel
 by_cases hlt : k < l.length
 · obtain ⟨b, o, rfl, q0, _⟩ := aI HR.out k hlt
   go_wp2_with fail
   refine (dw l[k] 0 (size - 1) _).mono ?_
   rintro e w1 ⟨rfl, rfl⟩
   cases hq : inB l[k] 0 (size - 1)
   · have HQ := qH (show bG size l ar = false by
      simp only [bG, Bool.and_eq_false_iff]
      exact .inr (List.all_eq_false.2 ⟨_, List.getElem_mem hlt, by simp [hq]⟩))
     clear hq
     go_wp2_with fail
     go_ret
     exact ⟨ak HQ.out.symm, rfl⟩
   have HQ := qH hq
   clear hq
   go_wp2_with fail
   go_round
   case rel =>
    refine ⟨k + 1, by omega, by go_num, fun j hj hjk => ?_⟩
    rcases Nat.lt_or_ge j k with h | h
    · exact hr.out j hj h
    obtain rfl : j = k := by omega
    exact HQ.out
   simp [intOf]; omega
 obtain rfl : k = l.length := by omega
 have HA := qH (show l.all (fun a => inB a 0 (size - 1)) = true by
  rw [List.all_eq_true]
  intro y hy
  obtain ⟨j, hj, rfl⟩ := List.getElem_of_mem hy
  exact hr.out j hj hj)
 by_cases hn : (l.length : Int) = ar
 · have hn1 : ((l.length : Int) == ar) = true := by simpa using hn
   have HQ := qH (show bG size l ar = true by unfold bG; rw [HA.out, decide_eq_true hn]; rfl)
   clear hn
   go_wp2_with fail
   go_ret
   exact ⟨ak (by rw [HQ.out] <;> first | rfl | simp [hn1]), rfl⟩
 have hn1 : ((l.length : Int) == ar) = false := by simpa using hn
 have HQ := qH (show bG size l ar = false by unfold bG; rw [decide_eq_false hn]; rfl)
 clear hn
 go_wp2_with fail
 go_ret
 exact ⟨ak (by rw [HQ.out] <;> first | rfl | simp [hn1]), rfl⟩
theorem qO {p n : Int} {l : List Int} (h : bG p l n = true) : (l.length : Int) = n := by
 simp only [bG, Bool.and_eq_true, decide_eq_true_eq] at h
 exact h.1
theorem Ur (size : Int) (r : bH) (v0 v1 : Value) (w : World) (hr : Rd w [v0, v1] r) :
 Calls prog 266 #[.int .i64 size, .agg #[v0, v1]] w fun e w' => e = .returned (.bool (fJ size r)) ∧ Below w.heap.size w w' := by
 obtain ⟨ar, l⟩ := r
 have z7 := au rfl hr
 obtain ⟨rfl, ahq⟩ := aG z7.1
 obtain ⟨a, c, rfl, hRl⟩ := ah z7.2
 clear hr z7
 have hb0 := (aN hRl).2
 unfold maxLen at hb0
 have HL := qH hRl
 clear hRl
 have hs8 := (St.start w).alloc #[.int .i64 ar, .slice a l.length c] 118 (n := w.heap.size) (by simp)
 obtain ⟨aF, aH⟩ := hs8.c2 0 0 0 1
 go_enter func266, ntmps266
 go_wp2_with fail
 refine (QB size _).mono ?_
 rintro e w9 ⟨rfl, rfl, rfl⟩
 cases h1 : inB size 1 4
 · have H1 := qH (show fJ size (ar, l) = false by simp only [fJ, h1, Bool.false_and])
   clear h1
   go_wp2_with fail
   go_ret
   exact ⟨ak H1.out.symm, hs8.bel⟩
 have hs := bQ h1
 have H1 := qH h1
 clear h1
 go_wp2_with fail
 refine (Yp ar _).mono ?_
 rintro e w10 ⟨rfl, rfl, rfl⟩
 cases h2 : inB ar 1 4
 · have H2 := qH (show fJ size (ar, l) = false by simp only [fJ, h2, Bool.and_false, Bool.false_and])
   clear h2
   go_wp2_with fail
   go_ret
   exact ⟨ak H2.out.symm, hs8.bel⟩
 have har := bQ h2
 have H2 := qH h2
 have H3 := qH (show fJ size (ar, l) = wH size ar l by simp only [fJ, H1.out, h2, Bool.true_and])
 clear h2
 go_wp2_with fail
 go_loopw [19] (fun i wl => ∃ k : Nat, k ≤ l.length ∧ i = .int .i64 k ∧ Hid (Below ((w.alloc (.cells #[.int .i64 ar, .slice a l.length c] 118))).heap.size ((w.alloc (.cells #[.int .i64 ar, .slice a l.length c] 118))) wl) ∧ Hid (∀ j, j < k → nX size ar l j = true)) (fun i _ => l.length - (intOf i).toNat)
 case atStart => exact ⟨0, Nat.zero_le _, rfl, Below.refl _ _, fun j hj => absurd hj (Nat.not_lt_zero _)⟩
 obtain ⟨k, hk, rfl, hbl, ht⟩ := hrel
 have zV := hbl.out
 have alQ : w.heap.size + 1 ≤ wr.heap.size := hZ zV
 have hs11 := hs8.step zV
 clear aF aH
 obtain ⟨aF, aH⟩ := hs11.c2 0 0 0 1
 have qh := qH zV
 clear zV hbl
 by_cases hlt : k < l.length
 rotate_left
 · obtain rfl : k = l.length := by omega
   have HT := qH (Ew ht.out)
   go_wp2_with fail
   go_ret
   exact ⟨ak (by rw [H3.out, HT.out]), hs11.bel⟩
 obtain ⟨b, o, u0, rfl, f0, hx⟩ := bF rfl (aS hs11.bel HL.out) k hlt
 have HX := qH hx
 clear hx
 obtain ⟨a0, c0, rfl, _⟩ := ah HX.out
 go_wp2_with fail
 refine (oQ size l[k] _ ar _ HX.out (by omega) (by omega)).mono ?_
 rintro e w12 ⟨rfl, uN⟩
 have Us : wr.heap.size ≤ w12.heap.size := hZ uN
 have fV := hs11.step uN
 have auS := qC uN f0
 clear f0
 have Oi := qH (qh.out.trans ((uN).mono qh.out.size))
 clear qh
 have alR := qH (Rd.mono HX.out uN)
 clear HX
 clear aF aH
 obtain ⟨aF, aH⟩ := fV.c2 0 0 0 1
 cases h4 : bG size l[k] ar
 · have H4 := qH (show fJ size (ar, l) = false by
    rw [H3.out]
    exact yJ k hlt (by simp [nX, List.getD, hlt, h4]))
   clear h4
   go_wp2_with fail
   go_ret
   exact ⟨ak H4.out.symm, fV.bel⟩
 have H4 := qH h4
 clear h4
 cases k with
 | zero =>
  go_wp2_with fail
  go_roundw
  case rel =>
   refine ⟨1, by omega, by go_num, Oi.out, fun j hj => ?_⟩
   obtain rfl : j = 0 := by omega
   simp [nX, List.getD, hlt, H4.out]
  simp [intOf]; omega
 | succ j =>
  obtain ⟨b', o', u1, e1, f1, hy⟩ := bF rfl (aS fV.bel HL.out) j (by omega)
  simp only [Option.some.injEq, Addr.mk.injEq, and_true] at e1
  obtain ⟨rfl, rfl⟩ := e1
  have HY := qH hy
  clear hy
  obtain ⟨a1, c1, rfl, _⟩ := ah HY.out
  have ej : ((↑(j + 1) : Int) - 1).toNat = j := by omega
  have ej1 : (0 : Int) ≤ (↑(j + 1) : Int) - 1 := by omega
  have ej2 : (↑(j + 1) : Int) - 1 < l.length := by omega
  go_wp2_with fail
  refine (LZ l[j] l[j + 1] _ _ _ HY.out alR.out).mono ?_
  rintro e PU ⟨rfl, rfl, rfl⟩
  have hcb := aaq l[j] l[j + 1]
  by_cases h5 : cmpL l[j] l[j + 1] < 0
  · have hT := qH (show nX size ar l (j + 1) = true by simp [nX, List.getD, hlt, H4.out, show j < l.length by omega, h5])
    have h6 : ¬ (0 ≤ cmpL l[j] l[j + 1]) := by omega
    go_wp2_with fail
    go_roundw
    case rel =>
     refine ⟨j + 2, by omega, by go_num, Oi.out, fun i hi => ?_⟩
     rcases Nat.lt_or_ge i (j + 1) with h | h
     · exact ht.out i h
     obtain rfl : i = j + 1 := by omega
     exact hT.out
    simp [intOf]; omega
  have H5 := qH (show fJ size (ar, l) = false by
   rw [H3.out]
   exact yJ (j + 1) hlt (by simp [nX, List.getD, hlt, show j < l.length by omega, h5]))
  have h6 : 0 ≤ cmpL l[j] l[j + 1] := by omega
  go_wp2_with fail
  go_ret
  exact ⟨ak H5.out.symm, fV.bel⟩
theorem Xe (size : Int) (r : bH) (pb po : Nat) (v0 v1 : Value) (w : World) (hr : Rd w [v0, v1] r) (hc0 : w.cell? ⟨pb, po, none⟩ = some v0) (hc1 : w.cell? ⟨pb, po + 1, none⟩ = some v1) :
 Calls prog 259 #[.int .i64 size, .pointer (some ⟨pb, po, none⟩)] w fun e w' => e = .returned (.bool (fJ size r)) ∧ Below w.heap.size w w' := by
 obtain ⟨ar, l⟩ := r
 have z18 := au rfl hr
 obtain ⟨rfl, ahq⟩ := aG z18.1
 obtain ⟨a, c, rfl, hRl⟩ := ah z18.2
 clear hr z18
 have hb0 := (aN hRl).2
 unfold maxLen at hb0
 have HL := qH hRl
 clear hRl
 have gI := qC (St.start w).bel hc0
 clear gI
 obtain ⟨gI, iD⟩ := iQ (St.start w).bel hc0 hc1
 go_enter func259, ntmps259
 go_wp2_with fail
 refine (LY size _).mono ?_
 rintro e YZ ⟨rfl, rfl, rfl⟩
 cases h1 : inB size 1 4
 · have H1 := qH (show fJ size (ar, l) = false by simp only [fJ, h1, Bool.false_and])
   clear h1
   go_wp2_with fail
   go_ret
   exact ⟨ak H1.out.symm, (St.start w).bel⟩
 have hs := bQ h1
 have H1 := qH h1
 clear h1
 go_wp2_with fail
 refine (Un ar _).mono ?_
 rintro e w20 ⟨rfl, rfl, rfl⟩
 cases h2 : inB ar 1 4
 · have H2 := qH (show fJ size (ar, l) = false by simp only [fJ, h2, Bool.and_false, Bool.false_and])
   clear h2
   go_wp2_with fail
   go_ret
   exact ⟨ak H2.out.symm, (St.start w).bel⟩
 have har := bQ h2
 have H2 := qH h2
 have H3 := qH (show fJ size (ar, l) = wH size ar l by simp only [fJ, H1.out, h2, Bool.true_and])
 clear h2
 go_wp2_with fail
 go_loopw [5] (fun i wl => ∃ k : Nat, k ≤ l.length ∧ i = .int .i64 k ∧ Hid (Below w.heap.size w wl) ∧ Hid (∀ j, j < k → nX size ar l j = true)) (fun i _ => l.length - (intOf i).toNat)
 case atStart => exact ⟨0, Nat.zero_le _, rfl, Below.refl _ _, fun j hj => absurd hj (Nat.not_lt_zero _)⟩
 obtain ⟨k, hk, rfl, hbl, ht⟩ := hrel
 have hsr := (St.start w).step hbl.out
 obtain ⟨gI, iD⟩ := iQ hsr.bel hc0 hc1
 clear hbl
 by_cases hlt : k < l.length
 rotate_left
 · obtain rfl : k = l.length := by omega
   have HT := qH (Ew ht.out)
   have hkl : ¬ ((l.length : Int) < l.length) := by omega
   go_wp2_with fail
   go_ret
   exact ⟨ak (by rw [H3.out, HT.out]), hsr.bel⟩
 obtain ⟨b, o, u0, rfl, f0, hx⟩ := bF rfl HL.out k hlt
 have HX := qH hx
 clear hx
 obtain ⟨a0, c0, rfl, _⟩ := ah HX.out
 clear gI iD
 obtain ⟨gI, iD, f0_⟩ := fQ hsr.bel hc0 hc1 f0
 have hkl : (k : Int) < l.length := by omega
 cases h4 : bG size l[k] ar
 · have H4 := qH (show fJ size (ar, l) = false by
    rw [H3.out]
    exact yJ k hlt (by simp [nX, List.getD, hlt, h4]))
   go_upto_region 6 with fail
   refine iT (fun w' => cI w' pb po ar ∧ cV w' pb (po + 1) (.slice (some ⟨b, o, none⟩) l.length c) ∧ cV w' b (o + k) (.slice a0 l[k].length c0)) (.z [0,1,2,3,4,5,6,7,8,9,10,11] (.hard 12 (.z [13,14,15,16,17,18,19,20,21,22,23,24,25,26,27,28,29,30,31,32] (.hard 33 (.z [34,35,36] .nil))))) ?_ ?_
   · exact (fQ (hsr.drew).bel hc0 hc1 f0:)
   have qw := hsr.drew
   clear gI iD f0_
   have aoi : wr.heap.size ≤ (wr.drew).heap.size := by simp
   generalize wr.drew = axe at *
   refine aV ?_
   refine gX fun K hK => ?_
   go_wp2_with (go_at_call 287; refine (qN size ar l[k] _ _ (Rd.mono HX.out qw.bel) (by omega) (by omega)).mono ?_; rintro e w23 ⟨rfl, rfl, rfl⟩)
   refine ⟨(fQ qw.bel hc0 hc1 f0:), ?_⟩
   refine aV ?_
   refine eG rfl (by rfl) ?_ ?_
   · exact (fQ qw.bel hc0 hc1 f0:)
   (try simp only [Act.put, sI, sZ, sS])
   refine aV ?_
   obtain ⟨gI, iD, f0_⟩ := fQ qw.bel hc0 hc1 f0
   refine iF ?_
   go_wp2_with fail
   go_ret
   exact ⟨ak H4.out.symm, qw.bel⟩
 have H4 := qH h4
 by_cases hk0 : k = 0
 · have hk1 : ¬ ((0 : Int) < k) := by omega
   have HK0 := qH hk0
   have HD := qH (show decide (0 < k) = false by simp [hk0])
   clear hk0 hk1
   go_upto_region 6 with fail
   refine iT (fun w' => cI w' pb po ar ∧ cV w' pb (po + 1) (.slice (some ⟨b, o, none⟩) l.length c) ∧ cV w' b (o + k) (.slice a0 l[k].length c0)) (.z [0,1,2,3,4,5,6,7,8,9,10,11] (.hard 12 (.z [13,14,15,16,17,18,19,20,21,22,23,24,25,26,27,28,29,30,31,32] (.hard 33 (.z [34,35,36] .nil))))) ?_ ?_
   · exact (fQ (hsr.drew).bel hc0 hc1 f0:)
   have Ez := hsr.drew
   clear gI iD f0_
   have Xf : wr.heap.size ≤ (wr.drew).heap.size := by simp
   generalize wr.drew = ahr at *
   refine aV ?_
   (try (rw [HD.out]; refine aV ?_))
   refine gX fun K hK => ?_
   go_wp2_with (go_at_call 287; refine (qN size ar l[k] _ _ (Rd.mono HX.out Ez.bel) (by omega) (by omega)).mono ?_; rintro e w26 ⟨rfl, rfl, rfl⟩)
   refine ⟨(fQ Ez.bel hc0 hc1 f0:), ?_⟩
   refine aV ?_
   (try (rw [HD.out]; refine aV ?_))
   refine eG rfl (by rfl) ?_ ?_
   · exact (fQ Ez.bel hc0 hc1 f0:)
   (try simp only [Act.put, sI, sZ, sS])
   refine aV ?_
   (try (rw [HD.out]; refine aV ?_))
   obtain ⟨gI, iD, f0_⟩ := fQ Ez.bel hc0 hc1 f0
   refine iF ?_
   go_wp2_with fail
   go_roundw
   case rel =>
    refine ⟨k + 1, by omega, by go_num, Ez.bel, fun j hj => ?_⟩
    have hk0 := HK0.out
    obtain rfl : j = k := by omega
    unfold nX
    rw [show l.getD j [] = l[j] by simp [List.getD, hlt], H4.out, decide_eq_true hk0]
    rfl
   simp [intOf]; omega
 obtain ⟨j, hkj⟩ : ∃ j, k = j + 1 := ⟨k - 1, by omega⟩
 have HD := qH (show decide (0 < k) = true by simp [hkj])
 have hjl : j < l.length := by omega
 obtain ⟨b', o', u1, e1, f1, hy⟩ := bF rfl HL.out j hjl
 simp only [Option.some.injEq, Addr.mk.injEq, and_true] at e1
 obtain ⟨rfl, rfl⟩ := e1
 have HY := qH hy
 clear hy
 obtain ⟨a1, c1, rfl, _⟩ := ah HY.out
 clear gI iD f0_
 obtain ⟨gI, iD, f0_, f1_⟩ := jc hsr.bel hc0 hc1 f0 f1
 have HLE := qH (show l[j].length = l[k].length by
  have h := ht.out j (by omega)
  simp only [nX, Bool.and_eq_true] at h
  have h9 := h.1
  rw [show l.getD j [] = l[j] by simp [List.getD, show j < l.length by omega, show k - 1 = j by omega, hk0]] at h9
  have e1 := qO h9
  have e2 := qO h4
  omega)
 have ej : (k : Int) - 1 = (j : Int) := by omega
 have ejw : IntKind.i64.wrap (j : Int) = (j : Int) := i64_in _ (by omega)
 have HKJ := qH hkj
 clear hkj
 cases h5 : BR l[j] l[k]
 · have H5 := qH (show fJ size (ar, l) = false by
    have hkj := HKJ.out
    have h6 := Oj _ _ HLE.out
    rw [h5] at h6
    rw [H3.out]
    exact yJ k hlt (by simp [nX, List.getD, hlt, show j < l.length by omega, show k - 1 = j by omega, hk0]; exact fun _ => by simpa using h6.symm))
   go_upto_region 6 with fail
   refine iT (fun w' => cI w' pb po ar ∧ cV w' pb (po + 1) (.slice (some ⟨b, o, none⟩) l.length c) ∧ cV w' b (o + k) (.slice a0 l[k].length c0) ∧ cV w' b (o + j) (.slice a1 l[j].length c1)) (.z [0,1,2,3,4,5,6,7,8,9,10,11] (.hard 12 (.z [13,14,15,16,17,18,19,20,21,22,23,24,25,26,27,28,29,30,31,32] (.hard 33 (.z [34,35,36] .nil))))) ?_ ?_
   · exact (jc (hsr.drew).bel hc0 hc1 f0 f1:)
   have lZ := hsr.drew
   clear gI iD f0_ f1_
   have aok : wr.heap.size ≤ (wr.drew).heap.size := by simp
   generalize wr.drew = aqK at *
   refine aV ?_
   (try (rw [HD.out]; refine aV ?_))
   refine gX fun K hK => ?_
   go_wp2_with (go_at_call 287; refine (qN size ar l[k] _ _ (Rd.mono HX.out lZ.bel) (by omega) (by omega)).mono ?_; rintro e w29 ⟨rfl, rfl, rfl⟩)
   refine ⟨(jc lZ.bel hc0 hc1 f0 f1:), ?_⟩
   refine aV ?_
   (try (rw [HD.out]; refine aV ?_))
   refine gX fun K hK => ?_
   go_wp2_with (go_at_call 324; refine (Fg l[j] l[k] _ _ _ (Rd.mono HY.out lZ.bel) (Rd.mono HX.out lZ.bel) HLE.out).mono ?_; rintro e w30 ⟨rfl, QC⟩)
   have ahs : aqK.heap.size ≤ w30.heap.size := hZ QC
   have kM := lZ.step QC
   refine ⟨(jc kM.bel hc0 hc1 f0 f1:), ?_⟩
   refine aV ?_
   (try (rw [HD.out]; refine aV ?_))
   obtain ⟨gI, iD, f0_, f1_⟩ := jc kM.bel hc0 hc1 f0 f1
   refine iF ?_
   go_wp2_with fail
   go_ret
   exact ⟨ak H5.out.symm, kM.bel⟩
 have H5 := qH (show nX size ar l k = true by
  have hkj := HKJ.out
  have h6 := Oj _ _ HLE.out
  rw [h5] at h6
  simp [nX, List.getD, hlt, H4.out, show j < l.length by omega, show k - 1 = j by omega, hk0]
  simpa using h6.symm)
 go_upto_region 6 with fail
 refine iT (fun w' => cI w' pb po ar ∧ cV w' pb (po + 1) (.slice (some ⟨b, o, none⟩) l.length c) ∧ cV w' b (o + k) (.slice a0 l[k].length c0) ∧ cV w' b (o + j) (.slice a1 l[j].length c1)) (.z [0,1,2,3,4,5,6,7,8,9,10,11] (.hard 12 (.z [13,14,15,16,17,18,19,20,21,22,23,24,25,26,27,28,29,30,31,32] (.hard 33 (.z [34,35,36] .nil))))) ?_ ?_
 · exact (jc (hsr.drew).bel hc0 hc1 f0 f1:)
 have rW := hsr.drew
 clear gI iD f0_ f1_
 have Xg : wr.heap.size ≤ (wr.drew).heap.size := by simp
 generalize wr.drew = Ut at *
 refine aV ?_
 (try (rw [HD.out]; refine aV ?_))
 refine gX fun K hK => ?_
 go_wp2_with (go_at_call 287; refine (qN size ar l[k] _ _ (Rd.mono HX.out rW.bel) (by omega) (by omega)).mono ?_; rintro e w34 ⟨rfl, rfl, rfl⟩)
 refine ⟨(jc rW.bel hc0 hc1 f0 f1:), ?_⟩
 refine aV ?_
 (try (rw [HD.out]; refine aV ?_))
 refine gX fun K hK => ?_
 go_wp2_with (go_at_call 324; refine (Fg l[j] l[k] _ _ _ (Rd.mono HY.out rW.bel) (Rd.mono HX.out rW.bel) HLE.out).mono ?_; rintro e w35 ⟨rfl, IW⟩)
 have ahu : Ut.heap.size ≤ w35.heap.size := hZ IW
 have F9 := rW.step IW
 refine ⟨(jc F9.bel hc0 hc1 f0 f1:), ?_⟩
 refine aV ?_
 (try (rw [HD.out]; refine aV ?_))
 obtain ⟨gI, iD, f0_, f1_⟩ := jc F9.bel hc0 hc1 f0 f1
 refine iF ?_
 go_wp2_with fail
 go_roundw
 case rel =>
  refine ⟨k + 1, by omega, by go_num, F9.bel, fun i hi => ?_⟩
  rcases Nat.lt_or_ge i k with h | h
  · exact ht.out i h
  obtain rfl : i = k := by omega
  exact H5.out
 simp [intOf]; omega
def IX (g : Nat) (cb : Array Value) (w : World) (l : List (List Int)) (q : List Int → Bool) : Prop :=
 ∀ (W : World) (x : List Int) (u0 : Value), Below w.heap.size w W → Rd W [u0] x → x ∈ l → Calls prog g (#[u0] ++ cb) W fun e w' => e = .returned (.bool (q x)) ∧ Below W.heap.size W w'
def Oo (g : Nat) (cb : Array Value) (w : World) (l : List bH) (q : bH → Bool) : Prop :=
 ∀ (W : World) (x : bH) (u0 u1 : Value), Below w.heap.size w W → Rd W [u0, u1] x → x ∈ l → Calls prog g (#[.agg #[u0, u1]] ++ cb) W fun e w' => e = .returned (.bool (q x)) ∧ Below W.heap.size W w'
def L6 (g : Nat) (cb : Array Value) (w : World) (l : List nI) (q : nI → Bool) : Prop :=
 ∀ (W : World) (x : nI) (u0 u1 : Value), Below w.heap.size w W → Rd W [u0, u1] x → x ∈ l → Calls prog g (#[.agg #[u0, u1]] ++ cb) W fun e w' => e = .returned (.bool (q x)) ∧ Below W.heap.size W w'
theorem Oq (l : List (List Int)) (v : Value) (g : Nat) (cb : Array Value) (q : (List Int) → Bool) (w : World) (r : Rd w [v] l)
 (eg : ∀ args w, (callFunc g args).run prog w = .ok (.enter g args) w) (hby : IX g cb w l q) :
 Calls prog 297 #[v, .func (.func g) #[] cb] w fun e w' => e = .returned (.int .i64 (dN q l)) ∧ Below w.heap.size w w' := by
 obtain ⟨a, c, rfl, h⟩ := ah r
 clear r
 have hb := (aN h).2
 unfold maxLen at hb
 generalize hn : l.length = n at *
 have HN := qH hn
 have HH := qH h
 have CO := qH hby
 clear hn h hby
 go_enter func297, ntmps297
 go_wp2_with fail
 go_loopw [8] (fun i wr => ∃ k : Nat, k ≤ n ∧ i = .int .i64 k ∧ Hid (Below w.heap.size w wr) ∧ Hid (∀ j (hj : j < l.length), j < k → q l[j] = false)) (fun i _ => n - (intOf i).toNat)
 case atStart => exact ⟨0, Nat.zero_le _, rfl, Below.refl _ _, fun j _ hj => absurd hj (Nat.not_lt_zero _)⟩
 obtain ⟨k, hk, rfl, hbl, hr⟩ := hrel
 by_cases hlt : k < n
 rotate_left
 · obtain rfl : k = n := by omega
   go_wp2_with fail
   go_ret
   refine ⟨aU ?_, hbl.out⟩
   rw [nM (fun j hj _ => hr.out j hj (by have := HN.out; omega))]
 have k1 : k < l.length := by rw [HN.out]; exact hlt
 obtain ⟨b, o, u0, rfl, q0, hx⟩ := bF rfl (aS hbl.out HH.out) k k1
 have HX := qH hx
 clear hx
 go_wp2_with fail
 go_at_fn g
 refine (CO.out _ l[k] _ hbl.out HX.out (List.getElem_mem k1)).mono ?_
 rintro e w1 ⟨rfl, hb1⟩
 cases hq : q l[k]
 rotate_left
 · have HQ := qH hq
   clear hq
   go_wp2_with fail
   go_ret
   exact ⟨aU (nK k1 (fun j hj h => hr.out j hj h) HQ.out).symm, hbl.out.trans (hb1.mono hbl.out.size)⟩
 have HQ := qH hq
 clear hq
 go_wp2_with fail
 go_roundw
 case rel =>
  refine ⟨k + 1, by omega, by go_num, hbl.out.trans (hb1.mono hbl.out.size), ?_⟩
  intro j hj hjk
  rcases Nat.lt_or_ge j k with h | h
  · exact hr.out j hj h
  obtain rfl : j = k := by omega
  exact HQ.out
 simp [intOf]; omega
theorem QD (l : List (bH)) (v : Value) (g : Nat) (cb : Array Value) (q : (bH) → Bool) (w : World) (r : Rd w [v] l)
 (eg : ∀ args w, (callFunc g args).run prog w = .ok (.enter g args) w) (hby : Oo g cb w l q) :
 Calls prog 126 #[v, .func (.func g) #[] cb] w fun e w' => e = .returned (.int .i64 (dN q l)) ∧ Below w.heap.size w w' := by
 obtain ⟨a, c, rfl, h⟩ := ah r
 clear r
 have hb := (aN h).2
 unfold maxLen at hb
 generalize hn : l.length = n at *
 have HN := qH hn
 have HH := qH h
 have CO := qH hby
 clear hn h hby
 go_enter func126, ntmps126
 go_wp2_with fail
 go_loopw [8] (fun i wr => ∃ k : Nat, k ≤ n ∧ i = .int .i64 k ∧ Hid (Below w.heap.size w wr) ∧ Hid (∀ j (hj : j < l.length), j < k → q l[j] = false)) (fun i _ => n - (intOf i).toNat)
 case atStart => exact ⟨0, Nat.zero_le _, rfl, Below.refl _ _, fun j _ hj => absurd hj (Nat.not_lt_zero _)⟩
 obtain ⟨k, hk, rfl, hbl, hr⟩ := hrel
 by_cases hlt : k < n
 rotate_left
 · obtain rfl : k = n := by omega
   go_wp2_with fail
   go_ret
   refine ⟨aU ?_, hbl.out⟩
   rw [nM (fun j hj _ => hr.out j hj (by have := HN.out; omega))]
 have k1 : k < l.length := by rw [HN.out]; exact hlt
 obtain ⟨b, o, u0, u1, rfl, q0, q1, hx⟩ := dP rfl (aS hbl.out HH.out) k k1
 have HX := qH hx
 clear hx
 go_wp2_with fail
 go_at_fn g
 refine (CO.out _ l[k] _ _ hbl.out HX.out (List.getElem_mem k1)).mono ?_
 rintro e w1 ⟨rfl, hb1⟩
 cases hq : q l[k]
 rotate_left
 · have HQ := qH hq
   clear hq
   go_wp2_with fail
   go_ret
   exact ⟨aU (nK k1 (fun j hj h => hr.out j hj h) HQ.out).symm, hbl.out.trans (hb1.mono hbl.out.size)⟩
 have HQ := qH hq
 clear hq
 go_wp2_with fail
 go_roundw
 case rel =>
  refine ⟨k + 1, by omega, by go_num, hbl.out.trans (hb1.mono hbl.out.size), ?_⟩
  intro j hj hjk
  rcases Nat.lt_or_ge j k with h | h
  · exact hr.out j hj h
  obtain rfl : j = k := by omega
  exact HQ.out
 simp [intOf]; omega
theorem Fh (l : List (nI)) (v : Value) (g : Nat) (cb : Array Value) (q : (nI) → Bool) (w : World) (r : Rd w [v] l)
 (eg : ∀ args w, (callFunc g args).run prog w = .ok (.enter g args) w) (hby : L6 g cb w l q) :
 Calls prog 267 #[v, .func (.func g) #[] cb] w fun e w' => e = .returned (.int .i64 (dN q l)) ∧ Below w.heap.size w w' := by
 obtain ⟨a, c, rfl, h⟩ := ah r
 clear r
 have hb := (aN h).2
 unfold maxLen at hb
 generalize hn : l.length = n at *
 have HN := qH hn
 have HH := qH h
 have CO := qH hby
 clear hn h hby
 go_enter func267, ntmps267
 go_wp2_with fail
 go_loopw [8] (fun i wr => ∃ k : Nat, k ≤ n ∧ i = .int .i64 k ∧ Hid (Below w.heap.size w wr) ∧ Hid (∀ j (hj : j < l.length), j < k → q l[j] = false)) (fun i _ => n - (intOf i).toNat)
 case atStart => exact ⟨0, Nat.zero_le _, rfl, Below.refl _ _, fun j _ hj => absurd hj (Nat.not_lt_zero _)⟩
 obtain ⟨k, hk, rfl, hbl, hr⟩ := hrel
 by_cases hlt : k < n
 rotate_left
 · obtain rfl : k = n := by omega
   go_wp2_with fail
   go_ret
   refine ⟨aU ?_, hbl.out⟩
   rw [nM (fun j hj _ => hr.out j hj (by have := HN.out; omega))]
 have k1 : k < l.length := by rw [HN.out]; exact hlt
 obtain ⟨b, o, u0, u1, rfl, q0, q1, hx⟩ := dP rfl (aS hbl.out HH.out) k k1
 have HX := qH hx
 clear hx
 go_wp2_with fail
 go_at_fn g
 refine (CO.out _ l[k] _ _ hbl.out HX.out (List.getElem_mem k1)).mono ?_
 rintro e w1 ⟨rfl, hb1⟩
 cases hq : q l[k]
 rotate_left
 · have HQ := qH hq
   clear hq
   go_wp2_with fail
   go_ret
   exact ⟨aU (nK k1 (fun j hj h => hr.out j hj h) HQ.out).symm, hbl.out.trans (hb1.mono hbl.out.size)⟩
 have HQ := qH hq
 clear hq
 go_wp2_with fail
 go_roundw
 case rel =>
  refine ⟨k + 1, by omega, by go_num, hbl.out.trans (hb1.mono hbl.out.size), ?_⟩
  intro j hj hjk
  rcases Nat.lt_or_ge j k with h | h
  · exact hr.out j hj h
  obtain rfl : j = k := by omega
  exact HQ.out
 simp [intOf]; omega
theorem jR (l : List (List Int)) (v : Value) (g : Nat) (cb : Array Value) (q : (List Int) → Bool) (w : World) (r : Rd w [v] l)
 (eg : ∀ args w, (callFunc g args).run prog w = .ok (.enter g args) w) (hby : IX g cb w l q) :
 Calls prog 174 #[v, .func (.func g) #[] cb] w fun e w' => e = .returned (.bool (l.any q)) ∧ Below w.heap.size w w' := by
 obtain ⟨a, c, rfl, _⟩ := ah r
 have HR := qH r
 have CO := qH hby
 clear r hby
 go_enter func174, ntmps174
 go_wp2_with fail
 refine (Oq l _ g cb q _ HR.out eg CO.out).mono ?_
 rintro e w1 ⟨rfl, hb1⟩
 have hlo := qK q l
 go_wp2_with fail
 go_ret
 exact ⟨ak (oG q l), hb1⟩
theorem zW (l : List (bH)) (v : Value) (g : Nat) (cb : Array Value) (q : (bH) → Bool) (w : World) (r : Rd w [v] l)
 (eg : ∀ args w, (callFunc g args).run prog w = .ok (.enter g args) w) (hby : Oo g cb w l q) :
 Calls prog 63 #[v, .func (.func g) #[] cb] w fun e w' => e = .returned (.bool (l.any q)) ∧ Below w.heap.size w w' := by
 obtain ⟨a, c, rfl, _⟩ := ah r
 have HR := qH r
 have CO := qH hby
 clear r hby
 go_enter func63, ntmps63
 go_wp2_with fail
 refine (QD l _ g cb q _ HR.out eg CO.out).mono ?_
 rintro e w1 ⟨rfl, hb1⟩
 have hlo := qK q l
 go_wp2_with fail
 go_ret
 exact ⟨ak (oG q l), hb1⟩
theorem uO (l : List (nI)) (v : Value) (g : Nat) (cb : Array Value) (q : (nI) → Bool) (w : World) (r : Rd w [v] l)
 (eg : ∀ args w, (callFunc g args).run prog w = .ok (.enter g args) w) (hby : L6 g cb w l q) :
 Calls prog 144 #[v, .func (.func g) #[] cb] w fun e w' => e = .returned (.bool (l.any q)) ∧ Below w.heap.size w w' := by
 obtain ⟨a, c, rfl, _⟩ := ah r
 have HR := qH r
 have CO := qH hby
 clear r hby
 go_enter func144, ntmps144
 go_wp2_with fail
 refine (Fh l _ g cb q _ HR.out eg CO.out).mono ?_
 rintro e w1 ⟨rfl, hb1⟩
 have hlo := qK q l
 go_wp2_with fail
 go_ret
 exact ⟨ak (oG q l), hb1⟩
theorem Dp (size : Int) (b : Nat) (w : World) (l : List bH) (hc0 : w.cell? ⟨b, 0, none⟩ = some (.int .i64 size)) :
 Oo 265 #[.pointer (some ⟨b, 0, none⟩)] w l (fun r => !fJ size r) := by
 intro W x v0 v1 hb hx _
 have hc0' := qC hb hc0
 show Calls prog 265 #[_, .pointer (some ⟨b, 0, none⟩)] W _
 have hb' := World.block_lt_of_cell? _ _ hc0'
 have HX := qH hx
 have z := au rfl hx
 obtain ⟨rfl, _⟩ := aG z.1
 obtain ⟨a, c, rfl, _⟩ := ah z.2
 clear hx z
 have hs := (St.start W).alloc #[.int .i64 x.1, .slice a x.2.length c] 118 rfl
 have hd0 := qC hs.bel hc0'
 go_enter func265, ntmps265
 go_wp2_with fail
 refine (Ur size x _ _ _ (Rd.mono HX.out hs.bel)).mono ?_
 rintro e w1 ⟨rfl, hb1⟩
 go_wp2_with fail
 go_ret
 exact ⟨rfl, (hs.step hb1).bel⟩
theorem Gf (x : dB) (v0 v1 : Value) (w : World) (hx : Rd w [v0, v1] x) :
 Calls prog 142 #[.agg #[v0, v1]] w fun e w' => e = .returned (.bool (lV x)) ∧ Below w.heap.size w w' := by
 obtain ⟨p, l⟩ := x
 have z := au rfl hx
 obtain ⟨rfl, _⟩ := aG z.1
 have RL := qH z.2
 obtain ⟨a, c, rfl, hr⟩ := ah RL.out
 have hb := (aN hr).2
 unfold maxLen at hb
 clear hx z hr
 have hs := (St.start w).alloc #[.int .i64 p, .slice a l.length c] 42 rfl
 have eg : ∀ args w, (callFunc 265 args).run prog w = .ok (.enter 265 args) w := enters_of func265 (by kernel_rfl) rfl
 go_enter func142, ntmps142
 go_wp2_with fail
 refine (QB p _).mono ?_
 rintro e w1 ⟨rfl, rfl⟩
 cases hp : inB p 1 4
 · have HP := qH hp
   clear hp
   go_wp2_with fail
   go_ret
   exact ⟨ak (by simp [lV, HP.out]), hs.bel⟩
 have HP := qH hp
 clear hp
 by_cases hl : l.length ≤ 6
 · have HL := qH hl
   go_wp2_with fail
   refine (zW l _ 265 _ _ _ (Rd.mono RL.out hs.bel) eg (Dp p w.heap.size _ l (hs.c 0 0))).mono ?_
   rintro e w1 ⟨rfl, hb1⟩
   go_wp2_with fail
   go_ret
   refine ⟨ak ?_, (hs.step hb1).bel⟩
   unfold lV
   simp only [HP.out, decide_eq_true HL.out, Bool.true_and]
   rw [← mM]
 have HL := qH hl
 go_wp2_with fail
 go_ret
 exact ⟨ak (by simp only [lV, decide_eq_false HL.out, Bool.and_false, Bool.false_and]), hs.bel⟩
theorem alT {s a : Int} (hs : 1 ≤ s ∧ s ≤ 4) (ha : 1 ≤ a ∧ a ≤ 3) : 1 ≤ s ^ a.toNat ∧ s ^ a.toNat ≤ 64 := by
 obtain rfl | rfl | rfl : a = 1 ∨ a = 2 ∨ a = 3 := by omega
 all_goals (obtain rfl | rfl | rfl | rfl : s = 1 ∨ s = 2 ∨ s = 3 ∨ s = 4 := by omega) <;> decide
theorem Ky (x : dB) (pb : Nat) (v0 v1 : Value) (w : World) (hx : Rd w [v0, v1] x) (hc0 : w.cell? ⟨pb, 0, none⟩ = some v0) (hc1 : w.cell? ⟨pb, 1, none⟩ = some v1) :
 Calls prog 136 #[.pointer (some ⟨pb, 0, none⟩)] w fun e w' => e = .returned (.bool (lV x)) ∧ Below w.heap.size w w' := by
 obtain ⟨size, l⟩ := x
 have z := au rfl hx
 obtain ⟨rfl, _⟩ := aG z.1
 have Yq := qH z.2
 obtain ⟨a, c, rfl, hrl⟩ := ah Yq.out
 have hb0 := (aN hrl).2
 unfold maxLen at hb0
 have HL := qH hrl
 clear hx z hrl
 have gI := qC (St.start w).bel hc0
 clear gI
 obtain ⟨gI, iD⟩ := iQ (St.start w).bel hc0 hc1
 go_enter func136, ntmps136
 go_wp2_with fail
 go_loopw [3] (fun i wl => ∃ k : Nat, k ≤ l.length ∧ i = .int .i64 k ∧ Hid (Below w.heap.size w wl) ∧ Hid (∀ j (hj : j < l.length), j < k → fJ size l[j] = true)) (fun i _ => l.length - (intOf i).toNat)
 case atStart => exact ⟨0, Nat.zero_le _, rfl, Below.refl _ _, fun j _ hj => absurd hj (Nat.not_lt_zero _)⟩
 obtain ⟨k, hk, rfl, hbl, hr⟩ := hrel
 have hsr := (St.start w).step hbl.out
 obtain ⟨gI, iD⟩ := iQ hsr.bel hc0 hc1
 clear hbl
 by_cases hlt : k < l.length
 rotate_left
 · obtain rfl : k = l.length := by omega
   have HA := qH (show l.all (fJ size) = true by
    rw [List.all_eq_true]
    intro y hy
    obtain ⟨j, hj, rfl⟩ := List.getElem_of_mem hy
    exact hr.out j hj hj)
   have hkl : ¬ ((l.length : Int) < l.length) := by omega
   go_wp2_with fail
   refine (LY size _).mono ?_
   rintro e w79 ⟨rfl, rfl, rfl⟩
   cases h1 : inB size 1 4
   · have H1 := qH (show lV (size, l) = false by simp only [lV, h1, Bool.false_and])
     clear h1
     go_wp2_with fail
     go_ret
     exact ⟨ak H1.out.symm, hsr.bel⟩
   have H1 := qH (show lV (size, l) = decide (l.length ≤ 6) by simp only [lV, h1, HA.out, Bool.true_and, Bool.and_true])
   clear h1
   go_wp2_with fail
   go_ret
   exact ⟨ak (by rw [H1.out]; (try simp); (try omega)), hsr.bel⟩
 obtain ⟨b, o, u0, u1, rfl, q0, q1, hy⟩ := dP rfl HL.out k hlt
 have HY := qH hy
 clear hy
 clear gI iD
 obtain ⟨gI, iD, dW, dO⟩ := jc hsr.bel hc0 hc1 q0 q1
 have hkl : (k : Int) < l.length := by omega
 cases h4 : fJ size l[k]
 · have H4 := qH (show lV (size, l) = false by
    simp only [lV, Bool.and_eq_false_iff]
    exact .inr (List.all_eq_false.2 ⟨_, List.getElem_mem hlt, by simp [h4]⟩))
   go_upto_region 4 with fail
   refine iT (fun w' => cI w' pb 0 size ∧ cV w' pb 1 (.slice (some ⟨b, o, none⟩) l.length c) ∧ cV w' b (o + k * 2) (u0) ∧ cV w' b (o + k * 2 + 1) (u1)) (.z [0,1,2,3,4,5,6,7,8,9] (.hard 10 (.float 11 .nil))) ?_ ?_
   · exact (jc (hsr.drew).bel hc0 hc1 q0 q1:)
   have uP := hsr.drew
   clear gI iD dW dO
   have aom : wr.heap.size ≤ (wr.drew).heap.size := by simp
   generalize wr.drew = aqL at *
   refine aV ?_
   refine gX fun K hK => ?_
   go_wp2_with (go_at_call 259; refine (Xe size l[k] _ _ _ _ _ (Rd.mono HY.out uP.bel) (qC uP.bel q0) (qC uP.bel q1)).mono ?_; rintro e w73 ⟨rfl, afA⟩)
   have aqM : aqL.heap.size ≤ w73.heap.size := hZ afA
   have EC := uP.step afA
   refine ⟨(jc EC.bel hc0 hc1 q0 q1:), ?_⟩
   refine aV ?_
   obtain ⟨gI, iD, dW, dO⟩ := jc EC.bel hc0 hc1 q0 q1
   refine iF ?_
   go_wp2_with fail
   go_ret
   exact ⟨ak H4.out.symm, EC.bel⟩
 have H4 := qH h4
 go_upto_region 4 with fail
 refine iT (fun w' => cI w' pb 0 size ∧ cV w' pb 1 (.slice (some ⟨b, o, none⟩) l.length c) ∧ cV w' b (o + k * 2) (u0) ∧ cV w' b (o + k * 2 + 1) (u1)) (.z [0,1,2,3,4,5,6,7,8,9] (.hard 10 (.float 11 .nil))) ?_ ?_
 · exact (jc (hsr.drew).bel hc0 hc1 q0 q1:)
 have adY := hsr.drew
 clear gI iD dW dO
 have aon : wr.heap.size ≤ (wr.drew).heap.size := by simp
 generalize wr.drew = aqN at *
 refine aV ?_
 refine gX fun K hK => ?_
 go_wp2_with (go_at_call 259; refine (Xe size l[k] _ _ _ _ _ (Rd.mono HY.out adY.bel) (qC adY.bel q0) (qC adY.bel q1)).mono ?_; rintro e w77 ⟨rfl, afB⟩)
 have aqO : aqN.heap.size ≤ w77.heap.size := hZ afB
 have o8 := adY.step afB
 refine ⟨(jc o8.bel hc0 hc1 q0 q1:), ?_⟩
 refine aV ?_
 obtain ⟨gI, iD, dW, dO⟩ := jc o8.bel hc0 hc1 q0 q1
 refine iF ?_
 go_wp2_with fail
 go_roundw
 case rel =>
  refine ⟨k + 1, by omega, by go_num, o8.bel, fun j hj hjk => ?_⟩
  rcases Nat.lt_or_ge j k with h | h
  · exact hr.out j hj h
  obtain rfl : j = k := by omega
  exact H4.out
 simp [intOf]; omega
theorem yK {size : Int} {l : List Int} {k : Nat} (hk : k < l.length) : dD size (l.take (k + 1)) = dD size (l.take k) * size + l[k] := by
 rw [List.take_succ_eq_append_getElem hk, IU]
theorem BX {size : Int} (hs : 1 ≤ size) {l : List Int} (hv : ∀ a, a ∈ l → 0 ≤ a ∧ a ≤ size - 1) (hp : size ^ l.length ≤ 1000000000000) {k : Nat} (hk : k < l.length) :
 0 ≤ dD size (l.take k) * size ∧ dD size (l.take k) * size ≤ 1000000000000 ∧ 0 ≤ dD size (l.take k) * size + l[k] ∧ dD size (l.take k) * size + l[k] ≤ 1000000000000 ∧ 0 ≤ l[k] := by
 have ha := hv _ (List.getElem_mem hk)
 have h1 := jl hs (l.take k) (fun a h => hv a (List.mem_of_mem_take h))
 have h2 := jl hs (l.take (k + 1)) (fun a h => hv a (List.mem_of_mem_take h))
 rw [yK hk] at h2
 have h3 : size ^ (l.take (k + 1)).length ≤ size ^ l.length := En hs (by rw [List.length_take]; omega)
 have h4 : 0 ≤ dD size (l.take k) * size := Int.mul_nonneg h1.1 (by omega)
 omega
theorem L8 (size : Int) (l : List Int) (v : Value) (w : World) (r : Rd w [v] l) (hs : 1 ≤ size) (hv : ∀ a, a ∈ l → 0 ≤ a ∧ a ≤ size - 1) (hp : size ^ l.length ≤ 1000000000000) :
 Calls prog 315 #[.int .i64 size, v] w fun e w' => e = .returned (.int .i64 (dD size l)) ∧ w = w' := by
 obtain ⟨a, c, rfl, h0⟩ := ah r
 have hb0 := (aN h0).2
 unfold maxLen at hb0
 have HR := qH r
 have HV := qH hv
 have HPP := qH hp
 clear r h0 hv hp
 go_enter func315, ntmps315
 go_wp2_with fail
 go_loop [5, 10] (fun q i => ∃ (k : Nat) (Q : Int), k ≤ l.length ∧ i = .int .i64 k ∧ q = .int .i64 Q ∧ Hid (Q = dD size (l.take k))) (fun _ i => l.length - (intOf i).toNat)
 case atStart => exact ⟨0, 0, Nat.zero_le _, rfl, rfl, rfl⟩
 obtain ⟨k, Q, hk, rfl, rfl, hq⟩ := hrel
 by_cases hlt : k < l.length
 rotate_left
 · obtain rfl : k = l.length := by omega
   have HQ2 := qH (show Q = dD size l by rw [hq.out, List.take_length])
   go_wp2_with fail
   go_ret
   exact ⟨aU HQ2.out, rfl⟩
 obtain ⟨b, o, rfl, q0, _⟩ := aI HR.out k hlt
 have hst := BX hs HV.out HPP.out hlt
 have HT := qH (yK (size := size) hlt)
 rw [← hq.out] at hst
 have HQ2 := qH (show Q * size + l[k] = dD size (l.take (k + 1)) by rw [HT.out, hq.out])
 clear HT
 generalize l[k] = A at *
 obtain ⟨g1, g2, g3, g4, g5⟩ := hst
 go_wp2_with fail
 go_round
 case rel => exact ⟨k + 1, Q * size + A, by omega, by go_num, rfl, HQ2.out⟩
 simp [intOf]; omega
theorem AA (size : Int) (l : List Int) (v : Value) (w : World) (r : Rd w [v] l) (hs : 1 ≤ size) (hv : ∀ a, a ∈ l → 0 ≤ a ∧ a ≤ size - 1) (hp : size ^ l.length ≤ 1000000000000) :
 Calls prog 333 #[.int .i64 size, v] w fun e w' => e = .returned (.int .i64 (dD size l)) ∧ w = w' := by
 obtain ⟨a, c, rfl, h0⟩ := ah r
 have hb0 := (aN h0).2
 unfold maxLen at hb0
 have HR := qH r
 have HV := qH hv
 have HPP := qH hp
 clear r h0 hv hp
 go_enter func333, ntmps333
 go_wp2_with fail
 go_loop [5, 6] (fun q i => ∃ (k : Nat) (Q : Int), k ≤ l.length ∧ i = .int .i64 k ∧ q = .int .i64 Q ∧ Hid (Q = dD size (l.take k))) (fun _ i => l.length - (intOf i).toNat)
 case atStart => exact ⟨0, 0, Nat.zero_le _, rfl, rfl, rfl⟩
 obtain ⟨k, Q, hk, rfl, rfl, hq⟩ := hrel
 by_cases hlt : k < l.length
 rotate_left
 · obtain rfl : k = l.length := by omega
   have HQ2 := qH (show Q = dD size l by rw [hq.out, List.take_length])
   go_wp2_with fail
   go_ret
   exact ⟨aU HQ2.out, rfl⟩
 obtain ⟨b, o, rfl, q0, _⟩ := aI HR.out k hlt
 have hst := BX hs HV.out HPP.out hlt
 have HT := qH (yK (size := size) hlt)
 rw [← hq.out] at hst
 have HQ2 := qH (show Q * size + l[k] = dD size (l.take (k + 1)) by rw [HT.out, hq.out])
 clear HT
 generalize l[k] = A at *
 obtain ⟨g1, g2, g3, g4, g5⟩ := hst
 go_wp2_with fail
 go_round
 case rel => exact ⟨k + 1, Q * size + A, by omega, by go_num, rfl, HQ2.out⟩
 simp [intOf]; omega
def valOf (size : Int) (f : nI) (args : List Int) : Int := f.2.getD (dD size args).toNat 0
theorem Dq {size : Int} {f : nI} {args : List Int} (hok : Ey size f = true) (hlen : (args.length : Int) = f.1) (hv : ∀ a, a ∈ args → 0 ≤ a ∧ a ≤ size - 1) :
 ∃ k : Nat, ∃ hk : k < f.2.length, dD size args = (k : Int) ∧ valOf size f args = f.2[k] ∧ 0 ≤ valOf size f args ∧ valOf size f args ≤ size - 1 ∧ f.2.length ≤ 64 ∧ size ^ args.length ≤ 64 := by
 obtain ⟨hs, har, ht⟩ := mO hok
 have h1 := jl hs.1 args hv
 have h2 := qO ht
 have h3 := alT hs har
 have h4 : args.length = f.1.toNat := by omega
 rw [h4] at h1
 refine ⟨(dD size args).toNat, by omega, by omega, ?_⟩
 have hk : (dD size args).toNat < f.2.length := by omega
 have e : valOf size f args = f.2[(dD size args).toNat] := by simp [valOf, List.getD, hk]
 have hv2 : ∀ a, a ∈ f.2 → 0 ≤ a ∧ a ≤ size - 1 := by
  simp only [bG, Bool.and_eq_true, List.all_eq_true] at ht
  exact fun a h => bQ (ht.2 a h)
 have h5 := hv2 _ (List.getElem_mem hk)
 rw [← e] at h5
 exact ⟨e, h5.1, h5.2, by omega, by rw [h4]; omega⟩
theorem Uu (size : Int) (f : nI) (args : List Int) (pb po : Nat) (v0 v1 va : Value) (w : World) (hf : Rd w [v0, v1] f) (hc1 : w.cell? ⟨pb, po + 1, none⟩ = some v1) (ha : Rd w [va] args) (hok : Ey size f = true) (hlen : (args.length : Int) = f.1) (hv : ∀ a, a ∈ args → 0 ≤ a ∧ a ≤ size - 1) :
 Calls prog 308 #[.int .i64 size, .pointer (some ⟨pb, po, none⟩), va] w fun e w' => e = .returned (.int .i64 (valOf size f args)) ∧ Below w.heap.size w w' := by
 obtain ⟨k, hk, e1, e2, _, _, e5, e6⟩ := Dq hok hlen hv
 have hs := (mO hok).1
 obtain ⟨ar, l⟩ := f
 have HCK := qH e1
 have HE2 := qH e2
 have HV := qH hv
 have HP6 := qH e6
 have z := au rfl hf
 obtain ⟨rfl, _⟩ := aG z.1
 have Yq := qH z.2
 obtain ⟨a, c, rfl, _⟩ := ah Yq.out
 simp only at hk e5 hlen
 obtain ⟨b, o, rfl, q0, _⟩ := aI Yq.out k hk
 obtain ⟨a2, c2, rfl, _⟩ := ah ha
 have HA := qH ha
 clear hf z e1 e2 hv e6 ha hlen hok
 have dW := qC (St.start w).bel q0
 clear dW
 obtain ⟨dW, iD⟩ := iQ (St.start w).bel q0 hc1
 go_enter func308, ntmps308
 have hkl : (k : Int) < l.length := by omega
 have ejw : IntKind.i64.wrap (k : Int) = (k : Int) := i64_in _ (by omega)
 go_upto_region 1 with fail
 refine iT (fun w' => cI w' b (o + k) (l[k]) ∧ cV w' pb (po + 1) (.slice (some ⟨b, o, none⟩) l.length c)) (.z [0,1,2,3,4,5] (.hard 6 (.z [7,8,9] .nil))) ?_ ?_
 · exact ⟨qC ((St.start w).drew).bel q0, qC ((St.start w).drew).bel hc1⟩
 have ad3 := (St.start w).drew
 clear dW iD
 have aoo : w.heap.size ≤ (w.drew).heap.size := by simp
 generalize w.drew = axj at *
 refine aV ?_
 refine gX fun K hK => ?_
 go_wp2_with (go_at_call 333; refine (AA size args _ _ (Rd.mono HA.out ad3.bel) hs.1 HV.out (by have := HP6.out; omega)).mono ?_; rintro e w86 ⟨rfl, rfl, rfl⟩)
 rw [HCK.out]
 refine ⟨(iQ ad3.bel q0 hc1:), ?_⟩
 refine aV ?_
 obtain ⟨dW, iD⟩ := iQ ad3.bel q0 hc1
 refine iF ?_
 go_wp2_with fail
 go_ret
 exact ⟨aU HE2.out.symm, ad3.bel⟩
theorem GH {w : World} {b : Nat} {x y : Int} (hx : I64 x) (hy : I64 y) (h0 : w.cell? ⟨b, 0, none⟩ = some (.int .i64 x)) (h1 : w.cell? ⟨b, 1, none⟩ = some (.int .i64 y)) : Rd w [.slice (some ⟨b, 0, none⟩) 2 2] [x, y] := by
 refine ⟨_, _, rfl, by simp, by decide, fun i hi => ?_⟩
 match i, hi with
 | 0, _ =>
  refine ⟨b, 0, [.int .i64 x], rfl, ⟨rfl, hx⟩, fun j hj => ?_⟩
  obtain rfl : j = 0 := by simp at hj; omega
  simpa using h0
 | 1, _ =>
  refine ⟨b, 0, [.int .i64 y], rfl, ⟨rfl, hy⟩, fun j hj => ?_⟩
  obtain rfl : j = 0 := by simp at hj; omega
  simpa [sz] using h1
theorem IZ : ∀ l : List Int, cmpL l l = 0
 | [] => rfl
 | a :: l => by
  have ih := IZ l
  unfold cmpL; rw [if_neg (by omega), if_neg (by omega)]; exact ih
theorem QE : ∀ l m : List Int, cmpL l m = 0 → l = m
 | [], [], _ => rfl
 | [], _ :: _, h => by simp [cmpL] at h
 | _ :: _, [], h => by simp [cmpL] at h
 | a :: l, b :: m, h => by
  unfold cmpL at h
  split at h
  · omega
  · split at h
    · omega
    · have := QE l m h
      subst this
      obtain rfl : a = b := by omega
      rfl
theorem AB : ∀ l m n : List Int, cmpL l m < 0 → cmpL m n < 0 → cmpL l n < 0
 | [], [], _, h, _ => by simp [cmpL] at h
 | _ :: _, [], _, h, _ => by simp [cmpL] at h
 | _, _ :: _, [], _, h => by simp [cmpL] at h
 | [], _ :: _, _ :: _, _, _ => by simp [cmpL]
 | a :: l, b :: m, c :: n, h, k => by
  unfold cmpL at h k ⊢
  by_cases h1 : a < b
  · by_cases h2 : b < c
    · rw [if_pos (by omega)]; omega
    · rw [if_neg h2] at k
      by_cases h3 : c < b
      · rw [if_pos h3] at k; omega
      · rw [if_pos (by omega)]; omega
  · rw [if_neg h1] at h
    by_cases h2 : b < a
    · rw [if_pos h2] at h; omega
    · rw [if_neg h2] at h
      by_cases h3 : b < c
      · rw [if_pos (by omega)]; omega
      · rw [if_neg h3] at k
        by_cases h4 : c < b
        · rw [if_pos h4] at k; omega
        · rw [if_neg h4] at k
          rw [if_neg (by omega), if_neg (by omega)]
          exact AB l m n h k
def Inc (x : List (List Int)) : Prop := ∀ i j, i < j → j < x.length → cmpL (x.getD i []) (x.getD j []) < 0
theorem ahv {x : List (List Int)} (h : ∀ j, j + 1 < x.length → cmpL (x.getD j []) (x.getD (j + 1) []) < 0) : Inc x := by
 intro i j hij hj
 induction j with
 | zero => omega
 | succ j ih =>
  rcases Nat.lt_or_ge i j with h1 | h1
  · exact AB _ _ _ (ih h1 (by omega)) (h j hj)
  obtain rfl : i = j := by omega
  exact h i hj
def jH (x : List (List Int)) (t : List Int) : Bool := x.contains t
theorem search_end {x : List (List Int)} {t : List Int} (hi : Inc x) {k : Nat} (hk : k ≤ x.length) (h1 : ∀ i, i < k → cmpL (x.getD i []) t < 0) (h2 : ∀ i, k ≤ i → i < x.length → 0 ≤ cmpL (x.getD i []) t) :
 jH x t = (decide (k < x.length) && decide (cmpL (x.getD k []) t = 0)) := by
 unfold jH
 rw [Bool.eq_iff_iff]
 simp only [List.contains_iff_mem, Bool.and_eq_true, decide_eq_true_eq]
 constructor
 · intro hm
   obtain ⟨i, hil, rfl⟩ := List.getElem_of_mem hm
   have e : x.getD i [] = x[i] := by simp [List.getD, hil]
   have hki : k ≤ i := by
    rcases Nat.lt_or_ge i k with h | h
    · have := h1 i h; rw [e, IZ] at this; omega
    exact h
   rcases Nat.lt_or_ge k i with h | h
   · have a := hi k i h hil
     have b := h2 k (Nat.le_refl _) (by omega)
     rw [e] at a
     omega
   obtain rfl : i = k := by omega
   exact ⟨hil, by rw [e, IZ]⟩
 rintro ⟨hl, he⟩
 have e : x.getD k [] = x[k] := by simp [List.getD, hl]
 rw [e] at he
 rw [← QE _ _ he]
 exact List.getElem_mem hl
theorem Yr {x : List (List Int)} {t : List Int} (hi : Inc x) {h : Nat} (hl : h < x.length) (hc : cmpL (x.getD h []) t < 0) : ∀ i, i < h + 1 → cmpL (x.getD i []) t < 0 := by
 intro i hih
 rcases Nat.lt_or_ge i h with h1 | h1
 · exact AB _ _ _ (hi i h h1 hl) hc
 obtain rfl : i = h := by omega
 exact hc
theorem Yt {x : List (List Int)} {t : List Int} (hi : Inc x) {h : Nat} (hc : ¬ cmpL (x.getD h []) t < 0) : ∀ i, h ≤ i → i < x.length → 0 ≤ cmpL (x.getD i []) t := by
 intro i hih hil
 rcases Nat.lt_or_ge h i with h1 | h1
 · have a := hi h i h1 hil
   by_cases hn : cmpL (x.getD i []) t < 0
   · exact absurd (AB _ _ _ a hn) hc
   omega
 obtain rfl : i = h := by omega
 omega
def Val (size : Int) (l : List Int) : Prop := ∀ a, a ∈ l → 0 ≤ a ∧ a ≤ size - 1
theorem I4 (size : Int) (a : Int) : ∀ l : List Int, dD size (a :: l) = a * size ^ l.length + dD size l := by
 have key : ∀ (l : List Int) (n : Int), l.foldl (fun n a => n * size + a) n = n * size ^ l.length + l.foldl (fun n a => n * size + a) 0 := by
  intro l
  induction l with
  | nil => intro n; simp
  | cons b l ih =>
   intro n
   rw [List.foldl_cons, List.foldl_cons, ih (n * size + b), ih (0 * size + b), List.length_cons, Int.pow_succ, Int.zero_mul, Int.zero_add, Int.add_mul, Int.mul_comm (size ^ l.length) size, Int.mul_assoc]
   omega
 intro l
 unfold dD
 rw [List.foldl_cons, key l, Int.zero_mul, Int.zero_add]
theorem yL {size : Int} (hs : 1 ≤ size) : ∀ (l m : List Int), l.length = m.length → Val size l → Val size m → cmpL l m < 0 → dD size l < dD size m
 | [], [], _, _, _, h => by simp [cmpL] at h
 | a :: l, b :: m, hl, hv, hw, h => by
  have hl' : l.length = m.length := by simpa using hl
  have hv' : Val size l := fun x hx => hv x (List.mem_cons_of_mem _ hx)
  have hw' : Val size m := fun x hx => hw x (List.mem_cons_of_mem _ hx)
  rw [I4, I4, ← hl']
  have b1 := jl hs l hv'
  have b2 := jl hs m hw'
  rw [← hl'] at b2
  unfold cmpL at h
  split at h
  · rename_i hab
    have : (a + 1) * size ^ l.length ≤ b * size ^ l.length := Int.mul_le_mul_of_nonneg_right (by omega) (by omega)
    rw [Int.add_mul] at this
    omega
  · split at h
    · omega
    · obtain rfl : a = b := by omega
      have := yL hs l m hl' hv' hw' h
      omega
theorem Ot : ∀ (l m : List Int), l.length = m.length → l = m ∨ cmpL l m < 0 ∨ cmpL m l < 0
 | [], [], _ => .inl rfl
 | a :: l, b :: m, h => by
  by_cases h1 : a < b
  · exact .inr (.inl (by unfold cmpL; rw [if_pos h1]; omega))
  · by_cases h2 : b < a
    · exact .inr (.inr (by unfold cmpL; rw [if_pos h2]; omega))
    · obtain rfl : a = b := by omega
      rcases Ot l m (by simpa using h) with h3 | h3 | h3
      · exact .inl (by rw [h3])
      · exact .inr (.inl (by unfold cmpL; rw [if_neg h1, if_neg h1]; exact h3))
      · exact .inr (.inr (by unfold cmpL; rw [if_neg h1, if_neg h1]; exact h3))
theorem code_inj {size : Int} (hs : 1 ≤ size) {l m : List Int} (h : l.length = m.length) (hl : Val size l) (hm : Val size m) (e : dD size l = dD size m) : l = m := by
 rcases Ot l m h with h1 | h1 | h1
 · exact h1
 · have := yL hs l m h hl hm h1; omega
 have := yL hs m l h.symm hm hl h1; omega
theorem aau {size : Int} (hs : 1 ≤ size) {ar : Nat} {x : List (List Int)} (hi : Inc x) (hv : ∀ t, t ∈ x → t.length = ar ∧ Val size t) (hn : (x.length : Int) = size ^ ar) {t : List Int} (hl : t.length = ar) (ht : Val size t) : t ∈ x := by
 have hg : ∀ i, i < x.length → x.getD i [] ∈ x := fun i h => by simp [List.getD, h]
 have lo : ∀ i : Nat, i < x.length → (i : Int) ≤ dD size (x.getD i []) := by
  intro i
  induction i with
  | zero => intro h; exact (jl hs _ (hv _ (hg 0 h)).2).1
  | succ i ih =>
   intro h
   have h1 := ih (by omega)
   have a := hv _ (hg i (by omega))
   have b := hv _ (hg (i + 1) h)
   have := yL hs _ _ (a.1.trans b.1.symm) a.2 b.2 (hi i (i + 1) (by omega) h)
   omega
 have hi2 : ∀ d i : Nat, i + d + 1 = x.length → dD size (x.getD i []) ≤ i := by
  intro d
  induction d with
  | zero =>
   intro i h
   have b := hv _ (hg i (by omega))
   have := (jl hs _ b.2).2
   rw [b.1, ← hn] at this
   omega
  | succ d ih =>
   intro i h
   have h1 := ih (i + 1) (by omega)
   have a := hv _ (hg i (by omega))
   have b := hv _ (hg (i + 1) (by omega))
   have := yL hs _ _ (a.1.trans b.1.symm) a.2 b.2 (hi i (i + 1) (by omega) (by omega))
   omega
 have hb := jl hs t ht
 rw [hl, ← hn] at hb
 obtain ⟨k, hk⟩ : ∃ k : Nat, dD size t = k := ⟨(dD size t).toNat, by omega⟩
 have hkl : k < x.length := by omega
 have a := hv _ (hg k hkl)
 have e : x.getD k [] = t := code_inj hs (a.1.trans hl.symm) a.2 ht (by have := lo k hkl; have := hi2 (x.length - 1 - k) k (by omega); omega)
 rw [← e]; exact hg k hkl
def lq (size : Int) (n : Nat) (x : List (List Int)) : Nat → List Bool
 | 0 => List.replicate n false
 | k + 1 => (lq size n x k).set (dD size (x.getD k [])).toNat true
theorem um (size : Int) (n : Nat) (x : List (List Int)) : ∀ k, (lq size n x k).length = n
 | 0 => by simp [lq]
 | k + 1 => by simp [lq, um size n x k]
theorem L9 {size : Int} {n : Nat} {x : List (List Int)} (hx : ∀ t, t ∈ x → 0 ≤ dD size t ∧ dD size t < n) (c : Nat) (hc : c < n) : ∀ k, k ≤ x.length → (lq size n x k).getD c false = decide (∃ j, j < k ∧ dD size (x.getD j []) = c)
 | 0, _ => by simp [lq, List.getD, hc]
 | k + 1, h => by
  have ih := L9 hx c hc k (by omega)
  have hm : x.getD k [] ∈ x := by simp [List.getD, show k < x.length by omega]
  have hb := hx _ hm
  unfold lq
  by_cases he : dD size (x.getD k []) = c
  · have : (dD size (x.getD k [])).toNat = c := by omega
    rw [this]
    have h2 : ((lq size n x k).set c true).getD c false = true := by simp [List.getD, um, hc]
    rw [h2]
    symm
    rw [decide_eq_true_eq]
    exact ⟨k, by omega, he⟩
  · have hne : (dD size (x.getD k [])).toNat ≠ c := by omega
    have h2 : ((lq size n x k).set (dD size (x.getD k [])).toNat true).getD c false = (lq size n x k).getD c false := by
     generalize (dD size (x.getD k [])).toNat = q at hne ⊢
     simp [List.getD, List.getElem?_set_ne hne]
    rw [h2, ih]
    apply decide_eq_decide.2
    constructor
    · rintro ⟨j, hj, e⟩; exact ⟨j, by omega, e⟩
    · rintro ⟨j, hj, e⟩
      rcases Nat.lt_or_ge j k with h3 | h3
      · exact ⟨j, h3, e⟩
      · obtain rfl : j = k := by omega
        exact absurd e he
theorem Mc {size : Int} (hs : 1 ≤ size) {ar : Nat} {n : Nat} (hn : (n : Int) = size ^ ar) {x : List (List Int)} (hv : ∀ t, t ∈ x → t.length = ar ∧ Val size t) {t : List Int} (hl : t.length = ar) (ht : Val size t) :
 (lq size n x x.length).getD (dD size t).toNat false = jH x t := by
 unfold jH
 have hb := jl hs t ht
 rw [hl, ← hn] at hb
 have hx : ∀ t, t ∈ x → 0 ≤ dD size t ∧ dD size t < n := fun t h => by
  have := hv t h
  have h2 := jl hs t this.2
  rw [this.1, ← hn] at h2
  exact h2
 rw [L9 hx _ (by omega) _ (Nat.le_refl _), Bool.eq_iff_iff, decide_eq_true_eq, List.contains_iff_mem]
 constructor
 · rintro ⟨j, hj, e⟩
   have hm : x.getD j [] ∈ x := by simp [List.getD, hj]
   have a := hv _ hm
   have := code_inj hs (a.1.trans hl.symm) a.2 ht (by omega)
   rw [← this]; exact hm
 intro hm
 obtain ⟨j, hj, rfl⟩ := List.getElem_of_mem hm
 exact ⟨j, hj, by simp [List.getD, hj]; omega⟩
theorem AL {size : Int} {r : bH} (h : fJ size r = true) : Inc r.2 := by
 have ht := (gV h).2.2
 refine ahv fun j hj => ?_
 have := BU ht (j + 1) hj
 simp only [nX, Bool.and_eq_true, Bool.or_eq_true, decide_eq_true_eq] at this
 rcases this.2 with h1 | h1
 · omega
 simpa using h1
theorem qP {size : Int} {r : bH} (h : fJ size r = true) : ∀ t, t ∈ r.2 → t.length = r.1.toNat ∧ Val size t := by
 intro t ht
 obtain ⟨j, hj, rfl⟩ := List.getElem_of_mem ht
 have h2 := BU (gV h).2.2 j hj
 simp only [nX, Bool.and_eq_true] at h2
 have h3 := h2.1
 rw [show r.2.getD j [] = r.2[j] by simp [List.getD, hj]] at h3
 have h4 := qO h3
 simp only [bG, Bool.and_eq_true, List.all_eq_true] at h3
 exact ⟨by omega, fun a ha => bQ (h3.2 a ha)⟩
theorem I5 {s a : Int} (hs : 1 ≤ s ∧ s ≤ 4) (ha : 1 ≤ a ∧ a ≤ 4) : 1 ≤ s ^ a.toNat ∧ s ^ a.toNat ≤ 256 := by
 obtain rfl | rfl | rfl | rfl : a = 1 ∨ a = 2 ∨ a = 3 ∨ a = 4 := by omega
 all_goals (obtain rfl | rfl | rfl | rfl : s = 1 ∨ s = 2 ∨ s = 3 ∨ s = 4 := by omega) <;> decide
theorem vV {size : Int} {r : bH} (h : fJ size r = true) : (r.2.length : Int) ≤ size ^ r.1.toNat ∧ r.2.length ≤ 256 := by
 have hs := (gV h).1
 have hp := I5 hs (gV h).2.1
 have hi := AL h
 have hv := qP h
 have hg : ∀ i, i < r.2.length → r.2.getD i [] ∈ r.2 := fun i h => by simp [List.getD, h]
 have lo : ∀ i : Nat, i < r.2.length → (i : Int) ≤ dD size (r.2.getD i []) := by
  intro i
  induction i with
  | zero => intro h; exact (jl hs.1 _ (hv _ (hg 0 h)).2).1
  | succ i ih =>
   intro h
   have h1 := ih (by omega)
   have a := hv _ (hg i (by omega))
   have b := hv _ (hg (i + 1) h)
   have := yL hs.1 _ _ (a.1.trans b.1.symm) a.2 b.2 (hi i (i + 1) (by omega) h)
   omega
 by_cases h0 : r.2.length = 0
 · omega
 have h1 := lo (r.2.length - 1) (by omega)
 have b := hv _ (hg (r.2.length - 1) (by omega))
 have h2 := (jl hs.1 _ b.2).2
 rw [b.1] at h2
 omega
def makeT (size : Int) (f : nI) (ts : List (List Int)) (ar : Nat) : List Int := (List.range ar).map (fun p => valOf size f (ts.map (fun t => t.getD p 0)))
def kC (x : List (List Int)) (places : List Int) : List (List Int) := places.map (fun k => x.getD k.toNat [])
def sD (size : Int) (f : nI) (r : bH) (i : Nat) : Bool := jH r.2 (makeT size f (kC r.2 (eu r.2.length f.1.toNat i)) r.1.toNat)
def kU (size : Int) (f : nI) (r : bH) : Bool := (List.range (r.2.length ^ f.1.toNat)).all (fun i => sD size f r i)
theorem I7 {x : List (List Int)} {l : List Int} (h : ∀ a, a ∈ l → 0 ≤ a ∧ a < x.length) : ∀ t, t ∈ kC x l → t ∈ x := by
 intro t ht
 simp only [kC, List.mem_map] at ht
 obtain ⟨a, ha, rfl⟩ := ht
 have := h a ha
 simp [List.getD, show a.toNat < x.length by omega]
theorem zX {size : Int} {f : nI} (hok : Ey size f = true) {ar : Nat} {ts : List (List Int)} (hl : (ts.length : Int) = f.1) (hv : ∀ t, t ∈ ts → t.length = ar ∧ Val size t) :
 (makeT size f ts ar).length = ar ∧ Val size (makeT size f ts ar) ∧ ∀ p, p < ar → Val size (ts.map (fun t => t.getD p 0)) := by
 have h1 : ∀ p, p < ar → Val size (ts.map (fun t => t.getD p 0)) := by
  intro p hp a ha
  simp only [List.mem_map] at ha
  obtain ⟨t, ht, rfl⟩ := ha
  have := hv t ht
  refine this.2 _ ?_
  simp [List.getD, show p < t.length by omega]
 refine ⟨by simp [makeT], ?_, h1⟩
 intro a ha
 simp only [makeT, List.mem_map, List.mem_range] at ha
 obtain ⟨p, hp, rfl⟩ := ha
 obtain ⟨_, _, _, _, g1, g2, _⟩ := Dq (args := ts.map (fun t => t.getD p 0)) hok (by simpa using hl) (fun a ha => h1 p hp a ha)
 exact ⟨g1, g2⟩
theorem Uw {size : Int} {f : nI} {r : bH} (hf : Ey size f = true) (hr : fJ size r = true) (hn : (r.2.length : Int) = size ^ r.1.toNat) : kU size f r = true := by
 have hs := (gV hr).1
 have har := (mO hf).2.1
 unfold kU
 rw [List.all_eq_true]
 intro i _
 have hp := I5 hs (gV hr).2.1
 have h1 : ∀ t, t ∈ kC r.2 (eu r.2.length f.1.toNat i) → t ∈ r.2 := I7 (fun a ha => by
  have := kK r.2.length (by omega) f.1.toNat i a ha
  omega)
 have h2 := zX (ar := r.1.toNat) hf (ts := kC r.2 (eu r.2.length f.1.toNat i)) (by simp [kC]; omega) (fun t ht => qP hr t (h1 t ht))
 unfold sD jH
 rw [List.contains_iff_mem]
 exact aau hs.1 (AL hr) (qP hr) hn h2.1 h2.2.1
end Go.Proofs.YtoblfnoaepbhfaaGreat
