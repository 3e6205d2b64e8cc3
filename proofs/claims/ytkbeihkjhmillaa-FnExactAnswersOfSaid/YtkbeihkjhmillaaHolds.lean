/-
  CONTRACTS: HoldsIn of the program and of the reference.
-/
import Derived.Test.YtkbeihkjhmillaaValidS
namespace Go.Proofs.Ytkbeihkjhmillaa
open Go.RowKit Go.Shelf
open Rep (Rd Own sz)
set_option linter.unusedSimpArgs false
set_option linter.unusedVariables false

def dotI (l vs : List Int) : Int := (List.zipWith (· * ·) l vs).sum
theorem dotI_succ {l vs : List Int} {k : Nat} (h : k < l.length) (h2 : k < vs.length) : dotI (l.take (k + 1)) (vs.take (k + 1)) = dotI (l.take k) (vs.take k) + l[k] * vs[k] := by
  unfold dotI
  rw [List.take_succ_eq_append_getElem h, List.take_succ_eq_append_getElem h2, List.zipWith_append (by simp; omega), List.sum_append]
  simp
def holdsE (p : Int) (vs : List Int) (e : Eqn) : Bool := decide (dotI e.1 vs % p = e.2)
def holdsF (s : Sys) (vs : List Int) : Bool × Int :=
  if validS s = true then (if valsOk s.1 vs s.2.1 = true then (s.2.2.all (holdsE s.1 vs), 0) else (false, 2)) else (false, 1)
theorem valsOk_get {p n : Int} {l : List Int} (h : valsOk p l n = true) : (l.length : Int) = n ∧ ∀ k (hk : k < l.length), 0 ≤ l[k] ∧ l[k] ≤ p - 1 := by
  simp only [valsOk, Bool.and_eq_true, decide_eq_true_eq, List.all_eq_true] at h
  exact ⟨h.1, fun k hk => inB_true (h.2 _ (List.getElem_mem hk))⟩
theorem mul_small {a b p : Int} (ha : 0 ≤ a ∧ a ≤ p - 1) (hb : 0 ≤ b ∧ b ≤ p - 1) (hp : p ≤ 3) : 0 ≤ a * b ∧ a * b ≤ 4 := by
  refine ⟨Int.mul_nonneg ha.1 hb.1, ?_⟩
  have h1 : a * b ≤ 2 * b := Int.mul_le_mul_of_nonneg_right (by omega) hb.1
  omega

set_option maxRecDepth 100000 in
set_option maxHeartbeats 1000000 in
theorem isTrue_c (p u : Int) (x : Eqn) (vs : List Int) (v0 v1 v2 : Value) (w : World) (hx : Rd w [v0, v1] x) (hv : Rd w [v2] vs) (hp0 : 1 ≤ p) (hp : p ≤ 3) (hu : u ≤ 1000) (he : eqnOk p u x = true) (ho : valsOk p vs u = true) :
    Calls Try.prog 70 #[.int .i64 p, .agg #[v0, v1], v2] w fun e w' => e = .returned (.bool (holdsE p vs x)) ∧ Below w.heap.size w w' := by
  obtain ⟨l, n⟩ := x
  have z := rd_cons rfl hx
  obtain ⟨a, c, rfl, hr⟩ := rd_list z.1
  obtain ⟨rfl, _⟩ := rd_i1 z.2
  obtain ⟨a', c', rfl, hr'⟩ := rd_list hv
  simp only [eqnOk, Bool.and_eq_true] at he
  obtain ⟨l1, l2⟩ := valsOk_get he.1
  obtain ⟨o1, o2⟩ := valsOk_get ho
  have HR := Lib.hid hr
  have HR' := Lib.hid hr'
  have L2 := Lib.hid l2
  have O2 := Lib.hid o2
  have HLEN := Lib.hid (show l.length = vs.length by omega)
  have hlen : l.length ≤ 1000 := by omega
  clear hx z hr hv hr' he ho l2 o2 l1 o1
  have hs := (St.start w).alloc #[.slice a l.length c, .int .i64 n] 48 rfl
  go_enter Try.func70, Try.ntmps70
  go_wp2_with fail
  go_loopw [7, 13] (fun s i wr => ∃ (k : Nat) (S : Int), k ≤ l.length ∧ s = .int .i64 S ∧ i = .int .i64 k ∧ 0 ≤ S ∧ S ≤ 4 * k ∧ wr = (w.alloc (.cells #[.slice a l.length c, .int .i64 n] 48)) ∧ Hid (S = dotI (l.take k) (vs.take k))) (fun _ i _ => l.length - (intOf i).toNat)
  case atStart => exact ⟨0, 0, Nat.zero_le _, rfl, rfl, by omega, by omega, rfl, by simp [Hid, dotI]⟩
  case round =>
    obtain ⟨k, S, hk, rfl, rfl, S0, S1, rfl, hS⟩ := hrel
    by_cases hlt : k < l.length
    · have k2 : k < vs.length := by rw [← HLEN.out]; exact hlt
      have hm := mul_small (L2.out k hlt) (O2.out k k2) hp
      have hd := Lib.hid (dotI_succ hlt k2)
      have iA := L2.out k hlt
      have iB := O2.out k k2
      obtain ⟨b1, o1, rfl, f1, _⟩ := rdSl_int HR.out k hlt
      obtain ⟨b2, o2, rfl, f2, _⟩ := rdSl_int HR'.out k k2
      have g1 : w.cell? ⟨b1, o1 + k, none⟩ = some (.int .i64 l[k]) := by simpa [List.getD, hlt] using f1
      have g2 : w.cell? ⟨b2, o2 + k, none⟩ = some (.int .i64 vs[k]) := by simpa [List.getD, k2] using f2
      have h1 := cellL (belowA w (.cells #[.slice (some ⟨b1, o1, none⟩) l.length c, .int .i64 n] 48)) g1
      have h2 := cellL (belowA w (.cells #[.slice (some ⟨b1, o1, none⟩) l.length c, .int .i64 n] 48)) g2
      clear f1 f2 g1 g2
      have kv : (k : Int) < vs.length := by omega
      generalize l[k] = A at *
      generalize vs[k] = B at *
      go_wp2_with fail
      go_roundw
      case rel => exact ⟨k + 1, S + A * B, by omega, rfl, by go_num, by omega, by omega, trivial, by simp only [Hid]; rw [hd.out, ← hS.out]⟩
      case measure => simp [intOf]; omega
    · obtain rfl : k = l.length := by omega
      have q1 := hs.cellAt 0 rfl 1 rfl
      have hp1 : p ≠ 0 := by omega
      have hT : S.tmod p = S % p := Int.tmod_eq_emod_of_nonneg S0
      have hb0 := Int.emod_nonneg S hp1
      have hb1 := Int.emod_lt_of_pos S (show 0 < p by omega)
      go_wp2_with fail
      go_quiet (fail)
      go_wp2_with fail
      go_ret
      refine ⟨ret_bool ?_, hs.bel.trans ((drewN_below _ _).mono hs.bel.size)⟩
      have h1 := hS.out
      rw [List.take_of_length_le (Nat.le_refl _), List.take_of_length_le (by rw [HLEN.out]; exact Nat.le_refl _)] at h1
      simp only [holdsE, ← h1]
      first | rfl | (rw [hT]; by_cases hq : S % p = n <;> simp [hq]) | (by_cases hq : S % p = n <;> simp [hq])
theorem holds_mod {S n p : Int} (h0 : 0 ≤ n) (h1 : n ≤ p - 1) : ((S - n) % p == 0) = decide (S % p = n) := by
  have e : (S - n) % p = 0 ↔ S % p = n := by
    rw [← Int.emod_eq_emod_iff_emod_sub_eq_zero, Int.emod_eq_of_lt h0 (by omega : n < p)]
  by_cases h : S % p = n
  · rw [decide_eq_true h, beq_iff_eq]; exact e.2 h
  · rw [decide_eq_false h, beq_eq_false_iff_ne]; exact fun h' => h (e.1 h')
set_option maxRecDepth 100000 in
set_option maxHeartbeats 1000000 in
theorem l07Holds_c (p u : Int) (x : Eqn) (vs : List Int) (b o : Nat) (v0 v1 v2 : Value) (w : World) (hx : Rd w [v0, v1] x) (hv : Rd w [v2] vs) (c0 : w.cell? ⟨b, o, none⟩ = some v0) (c1 : w.cell? ⟨b, o + 1, none⟩ = some v1) (hp0 : 1 ≤ p) (hp : p ≤ 3) (hu : u ≤ 1000) (he : eqnOk p u x = true) (ho : valsOk p vs u = true) :
    Calls Try.prog 106 #[.int .i64 p, .pointer (some ⟨b, o, none⟩), v2] w fun e w' => e = .returned (.bool (holdsE p vs x)) ∧ ∃ n, w' = w.drewN n := by
  obtain ⟨l, n⟩ := x
  have z := rd_cons rfl hx
  obtain ⟨a, c, rfl, hr⟩ := rd_list z.1
  obtain ⟨rfl, _⟩ := rd_i1 z.2
  obtain ⟨a', c', rfl, hr'⟩ := rd_list hv
  simp only [eqnOk, Bool.and_eq_true] at he
  obtain ⟨l1, l2⟩ := valsOk_get he.1
  obtain ⟨o1, o2⟩ := valsOk_get ho
  have hn := inB_true he.2
  have HR := Lib.hid hr
  have HR' := Lib.hid hr'
  have L2 := Lib.hid l2
  have O2 := Lib.hid o2
  have HLEN := Lib.hid (show l.length = vs.length by omega)
  have hlen : vs.length ≤ 1000 := by omega
  have hlen2 : l.length ≤ 1000 := by omega
  clear hx z hr hv hr' he ho l2 o2 l1 o1
  go_enter Try.func106, Try.ntmps106
  go_wp2_with fail
  go_loopw [7, 8] (fun s i wr => ∃ (k m : Nat) (S : Int), k ≤ vs.length ∧ s = .int .i64 S ∧ i = .int .i64 k ∧ 0 ≤ S ∧ S ≤ 4 * k ∧ wr = w.drewN m ∧ Hid (S = dotI (l.take k) (vs.take k))) (fun _ i _ => vs.length - (intOf i).toNat)
  case atStart => exact ⟨0, 0, 0, Nat.zero_le _, rfl, rfl, by omega, by omega, rfl, by simp [Hid, dotI]⟩
  case round =>
    obtain ⟨k, m, S, hk, rfl, rfl, S0, S1, rfl, hS⟩ := hrel
    by_cases hlt : k < vs.length
    · have k2 : k < l.length := by rw [HLEN.out]; exact hlt
      have hm := mul_small (L2.out k k2) (O2.out k hlt) hp
      have hd := Lib.hid (dotI_succ k2 hlt)
      have iA := L2.out k k2
      have iB := O2.out k hlt
      obtain ⟨b1, o1, rfl, f1, _⟩ := rdSl_int HR.out k k2
      obtain ⟨b2, o2, rfl, f2, _⟩ := rdSl_int HR'.out k hlt
      have g1 : w.cell? ⟨b1, o1 + k, none⟩ = some (.int .i64 l[k]) := by simpa [List.getD, k2] using f1
      have g2 : w.cell? ⟨b2, o2 + k, none⟩ = some (.int .i64 vs[k]) := by simpa [List.getD, hlt] using f2
      clear f1 f2
      have kv : (k : Int) < l.length := by omega
      generalize l[k] = A at *
      generalize vs[k] = B at *
      go_wp2_with fail
      go_quiet (fail)
      go_wp2_with fail
      go_roundw
      case rel => exact ⟨k + 1, _, S + A * B, by omega, rfl, by go_num, by omega, by omega, rfl, by simp only [Hid]; rw [hd.out, ← hS.out]⟩
      case measure => simp [intOf]; omega
    · obtain rfl : k = vs.length := by omega
      go_wp2_with fail
      refine (l07Mod_c _ _ _ (by omega) (by omega)).mono ?_
      rintro e w2 ⟨rfl, rfl⟩
      go_wp2_with fail
      go_ret
      refine ⟨ret_bool ?_, m, rfl⟩
      have h1 := hS.out
      rw [List.take_of_length_le (by rw [HLEN.out]; exact Nat.le_refl _), List.take_of_length_le (Nat.le_refl _)] at h1
      rw [holds_mod hn.1 hn.2]
      simp only [holdsE, ← h1]
set_option maxHeartbeats 400000 in
theorem holdsIn1_by (p u : Int) (vs : List Int) (b1 b2 : Nat) (v2 : Value) (w : World) (l : List Eqn) (hp0 : 1 ≤ p) (hp : p ≤ 3) (hu : u ≤ 1000) (he : ∀ e, e ∈ l → eqnOk p u e = true) (ho : valsOk p vs u = true) (hv : Rd w [v2] vs) (hc0 : w.cell? ⟨b1, 0, none⟩ = some (.int .i64 p)) (hc1 : w.cell? ⟨b2, 0, none⟩ = some v2) :
    PredE 69 #[.pointer (some ⟨b1, 0, none⟩), .pointer (some ⟨b2, 0, none⟩)] w l (fun e => !holdsE p vs e) := by
  intro W x v0 v1 hb hx hm
  have hc0' := cellL hb hc0
  have hc1' := cellL hb hc1
  obtain ⟨a', c', rfl, _⟩ := rd_list hv
  have HV := Lib.hid (Rd.mono hv hb)
  have HE := Lib.hid (he x hm)
  have HO := Lib.hid ho
  show Calls Try.prog 69 #[_, .pointer (some ⟨b1, 0, none⟩), .pointer (some ⟨b2, 0, none⟩)] W _
  have HX := Lib.hid hx
  have z := rd_cons rfl hx
  obtain ⟨a, c, rfl, _⟩ := rd_list z.1
  obtain ⟨rfl, _⟩ := rd_i1 z.2
  clear hx z hv he ho
  have hs := (St.start W).alloc #[.slice a x.1.length c, .int .i64 x.2] 48 rfl
  have hd0 := cellL hs.bel hc0'
  have hd1 := cellL hs.bel hc1'
  go_enter Try.func69, Try.ntmps69
  go_wp2_with fail
  refine (isTrue_c p u x vs _ _ _ _ (Rd.mono HX.out hs.bel) (Rd.mono HV.out hs.bel) hp0 hp hu HE.out HO.out).mono ?_
  rintro e w1 ⟨rfl, hb1⟩
  go_wp2_with fail
  go_ret
  exact ⟨rfl, (hs.step hb1).bel⟩
theorem validS_get {p u : Int} {l : List Eqn} (h : validS (p, u, l) = true) : (p = 2 ∨ p = 3) ∧ (1 ≤ u ∧ u ≤ 12) ∧ l.length ≤ 24 ∧ ∀ e, e ∈ l → eqnOk p u e = true := by
  simp only [validS, Bool.and_eq_true, decide_eq_true_eq, List.all_eq_true] at h
  exact ⟨isPr_true h.1.1.1, inB_true h.1.1.2, h.1.2, h.2⟩
set_option maxRecDepth 100000 in
set_option maxHeartbeats 1000000 in
theorem HoldsIn_c (x : Sys) (v0 v1 v2 : Value) (vs : List Int) (v3 : Value) (w : World) (hx : Rd w [v0, v1, v2] x) (hv : Rd w [v3] vs) :
    Calls Try.prog 19 #[.agg #[v0, v1, v2], v3] w fun e w' => e = .returned (.tuple #[.bool (holdsF x vs).1, .int .i64 (holdsF x vs).2]) ∧ Below w.heap.size w w' := by
  obtain ⟨p, u, l⟩ := x
  have HX := Lib.hid hx
  have HV := Lib.hid hv
  have z := rd_cons rfl hx
  obtain ⟨rfl, _⟩ := rd_i1 z.1
  have z2 := rd_cons rfl z.2
  obtain ⟨rfl, _⟩ := rd_i1 z2.1
  have RL := Lib.hid z2.2
  obtain ⟨a, c, rfl, _⟩ := rd_list RL.out
  obtain ⟨a', c', rfl, _⟩ := rd_list hv
  clear hx z z2 hv
  have hs := ((St.start w).alloc #[.int .i64 p, .int .i64 u, .slice a l.length c] 31 rfl).alloc #[.slice a' vs.length c'] 25 (n := w.heap.size + 1) (by simp)
  have eg : ∀ args w, (callFunc 69 args).run Try.prog w = .ok (.enter 69 args) w := enters_of Try.func69 (by kernel_rfl) rfl
  have k0 := hs.cellAt 0 rfl 0 rfl
  have k1 := hs.cellAt 0 rfl 1 rfl
  have k2 := hs.cellAt 0 rfl 2 rfl
  have k3 := hs.cellAt 1 rfl 0 rfl
  go_enter Try.func19, Try.ntmps19
  go_wp2_with fail
  refine (ValidSystem_c (p, u, l) _ _ _ _ (Rd.mono HX.out hs.bel)).mono ?_
  rintro e w1 ⟨rfl, hb1⟩
  have hs1 := hs.step hb1
  clear k0 k1 k2 k3
  have p0 := hs1.cellAt 0 rfl 0 rfl
  have p1 := hs1.cellAt 0 rfl 1 rfl
  have p2 := hs1.cellAt 0 rfl 2 rfl
  have q0 := hs1.cellAt 1 rfl 0 rfl
  cases hok : validS (p, u, l) with
  | false =>
    have HK := Lib.hid hok
    clear hok
    go_wp2_with fail
    refine bodyPost_ret (v := .tuple #[.bool false, .int .i64 1]) (by simp [results, Try.results19, go_sem]) rfl ⟨?_, hs1.bel⟩
    unfold holdsF; rw [HK.out]; rfl
  | true =>
    obtain ⟨hp, hu, hl, he⟩ := validS_get hok
    have HK := Lib.hid hok
    have HE := Lib.hid he
    clear hok he
    go_wp2_with fail
    refine (areValues_c p vs _ u _ (Rd.mono HV.out hs1.bel) (by omega) (by omega)).mono ?_
    rintro e w2 ⟨rfl, hb2⟩
    have hs2 := hs1.step hb2
    clear p0 p1 p2 q0
    have p0 := hs2.cellAt 0 rfl 0 rfl
    have p2 := hs2.cellAt 0 rfl 2 rfl
    have q0 := hs2.cellAt 1 rfl 0 rfl
    cases hvo : valsOk p vs u with
    | false =>
      have HO := Lib.hid hvo
      clear hvo
      go_wp2_with fail
      refine bodyPost_ret (v := .tuple #[.bool false, .int .i64 2]) (by simp [results, Try.results19, go_sem]) rfl ⟨?_, hs2.bel⟩
      unfold holdsF; simp only [HK.out, HO.out]; rfl
    | true =>
      have HO := Lib.hid hvo
      clear hvo
      go_wp2_with fail
      refine (containsEqns_c l _ 69 _ _ _ (Rd.mono RL.out hs2.bel) eg (holdsIn1_by p u vs _ _ _ _ l (by omega) (by omega) (by omega) HE.out HO.out (Rd.mono HV.out hs2.bel) p0 q0)).mono ?_
      rintro e w3 ⟨rfl, hb3⟩
      go_wp2_with fail
      refine bodyPost_ret (v := .tuple #[.bool (!l.any fun e => !holdsE p vs e), .int .i64 0]) (by simp [results, Try.results19, go_sem]) rfl ⟨?_, (hs2.step hb3).bel⟩
      rw [all_of_any]
      unfold holdsF; simp only [HK.out, HO.out]; rfl
set_option maxRecDepth 100000 in
set_option maxHeartbeats 1000000 in
theorem l07Values_c (x : Sys) (vs : List Int) (b : Nat) (v0 v1 v3 : Value) (w : World) (hx0 : v0 = .int .i64 x.1) (hx1 : v1 = .int .i64 x.2.1) (hv : Rd w [v3] vs) (c0 : w.cell? ⟨b, 0, none⟩ = some v0) (c1 : w.cell? ⟨b, 1, none⟩ = some v1) (hp : x.1 = 2 ∨ x.1 = 3) :
    Calls Try.prog 63 #[.pointer (some ⟨b, 0, none⟩), v3] w fun e w' => e = .returned (.bool (valsOk x.1 vs x.2.1)) ∧ ∃ n, w' = w.drewN n := by
  obtain ⟨p, u, l⟩ := x
  simp only at hx0 hx1 hp ⊢
  subst hx0 hx1
  obtain ⟨a, c, rfl, hr⟩ := rd_list hv
  have hb := (rdSl_len hr).2
  unfold maxLen at hb
  have HR := Lib.hid hr
  clear hv hr
  by_cases hn : (vs.length : Int) = u
  rotate_left
  · have hn1 : ((vs.length : Int) != u) = true := by simpa using hn
    have HN := Lib.hid hn
    clear hn
    go_enter Try.func63, Try.ntmps63
    go_wp2_with fail
    go_ret
    exact ⟨ret_bool (by simp [valsOk, HN.out]), 0, rfl⟩
  have hn1 : ((vs.length : Int) != u) = false := by simpa using hn
  have HN := Lib.hid hn
  clear hn
  go_enter Try.func63, Try.ntmps63
  go_wp2_with fail
  go_loopw [5] (fun i wr => ∃ k m : Nat, k ≤ vs.length ∧ i = .int .i64 k ∧ wr = w.drewN m ∧ Hid (∀ j (hj : j < vs.length), j < k → inB vs[j] 0 (p - 1) = true)) (fun i _ => vs.length - (intOf i).toNat)
  case atStart => exact ⟨0, 0, Nat.zero_le _, rfl, rfl, fun j _ hj => absurd hj (Nat.not_lt_zero _)⟩
  case round =>
    obtain ⟨k, m, hk, rfl, rfl, hr⟩ := hrel
    by_cases hlt : k < vs.length
    · obtain ⟨b', o', rfl, hc, _⟩ := rdSl_int HR.out k hlt
      have hc' : w.cell? ⟨b', o' + k, none⟩ = some (.int .i64 vs[k]) := by simpa [List.getD, hlt] using hc
      clear hc
      cases hq : inB vs[k] 0 (p - 1) with
      | false =>
        have HQ := Lib.hid hq
        clear hq
        go_wp2_with fail
        refine wp_region_noPanic (wp_region_el (fun w' => w'.cell? ⟨b, 0, none⟩ = some (.int .i64 p) ∧ w'.cell? ⟨b', o' + k, none⟩ = some (.int .i64 vs[k])) [(0, 0), (1, 0), (2, 0), (3, 0), (4, 0), (5, 0), (6, 0), (7, 0), (8, 0), (9, 1), (10, 0)] (by kernel_rfl) (by kernel_rfl) (by kernel_rfl) rfl ?_ (fun _ _ _ _ _ h => h) ?_)
        · exact ⟨c0, hc'⟩
        (repeat (first | (apply el_skip rfl (by rfl); try simp only [Act.put, List.setIfInBounds_toArray, List.set_cons_zero, List.set_cons_succ]) | (apply el_float rfl (by rfl); (· (intro w' hS; go_simp <;> with_reducible rfl)); (try simp only [Act.put, List.setIfInBounds_toArray, List.set_cons_zero, List.set_cons_succ]))))
        refine el_hard rfl (by rfl) (fun K hK => ?_)
        go_wp2_with (go_at_call 72; refine (l00In_c vs[k] 0 (p - 1) _).mono ?_; rintro e w1 ⟨rfl, rfl⟩)
        rw [HQ.out]
        refine ⟨⟨c0, hc'⟩, ?_⟩
        (repeat (first | (apply el_skip rfl (by rfl); try simp only [Act.put, List.setIfInBounds_toArray, List.set_cons_zero, List.set_cons_succ]) | (apply el_float rfl (by rfl); (· (intro w' hS; go_simp <;> with_reducible rfl)); (try simp only [Act.put, List.setIfInBounds_toArray, List.set_cons_zero, List.set_cons_succ]))))
        refine el_nil (NoPanic.normal ?_)
        go_wp2_with fail
        go_ret
        refine ⟨ret_bool ?_, m + 1, rfl⟩
        symm
        simp only [valsOk, Bool.and_eq_false_iff]
        exact .inr (List.all_eq_false.2 ⟨_, List.getElem_mem hlt, by simp [HQ.out]⟩)
      | true =>
        have HQ := Lib.hid hq
        clear hq
        go_wp2_with fail
        refine wp_region_noPanic (wp_region_el (fun w' => w'.cell? ⟨b, 0, none⟩ = some (.int .i64 p) ∧ w'.cell? ⟨b', o' + k, none⟩ = some (.int .i64 vs[k])) [(0, 0), (1, 0), (2, 0), (3, 0), (4, 0), (5, 0), (6, 0), (7, 0), (8, 0), (9, 1), (10, 0)] (by kernel_rfl) (by kernel_rfl) (by kernel_rfl) rfl ?_ (fun _ _ _ _ _ h => h) ?_)
        · exact ⟨c0, hc'⟩
        (repeat (first | (apply el_skip rfl (by rfl); try simp only [Act.put, List.setIfInBounds_toArray, List.set_cons_zero, List.set_cons_succ]) | (apply el_float rfl (by rfl); (· (intro w' hS; go_simp <;> with_reducible rfl)); (try simp only [Act.put, List.setIfInBounds_toArray, List.set_cons_zero, List.set_cons_succ]))))
        refine el_hard rfl (by rfl) (fun K hK => ?_)
        go_wp2_with (go_at_call 72; refine (l00In_c vs[k] 0 (p - 1) _).mono ?_; rintro e w1 ⟨rfl, rfl⟩)
        rw [HQ.out]
        refine ⟨⟨c0, hc'⟩, ?_⟩
        (repeat (first | (apply el_skip rfl (by rfl); try simp only [Act.put, List.setIfInBounds_toArray, List.set_cons_zero, List.set_cons_succ]) | (apply el_float rfl (by rfl); (· (intro w' hS; go_simp <;> with_reducible rfl)); (try simp only [Act.put, List.setIfInBounds_toArray, List.set_cons_zero, List.set_cons_succ]))))
        refine el_nil (NoPanic.normal ?_)
        go_wp2_with fail
        go_roundw
        case rel =>
          refine ⟨k + 1, m + 1, by omega, by go_num, rfl, ?_⟩
          intro j hj hjk
          rcases Nat.lt_or_ge j k with h | h
          · exact hr.out j hj h
          · obtain rfl : j = k := by omega
            exact HQ.out
        case measure => simp [intOf]; omega
    · obtain rfl : k = vs.length := by omega
      go_wp2_with fail
      go_ret
      refine ⟨ret_bool ?_, m, rfl⟩
      symm
      simp only [valsOk, decide_eq_true HN.out, Bool.true_and, List.all_eq_true]
      intro y hy
      obtain ⟨j, hj, rfl⟩ := List.getElem_of_mem hy
      exact hr.out j hj hj
set_option maxRecDepth 100000 in
set_option maxHeartbeats 1000000 in
theorem l07All_c (p u : Int) (l : List Eqn) (vs : List Int) (b : Nat) (v2 v3 : Value) (w : World) (hx : Rd w [v2] l) (hv : Rd w [v3] vs) (c0 : w.cell? ⟨b, 0, none⟩ = some (.int .i64 p)) (c2 : w.cell? ⟨b, 2, none⟩ = some v2) (hp0 : 1 ≤ p) (hp : p ≤ 3) (hu : u ≤ 1000) (he : ∀ e, e ∈ l → eqnOk p u e = true) (ho : valsOk p vs u = true) :
    Calls Try.prog 64 #[.pointer (some ⟨b, 0, none⟩), v3] w fun e w' => e = .returned (.bool (l.all (holdsE p vs))) ∧ ∃ n, w' = w.drewN n := by
  obtain ⟨a, c, rfl, hr⟩ := rd_list hx
  have hb := (rdSl_len hr).2
  unfold maxLen at hb
  obtain ⟨a', c', rfl, _⟩ := rd_list hv
  have HR := Lib.hid hr
  have HV := Lib.hid hv
  have HE := Lib.hid he
  have HO := Lib.hid ho
  clear hx hr hv he ho
  go_enter Try.func64, Try.ntmps64
  go_wp2_with fail
  go_loopw [5] (fun i wr => ∃ k m : Nat, k ≤ l.length ∧ i = .int .i64 k ∧ wr = w.drewN m ∧ Hid (∀ j (hj : j < l.length), j < k → holdsE p vs l[j] = true)) (fun i _ => l.length - (intOf i).toNat)
  case atStart => exact ⟨0, 0, Nat.zero_le _, rfl, rfl, fun j _ hj => absurd hj (Nat.not_lt_zero _)⟩
  case round =>
    obtain ⟨k, m, hk, rfl, rfl, hr⟩ := hrel
    by_cases hlt : k < l.length
    · obtain ⟨b', o', u0, u1, rfl, q0, q1, hx⟩ := rdSl_two rfl HR.out k hlt
      have HX := Lib.hid hx
      clear hx
      have HEk := Lib.hid (HE.out l[k] (List.getElem_mem hlt))
      cases hq : holdsE p vs l[k] with
      | false =>
        have HQ := Lib.hid hq
        clear hq
        go_wp2_with fail
        refine wp_region_noPanic (wp_region_el (fun w' => w'.cell? ⟨b, 0, none⟩ = some (.int .i64 p) ∧ w'.cell? ⟨b, 2, none⟩ = some (.slice (some ⟨b', o', none⟩) l.length c)) [(0, 0), (1, 0), (2, 0), (3, 0), (4, 0), (5, 0), (6, 0), (7, 0), (8, 0), (9, 0), (10, 0), (11, 1), (12, 0)] (by kernel_rfl) (by kernel_rfl) (by kernel_rfl) rfl ?_ (fun _ _ _ _ _ h => h) ?_)
        · exact ⟨c0, c2⟩
        (repeat (first | (apply el_skip rfl (by rfl); try simp only [Act.put, List.setIfInBounds_toArray, List.set_cons_zero, List.set_cons_succ]) | (apply el_float rfl (by rfl); (· (intro w' hS; go_simp <;> with_reducible rfl)); (try simp only [Act.put, List.setIfInBounds_toArray, List.set_cons_zero, List.set_cons_succ]))))
        refine el_hard rfl (by rfl) (fun K hK => ?_)
        go_wp2_with (go_at_call 106; refine (l07Holds_c p u l[k] vs b' (o' + k * 2) u0 u1 _ _ (Rd.mono HX.out (drewN_below w _)) (Rd.mono HV.out (drewN_below w _)) q0 q1 hp0 hp hu HEk.out HO.out).mono ?_; rintro e w1 ⟨rfl, n1, rfl⟩)
        rw [HQ.out]
        refine ⟨⟨c0, c2⟩, ?_⟩
        (repeat (first | (apply el_skip rfl (by rfl); try simp only [Act.put, List.setIfInBounds_toArray, List.set_cons_zero, List.set_cons_succ]) | (apply el_float rfl (by rfl); (· (intro w' hS; go_simp <;> with_reducible rfl)); (try simp only [Act.put, List.setIfInBounds_toArray, List.set_cons_zero, List.set_cons_succ]))))
        refine el_nil (NoPanic.normal ?_)
        go_wp2_with fail
        go_ret
        refine ⟨ret_bool ?_, _, rfl⟩
        symm
        exact List.all_eq_false.2 ⟨_, List.getElem_mem hlt, by simp [HQ.out]⟩
      | true =>
        have HQ := Lib.hid hq
        clear hq
        go_wp2_with fail
        refine wp_region_noPanic (wp_region_el (fun w' => w'.cell? ⟨b, 0, none⟩ = some (.int .i64 p) ∧ w'.cell? ⟨b, 2, none⟩ = some (.slice (some ⟨b', o', none⟩) l.length c)) [(0, 0), (1, 0), (2, 0), (3, 0), (4, 0), (5, 0), (6, 0), (7, 0), (8, 0), (9, 0), (10, 0), (11, 1), (12, 0)] (by kernel_rfl) (by kernel_rfl) (by kernel_rfl) rfl ?_ (fun _ _ _ _ _ h => h) ?_)
        · exact ⟨c0, c2⟩
        (repeat (first | (apply el_skip rfl (by rfl); try simp only [Act.put, List.setIfInBounds_toArray, List.set_cons_zero, List.set_cons_succ]) | (apply el_float rfl (by rfl); (· (intro w' hS; go_simp <;> with_reducible rfl)); (try simp only [Act.put, List.setIfInBounds_toArray, List.set_cons_zero, List.set_cons_succ]))))
        refine el_hard rfl (by rfl) (fun K hK => ?_)
        go_wp2_with (go_at_call 106; refine (l07Holds_c p u l[k] vs b' (o' + k * 2) u0 u1 _ _ (Rd.mono HX.out (drewN_below w _)) (Rd.mono HV.out (drewN_below w _)) q0 q1 hp0 hp hu HEk.out HO.out).mono ?_; rintro e w1 ⟨rfl, n1, rfl⟩)
        rw [HQ.out]
        refine ⟨⟨c0, c2⟩, ?_⟩
        (repeat (first | (apply el_skip rfl (by rfl); try simp only [Act.put, List.setIfInBounds_toArray, List.set_cons_zero, List.set_cons_succ]) | (apply el_float rfl (by rfl); (· (intro w' hS; go_simp <;> with_reducible rfl)); (try simp only [Act.put, List.setIfInBounds_toArray, List.set_cons_zero, List.set_cons_succ]))))
        refine el_nil (NoPanic.normal ?_)
        go_wp2_with fail
        go_roundw
        case rel =>
          refine ⟨k + 1, _, by omega, by go_num, rfl, ?_⟩
          intro j hj hjk
          rcases Nat.lt_or_ge j k with h | h
          · exact hr.out j hj h
          · obtain rfl : j = k := by omega
            exact HQ.out
        case measure => simp [intOf]; omega
    · obtain rfl : k = l.length := by omega
      go_wp2_with fail
      go_ret
      refine ⟨ret_bool ?_, m, rfl⟩
      symm
      rw [List.all_eq_true]
      intro y hy
      obtain ⟨j, hj, rfl⟩ := List.getElem_of_mem hy
      exact hr.out j hj hj
set_option maxRecDepth 100000 in
set_option maxHeartbeats 1000000 in
theorem sHoldsIn_c (x : Sys) (v0 v1 v2 : Value) (vs : List Int) (v3 : Value) (w : World) (hx : Rd w [v0, v1, v2] x) (hv : Rd w [v3] vs) :
    Calls Try.prog 16 #[.agg #[v0, v1, v2], v3] w fun e w' => e = .returned (.tuple #[.bool (holdsF x vs).1, .int .i64 (holdsF x vs).2]) ∧ Below w.heap.size w w' := by
  obtain ⟨p, u, l⟩ := x
  have HX := Lib.hid hx
  have HV := Lib.hid hv
  have z := rd_cons rfl hx
  obtain ⟨rfl, _⟩ := rd_i1 z.1
  have z2 := rd_cons rfl z.2
  obtain ⟨rfl, _⟩ := rd_i1 z2.1
  have RL := Lib.hid z2.2
  obtain ⟨a, c, rfl, _⟩ := rd_list RL.out
  obtain ⟨a', c', rfl, _⟩ := rd_list hv
  clear hx z z2 hv
  have hs := (St.start w).alloc #[.int .i64 p, .int .i64 u, .slice a l.length c] 31 rfl
  go_enter Try.func16, Try.ntmps16
  go_wp2_with fail
  refine (l07Ok_c (p, u, l) _ _ _ _ _ (Rd.mono HX.out hs.bel) (hs.cellAt 0 rfl 0 rfl) (hs.cellAt 0 rfl 1 rfl) (hs.cellAt 0 rfl 2 rfl)).mono ?_
  rintro e w1 ⟨rfl, n1, rfl⟩
  have hs1 := hs.drewN n1
  cases hok : validS (p, u, l) with
  | false =>
    have HK := Lib.hid hok
    clear hok
    go_wp2_with fail
    refine bodyPost_ret (v := .tuple #[.bool false, .int .i64 1]) (by simp [results, Try.results16, go_sem]) rfl ⟨?_, hs1.bel⟩
    unfold holdsF; rw [HK.out]; rfl
  | true =>
    obtain ⟨hp, hu, hl, he⟩ := validS_get hok
    have HK := Lib.hid hok
    have HE := Lib.hid he
    clear hok he
    go_wp2_with fail
    refine (l07Values_c (p, u, l) vs _ _ _ _ _ rfl rfl (Rd.mono HV.out hs1.bel) (hs1.cellAt 0 rfl 0 rfl) (hs1.cellAt 0 rfl 1 rfl) hp).mono ?_
    rintro e w2 ⟨rfl, n2, rfl⟩
    have hs2 := hs.drewN (n1 + n2)
    cases hvo : valsOk p vs u with
    | false =>
      have HO := Lib.hid hvo
      clear hvo
      go_wp2_with fail
      refine bodyPost_ret (v := .tuple #[.bool false, .int .i64 2]) (by simp [results, Try.results16, go_sem]) rfl ⟨?_, hs2.bel⟩
      unfold holdsF; simp only [HK.out, HO.out]; rfl
    | true =>
      have HO := Lib.hid hvo
      clear hvo
      go_wp2_with fail
      refine (l07All_c p u l vs _ _ _ _ (Rd.mono RL.out hs2.bel) (Rd.mono HV.out hs2.bel) (hs2.cellAt 0 rfl 0 rfl) (hs2.cellAt 0 rfl 2 rfl) (by omega) (by omega) (by omega) HE.out HO.out).mono ?_
      rintro e w3 ⟨rfl, n3, rfl⟩
      go_wp2_with fail
      refine bodyPost_ret (v := .tuple #[.bool (l.all (holdsE p vs)), .int .i64 0]) (by simp [results, Try.results16, go_sem]) rfl ⟨?_, (hs.drewN (n1 + n2 + n3)).bel⟩
      unfold holdsF; simp only [HK.out, HO.out]; rfl

end Go.Proofs.Ytkbeihkjhmillaa
