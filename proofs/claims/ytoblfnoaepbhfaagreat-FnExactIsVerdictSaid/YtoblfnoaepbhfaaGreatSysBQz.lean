import Derived.Test.YtoblfnoaepbhfaaGreatRowsBQz
import Derived.Test.YtoblfnoaepbhfaaGreatBaseQz
import Derived.Deep.RegionHeld3
set_option linter.unusedSimpArgs false
set_option linter.unusedVariables false
set_option maxHeartbeats 4000000
set_option maxRecDepth 100000
namespace Go.Proofs.YtoblfnoaepbhfaaGreat
open Go.Proofs.Tryz
open Go.RowKit Go.Shelf
open Rep (Rd Own sz)
def bG (size : Int) (l : List Int) (n : Int) : Bool := decide ((l.length : Int) = n) && l.all (fun a => inB a 0 (size - 1))
def gK (p u : Int) (e : nG) : Bool := bG p e.1 u && inB e.2 0 (p - 1)
def jo (s : Sys) : Bool := sW s.1 && inB s.2.1 1 12 && decide (s.2.2.length ≤ 24) && s.2.2.all (gK s.1 s.2.1)
theorem mM {α : Type} (l : List α) (q : α → Bool) : (!l.any fun a => !q a) = l.all q := by
 induction l with
 | nil => rfl
 | cons x xs ih => simp [← ih]
theorem BJ {p u : Int} {l : List nG} (h : jo (p, u, l) = true) : (p = 2 ∨ p = 3) ∧ (1 ≤ u ∧ u ≤ 12) ∧ l.length ≤ 24 ∧ ∀ e, e ∈ l → gK p u e = true := by
 simp only [jo, Bool.and_eq_true, decide_eq_true_eq, List.all_eq_true] at h
 exact ⟨lH h.1.1.1, bQ h.1.1.2, h.1.2, h.2⟩
def yY (s : Sys) : Bool := sW s.1 && inB s.2.1 1 12 && decide (s.2.2.length ≤ 1000) && s.2.2.all (gK s.1 s.2.1)
theorem Lr {p u : Int} {l : List nG} (h : yY (p, u, l) = true) : (p = 2 ∨ p = 3) ∧ (1 ≤ u ∧ u ≤ 12) ∧ l.length ≤ 1000 ∧ ∀ e, e ∈ l → gK p u e = true := by
 simp only [yY, Bool.and_eq_true, decide_eq_true_eq, List.all_eq_true] at h
 exact ⟨lH h.1.1.1, bQ h.1.1.2, h.1.2, h.2⟩
theorem ZQ {s : Sys} (h : jo s = true) : yY s = true := by
 simp only [jo, yY, Bool.and_eq_true, decide_eq_true_eq] at h ⊢
 exact ⟨⟨h.1.1, by omega⟩, h.2⟩
theorem Ls (size v : Int) (w : World) (h0 : -1000 ≤ size) (h1 : size ≤ 1000000000) :
 Calls prog 269 #[.int .i64 size, .int .i64 v] w fun e w' => e = .returned (.bool (inB v 0 (size - 1))) ∧ w = w' := by
 go_enter func269, ntmps269
 go_wp2_with fail
 refine (iZ _ _ _ _).mono ?_
 rintro e w1 ⟨rfl, rfl⟩
 go_wp2_with fail
 go_ret
 exact ⟨rfl, rfl⟩
theorem Ku (size : Int) (b : Nat) (w : World) (l : List Int) (h0 : -1000 ≤ size) (h1 : size ≤ 1000000000) (hc : w.cell? ⟨b, 0, none⟩ = some (.int .i64 size)) :
 WJ 268 #[.pointer (some ⟨b, 0, none⟩)] w l (fun a => !inB a 0 (size - 1)) := by
 intro W x u0 hb hr _
 obtain ⟨rfl, _⟩ := aG hr
 have hc' := qC hb hc
 show Calls prog 268 #[_, .pointer (some ⟨b, 0, none⟩)] W _
 go_enter func268, ntmps268
 go_wp2_with fail
 refine (Ls size x _ h0 h1).mono ?_
 rintro e w1 ⟨rfl, rfl⟩
 go_wp2_with fail
 go_ret
 exact ⟨rfl, Below.refl _ _⟩
theorem oQ (size : Int) (l : List Int) (v : Value) (n : Int) (w : World) (r : Rd w [v] l) (h0 : -1000 ≤ size) (h1 : size ≤ 1000000000) :
 Calls prog 147 #[.int .i64 size, v, .int .i64 n] w fun e w' => e = .returned (.bool (bG size l n)) ∧ Below w.heap.size w w' := by
 obtain ⟨a, c, rfl, hr⟩ := ah r
 have hb := (aN hr).2
 unfold maxLen at hb
 have HR := qH r
 clear r hr
 have hs := (St.start w).alloc #[.int .i64 size] 2 rfl
 have eg : ∀ args w, (callFunc 268 args).run prog w = .ok (.enter 268 args) w := enters_of func268 (by kernel_rfl) rfl
 by_cases hn : (l.length : Int) = n
 · have hn1 : ((l.length : Int) == n) = true := by simpa using hn
   have HN := qH hn
   clear hn
   go_enter func147, ntmps147
   go_wp2_with fail
   refine (zN l _ 268 _ _ _ (Rd.mono HR.out hs.bel) eg (Ku size w.heap.size _ l h0 h1 (hs.c 0 0))).mono ?_
   rintro e w1 ⟨rfl, hb1⟩
   go_wp2_with fail
   go_ret
   refine ⟨ak ?_, (hs.step hb1).bel⟩
   unfold bG
   rw [decide_eq_true HN.out, Bool.true_and, ← mM]
 have hn1 : ((l.length : Int) == n) = false := by simpa using hn
 have HN := qH hn
 clear hn
 go_enter func147, ntmps147
 go_wp2_with fail
 go_ret
 refine ⟨ak ?_, hs.bel⟩
 unfold bG
 rw [decide_eq_false HN.out, Bool.false_and]
theorem N9 (p u : Int) (x : nG) (v0 v1 : Value) (w : World) (hx : Rd w [v0, v1] x) (h0 : -1000 ≤ p) (h1 : p ≤ 1000000000) :
 Calls prog 281 #[.int .i64 p, .int .i64 u, .agg #[v0, v1]] w fun e w' => e = .returned (.bool (gK p u x)) ∧ Below w.heap.size w w' := by
 obtain ⟨l, n⟩ := x
 have z := au rfl hx
 have RL := qH z.1
 obtain ⟨a, c, rfl, _⟩ := ah RL.out
 obtain ⟨rfl, _⟩ := aG z.2
 clear hx z
 have hs := (St.start w).alloc #[.slice a l.length c, .int .i64 n] 200 rfl
 go_enter func281, ntmps281
 go_wp2_with fail
 refine (oQ p l _ u _ (Rd.mono RL.out hs.bel) h0 h1).mono ?_
 rintro e w1 ⟨rfl, hb1⟩
 have hs1 := hs.step hb1
 obtain ⟨q0, q1⟩ := hs1.c2 0 0 0 1
 cases hv : bG p l u
 · have HV := qH hv
   clear hv
   go_wp2_with fail
   go_ret
   exact ⟨ak (by simp [gK, HV.out]), hs1.bel⟩
 have HV := qH hv
 clear hv
 go_wp2_with fail
 refine (Ls p n _ h0 h1).mono ?_
 rintro e w2 ⟨rfl, rfl⟩
 go_wp2_with fail
 go_ret
 exact ⟨ak (by simp [gK, HV.out]), hs1.bel⟩
theorem FY (p u : Int) (b : Nat) (w : World) (l : List nG) (h0 : -1000 ≤ p) (h1 : p ≤ 1000000000) (hc0 : w.cell? ⟨b, 0, none⟩ = some (.int .i64 p)) (hc1 : w.cell? ⟨b, 1, none⟩ = some (.int .i64 u)) :
 ZL 280 #[.pointer (some ⟨b, 0, none⟩)] w l (fun e => !gK p u e) := by
 intro W x v0 v1 hb hx _
 obtain ⟨hc0', hc1'⟩ := iQ hb hc0 hc1
 show Calls prog 280 #[_, .pointer (some ⟨b, 0, none⟩)] W _
 have hb' := World.block_lt_of_cell? _ _ hc0'
 have HX := qH hx
 have z := au rfl hx
 obtain ⟨a, c, rfl, _⟩ := ah z.1
 obtain ⟨rfl, _⟩ := aG z.2
 clear hx z
 have hs := (St.start W).alloc #[.slice a x.1.length c, .int .i64 x.2] 200 rfl
 obtain ⟨hd0, hd1⟩ := iQ hs.bel hc0' hc1'
 go_enter func280, ntmps280
 go_wp2_with fail
 refine (N9 p u x _ _ _ (Rd.mono HX.out hs.bel) h0 h1).mono ?_
 rintro e w1 ⟨rfl, hb1⟩
 go_wp2_with fail
 go_ret
 exact ⟨rfl, (hs.step hb1).bel⟩
theorem Kv (x : Sys) (v0 v1 v2 : Value) (w : World) (hx : Rd w [v0, v1, v2] x) :
 Calls prog 158 #[.agg #[v0, v1, v2]] w fun e w' => e = .returned (.bool (jo x)) ∧ Below w.heap.size w w' := by
 obtain ⟨p, u, l⟩ := x
 have z := au rfl hx
 obtain ⟨rfl, _⟩ := aG z.1
 have z2 := au rfl z.2
 obtain ⟨rfl, _⟩ := aG z2.1
 have RL := qH z2.2
 obtain ⟨a, c, rfl, hr⟩ := ah RL.out
 have hb := (aN hr).2
 unfold maxLen at hb
 clear hx z z2 hr
 have hs := (St.start w).alloc #[.int .i64 p, .int .i64 u, .slice a l.length c] 61 rfl
 have eg : ∀ args w, (callFunc 280 args).run prog w = .ok (.enter 280 args) w := enters_of func280 (by kernel_rfl) rfl
 go_enter func158, ntmps158
 go_wp2_with fail
 refine (KZ p _).mono ?_
 rintro e w1 ⟨rfl, rfl⟩
 cases hp : sW p
 · have HP := qH hp
   clear hp
   go_wp2_with fail
   go_ret
   exact ⟨ak (by simp [jo, HP.out]), hs.bel⟩
 have hpp := lH hp
 have HP := qH hp
 clear hp
 go_wp2_with fail
 refine (iZ u 1 12 _).mono ?_
 rintro e w1 ⟨rfl, rfl⟩
 cases hu : inB u 1 12
 · have HU := qH hu
   clear hu
   go_wp2_with fail
   go_ret
   exact ⟨ak (by simp [jo, HU.out]), hs.bel⟩
 have HU := qH hu
 clear hu
 by_cases hl : l.length ≤ 24
 · have HL := qH hl
   go_wp2_with fail
   refine (Iq l _ 280 _ _ _ (Rd.mono RL.out hs.bel) eg (FY p u w.heap.size _ l (by omega) (by omega) (hs.c 0 0) (hs.c 0 1))).mono ?_
   rintro e w1 ⟨rfl, hb1⟩
   go_wp2_with fail
   go_ret
   refine ⟨ak ?_, (hs.step hb1).bel⟩
   unfold jo
   simp only [HP.out, HU.out, decide_eq_true HL.out, Bool.true_and]
   rw [← mM]
 have HL := qH hl
 go_wp2_with fail
 go_ret
 exact ⟨ak (by simp only [jo, decide_eq_false HL.out, Bool.and_false, Bool.false_and]), hs.bel⟩
theorem Bj (p u : Int) (x : nG) (b o : Nat) (v0 v1 : Value) (w : World) (hx : Rd w [v0, v1] x) (c0 : w.cell? ⟨b, o, none⟩ = some v0) (c1 : w.cell? ⟨b, o + 1, none⟩ = some v1) (h0 : -1000 ≤ p) (h1 : p ≤ 1000000000) :
 Calls prog 276 #[.int .i64 p, .int .i64 u, .pointer (some ⟨b, o, none⟩)] w fun e w' => e = .returned (.bool (gK p u x)) ∧ w = w' := by
 obtain ⟨l, n⟩ := x
 have z := au rfl hx
 obtain ⟨a, c, rfl, hr⟩ := ah z.1
 obtain ⟨rfl, _⟩ := aG z.2
 have hb := (aN hr).2
 unfold maxLen at hb
 have HR := qH hr
 clear hx z hr
 by_cases hn : (l.length : Int) = u
 rotate_left
 · have hn1 : ((l.length : Int) != u) = true := by simpa using hn
   have HN := qH hn
   clear hn
   go_enter func276, ntmps276
   go_wp2_with fail
   go_ret
   exact ⟨ak (by simp [gK, bG, HN.out]), rfl⟩
 have hn1 : ((l.length : Int) != u) = false := by simpa using hn
 have HN := qH hn
 clear hn
 go_enter func276, ntmps276
 go_wp2_with fail
 refine (dw n 0 (p - 1) _).mono ?_
 rintro e w1 ⟨rfl, rfl⟩
 cases hi : inB n 0 (p - 1)
 · have HI := qH hi
   clear hi
   go_wp2_with fail
   go_ret
   exact ⟨ak (by simp [gK, HI.out]), rfl⟩
 have HI := qH hi
 clear hi
 go_wp2_with fail
 go_loopw [7] (fun i wr => ∃ k : Nat, k ≤ l.length ∧ i = .int .i64 k ∧ wr = w ∧ Hid (∀ j (hj : j < l.length), j < k → inB l[j] 0 (p - 1) = true)) (fun i _ => l.length - (intOf i).toNat)
 case atStart => exact ⟨0, Nat.zero_le _, rfl, rfl, fun j _ hj => absurd hj (Nat.not_lt_zero _)⟩
 obtain ⟨k, hk, rfl, rfl, hr⟩ := hrel
 by_cases hlt : k < l.length
 rotate_left
 · obtain rfl : k = l.length := by omega
   go_wp2_with fail
   go_ret
   refine ⟨ak ?_, rfl⟩
   symm
   simp only [gK, bG, Bool.and_eq_true, List.all_eq_true, HI.out, decide_eq_true HN.out, true_and, and_true]
   intro y hy
   obtain ⟨j, hj, rfl⟩ := List.getElem_of_mem hy
   exact hr.out j hj hj
 obtain ⟨b', o', rfl, hc, _⟩ := eF HR.out k hlt
 have hc' : wr.cell? ⟨b', o' + k, none⟩ = some (.int .i64 l[k]) := by simpa [List.getD, hlt] using hc
 clear hc
 go_wp2_with fail
 refine (dw l[k] 0 (p - 1) _).mono ?_
 rintro e w1 ⟨rfl, rfl⟩
 cases hq : inB l[k] 0 (p - 1)
 · have HQ := qH hq
   clear hq
   go_wp2_with fail
   go_ret
   refine ⟨ak ?_, rfl⟩
   symm
   simp only [gK, bG, Bool.and_eq_false_iff]
   exact .inl (.inr (List.all_eq_false.2 ⟨_, List.getElem_mem hlt, by simp [HQ.out]⟩))
 have HQ := qH hq
 clear hq
 go_wp2_with fail
 go_roundw
 case rel =>
  refine ⟨k + 1, by omega, by go_num, trivial, ?_⟩
  intro j hj hjk
  rcases Nat.lt_or_ge j k with h | h
  · exact hr.out j hj h
  obtain rfl : j = k := by omega
  exact HQ.out
 simp [intOf]; omega
theorem adF (x : Sys) (b : Nat) (v0 v1 v2 : Value) (w : World) (hx : Rd w [v0, v1, v2] x) (c0 : w.cell? ⟨b, 0, none⟩ = some v0) (c1 : w.cell? ⟨b, 1, none⟩ = some v1) (c2 : w.cell? ⟨b, 2, none⟩ = some v2) :
 Calls prog 153 #[.pointer (some ⟨b, 0, none⟩)] w fun e w' => e = .returned (.bool (jo x)) ∧ ∃ n, w' = w.drewN n := by
 obtain ⟨p, u, l⟩ := x
 have z := au rfl hx
 obtain ⟨rfl, _⟩ := aG z.1
 have z2 := au rfl z.2
 obtain ⟨rfl, _⟩ := aG z2.1
 obtain ⟨a, c, rfl, hr⟩ := ah z2.2
 have hb := (aN hr).2
 unfold maxLen at hb
 have HR := qH hr
 clear hx z z2 hr
 go_enter func153, ntmps153
 go_wp2_with fail
 refine (Hr p _).mono ?_
 rintro e w1 ⟨rfl, rfl⟩
 cases hp : sW p
 · have HP := qH hp
   clear hp
   go_wp2_with fail
   go_ret
   exact ⟨ak (by simp [jo, HP.out]), 0, rfl⟩
 have hpp := lH hp
 have HP := qH hp
 clear hp
 go_wp2_with fail
 refine (dw u 1 12 _).mono ?_
 rintro e w1 ⟨rfl, rfl⟩
 cases hu : inB u 1 12
 · have HU := qH hu
   clear hu
   go_wp2_with fail
   go_ret
   exact ⟨ak (by simp [jo, HU.out]), 0, rfl⟩
 have HU := qH hu
 clear hu
 by_cases hl : 24 < l.length
 · have HL := qH (show ¬ l.length ≤ 24 by omega)
   go_wp2_with fail
   go_ret
   exact ⟨ak (by simp only [jo, decide_eq_false HL.out, Bool.and_false, Bool.false_and]), 0, rfl⟩
 have HL := qH (show l.length ≤ 24 by omega)
 go_wp2_with fail
 go_loopw [3] (fun i wr => ∃ k m : Nat, k ≤ l.length ∧ i = .int .i64 k ∧ wr = w.drewN m ∧ Hid (∀ j (hj : j < l.length), j < k → gK p u l[j] = true)) (fun i _ => l.length - (intOf i).toNat)
 case atStart => exact ⟨0, 0, Nat.zero_le _, rfl, rfl, fun j _ hj => absurd hj (Nat.not_lt_zero _)⟩
 obtain ⟨k, m, hk, rfl, rfl, hr⟩ := hrel
 by_cases hlt : k < l.length
 rotate_left
 · obtain rfl : k = l.length := by omega
   go_wp2_with fail
   go_ret
   refine ⟨ak ?_, m, rfl⟩
   symm
   simp only [jo, HP.out, HU.out, decide_eq_true HL.out, Bool.true_and, List.all_eq_true]
   intro y hy
   obtain ⟨j, hj, rfl⟩ := List.getElem_of_mem hy
   exact hr.out j hj hj
 obtain ⟨b', o', u0, u1, rfl, q0, q1, hx⟩ := dP rfl HR.out k hlt
 have HX := qH hx
 clear hx
 cases hq : gK p u l[k]
 · have HQ := qH hq
   clear hq
   go_wp2_with fail
   refine BG (fun w' => cI w' b 0 p ∧ cI w' b 1 u ∧ cV w' b 2 (.slice (some ⟨b', o', none⟩) l.length c)) [(0, 0), (1, 0), (2, 0), (3, 0), (4, 0), (5, 0), (6, 0), (7, 0), (8, 0), (9, 0), (10, 0), (11, 0), (12, 0), (13, 0), (14, 1), (15, 0)] ?_ ?_
   · exact ⟨c0, c1, c2⟩
   refine nH ?_
   refine wU fun K hK => ?_
   go_wp2_with (go_at_call 276; refine (Bj p u l[k] b' (o' + k * 2) u0 u1 _ (Rd.mono HX.out (dQ w _)) q0 q1 (by omega) (by omega)).mono ?_; rintro e w1 ⟨rfl, rfl⟩)
   rw [HQ.out]
   refine ⟨⟨c0, c1, c2⟩, ?_⟩
   refine nH ?_
   refine elN ?_
   go_wp2_with fail
   go_ret
   refine ⟨ak ?_, m + 1, rfl⟩
   symm
   simp only [jo, Bool.and_eq_false_iff]
   exact .inr (List.all_eq_false.2 ⟨_, List.getElem_mem hlt, by simp [HQ.out]⟩)
 have HQ := qH hq
 clear hq
 go_wp2_with fail
 refine BG (fun w' => cI w' b 0 p ∧ cI w' b 1 u ∧ cV w' b 2 (.slice (some ⟨b', o', none⟩) l.length c)) [(0, 0), (1, 0), (2, 0), (3, 0), (4, 0), (5, 0), (6, 0), (7, 0), (8, 0), (9, 0), (10, 0), (11, 0), (12, 0), (13, 0), (14, 1), (15, 0)] ?_ ?_
 · exact ⟨c0, c1, c2⟩
 refine nH ?_
 refine wU fun K hK => ?_
 go_wp2_with (go_at_call 276; refine (Bj p u l[k] b' (o' + k * 2) u0 u1 _ (Rd.mono HX.out (dQ w _)) q0 q1 (by omega) (by omega)).mono ?_; rintro e w1 ⟨rfl, rfl⟩)
 rw [HQ.out]
 refine ⟨⟨c0, c1, c2⟩, ?_⟩
 refine nH ?_
 refine elN ?_
 go_wp2_with fail
 go_roundw
 case rel =>
  refine ⟨k + 1, m + 1, by omega, by go_num, rfl, ?_⟩
  intro j hj hjk
  rcases Nat.lt_or_ge j k with h | h
  · exact hr.out j hj h
  obtain rfl : j = k := by omega
  exact HQ.out
 simp [intOf]; omega
def dX (l vs : List Int) : Int := (List.zipWith (· * ·) l vs).sum
theorem Lu {l vs : List Int} {k : Nat} (h : k < l.length) (h2 : k < vs.length) : dX (l.take (k + 1)) (vs.take (k + 1)) = dX (l.take k) (vs.take k) + l[k] * vs[k] := by
 unfold dX
 rw [List.take_succ_eq_append_getElem h, List.take_succ_eq_append_getElem h2, List.zipWith_append (by simp; omega), List.sum_append]
 simp
def fA (p : Int) (vs : List Int) (e : nG) : Bool := decide (dX e.1 vs % p = e.2)
theorem iR {p n : Int} {l : List Int} (h : bG p l n = true) : (l.length : Int) = n ∧ ∀ k (hk : k < l.length), 0 ≤ l[k] ∧ l[k] ≤ p - 1 := by
 simp only [bG, Bool.and_eq_true, decide_eq_true_eq, List.all_eq_true] at h
 exact ⟨h.1, fun k hk => bQ (h.2 _ (List.getElem_mem hk))⟩
theorem LC {a b p : Int} (ha : 0 ≤ a ∧ a ≤ p - 1) (hb : 0 ≤ b ∧ b ≤ p - 1) (hp : p ≤ 3) : 0 ≤ a * b ∧ a * b ≤ 4 := by
 refine ⟨Int.mul_nonneg ha.1 hb.1, ?_⟩
 have h1 : a * b ≤ 2 * b := Int.mul_le_mul_of_nonneg_right (by omega) hb.1
 omega
theorem ZR (p u : Int) (x : nG) (vs : List Int) (v0 v1 v2 : Value) (w : World) (hx : Rd w [v0, v1] x) (hv : Rd w [v2] vs) (hp0 : 1 ≤ p) (hp : p ≤ 3) (hu : u ≤ 1000) (he : gK p u x = true) (ho : bG p vs u = true) :
 Calls prog 274 #[.int .i64 p, .agg #[v0, v1], v2] w fun e w' => e = .returned (.bool (fA p vs x)) ∧ Below w.heap.size w w' := by
 obtain ⟨l, n⟩ := x
 have z := au rfl hx
 obtain ⟨a, c, rfl, hr⟩ := ah z.1
 obtain ⟨rfl, _⟩ := aG z.2
 obtain ⟨a', c', rfl, hr'⟩ := ah hv
 simp only [gK, Bool.and_eq_true] at he
 obtain ⟨l1, l2⟩ := iR he.1
 obtain ⟨o1, o2⟩ := iR ho
 have HR := qH hr
 have HR' := qH hr'
 have L2 := qH l2
 have O2 := qH o2
 have HLEN := qH (show l.length = vs.length by omega)
 have hlen : l.length ≤ 1000 := by omega
 clear hx z hr hv hr' he ho l2 o2 l1 o1
 have hs := (St.start w).alloc #[.slice a l.length c, .int .i64 n] 200 rfl
 go_enter func274, ntmps274
 go_wp2_with fail
 go_loopw [7, 13] (fun s i wr => ∃ (k : Nat) (S : Int), k ≤ l.length ∧ s = .int .i64 S ∧ i = .int .i64 k ∧ 0 ≤ S ∧ S ≤ 4 * k ∧ wr = (w.alloc (.cells #[.slice a l.length c, .int .i64 n] 200)) ∧ Hid (S = dX (l.take k) (vs.take k))) (fun _ i _ => l.length - (intOf i).toNat)
 case atStart => exact ⟨0, 0, Nat.zero_le _, rfl, rfl, by omega, by omega, rfl, by simp [Hid, dX]⟩
 obtain ⟨k, S, hk, rfl, rfl, S0, S1, rfl, hS⟩ := hrel
 by_cases hlt : k < l.length
 · have k2 : k < vs.length := by rw [← HLEN.out]; exact hlt
   have hm := LC (L2.out k hlt) (O2.out k k2) hp
   have hd := qH (Lu hlt k2)
   have iA := L2.out k hlt
   have iB := O2.out k k2
   obtain ⟨b1, o1, rfl, f1, _⟩ := eF HR.out k hlt
   obtain ⟨b2, o2, rfl, f2, _⟩ := eF HR'.out k k2
   have g1 : w.cell? ⟨b1, o1 + k, none⟩ = some (.int .i64 l[k]) := by simpa [List.getD, hlt] using f1
   have g2 : w.cell? ⟨b2, o2 + k, none⟩ = some (.int .i64 vs[k]) := by simpa [List.getD, k2] using f2
   have h1 := qC (aB w (.cells #[.slice (some ⟨b1, o1, none⟩) l.length c, .int .i64 n] 200)) g1
   have h2 := qC (aB w (.cells #[.slice (some ⟨b1, o1, none⟩) l.length c, .int .i64 n] 200)) g2
   clear f1 f2 g1 g2
   have kv : (k : Int) < vs.length := by omega
   generalize l[k] = A at *
   generalize vs[k] = B at *
   go_wp2_with fail
   go_roundw
   case rel => exact ⟨k + 1, S + A * B, by omega, rfl, by go_num, by omega, by omega, trivial, by simp only [Hid]; rw [hd.out, ← hS.out]⟩
   simp [intOf]; omega
 obtain rfl : k = l.length := by omega
 have q1 := hs.c 0 1
 have hp1 : p ≠ 0 := by omega
 have hT : S.tmod p = S % p := Int.tmod_eq_emod_of_nonneg S0
 have hb0 := Int.emod_nonneg S hp1
 have hb1 := Int.emod_lt_of_pos S (show 0 < p by omega)
 go_wp2_with fail
 go_quiet (fail)
 go_wp2_with fail
 go_ret
 refine ⟨ak ?_, hs.bel.trans ((dQ _ _).mono hs.bel.size)⟩
 have h1 := hS.out
 rw [List.take_of_length_le (Nat.le_refl _), List.take_of_length_le (by rw [HLEN.out]; exact Nat.le_refl _)] at h1
 simp only [fA, ← h1]
 first | rfl | (rw [hT]; by_cases hq : S % p = n <;> simp [hq]) | (by_cases hq : S % p = n <;> simp [hq])
theorem Ya {S n p : Int} (h0 : 0 ≤ n) (h1 : n ≤ p - 1) : ((S - n) % p == 0) = decide (S % p = n) := by
 have e : (S - n) % p = 0 ↔ S % p = n := by
  rw [← Int.emod_eq_emod_iff_emod_sub_eq_zero, Int.emod_eq_of_lt h0 (by omega : n < p)]
 by_cases h : S % p = n
 · rw [decide_eq_true h, beq_iff_eq]; exact e.2 h
 rw [decide_eq_false h, beq_eq_false_iff_ne]; exact fun h' => h (e.1 h')
theorem TT (p u : Int) (x : nG) (vs : List Int) (b o : Nat) (v0 v1 v2 : Value) (w : World) (hx : Rd w [v0, v1] x) (hv : Rd w [v2] vs) (c0 : w.cell? ⟨b, o, none⟩ = some v0) (c1 : w.cell? ⟨b, o + 1, none⟩ = some v1) (hp0 : 1 ≤ p) (hp : p ≤ 3) (hu : u ≤ 1000) (he : gK p u x = true) (ho : bG p vs u = true) :
 Calls prog 263 #[.int .i64 p, .pointer (some ⟨b, o, none⟩), v2] w fun e w' => e = .returned (.bool (fA p vs x)) ∧ ∃ n, w' = w.drewN n := by
 obtain ⟨l, n⟩ := x
 have z := au rfl hx
 obtain ⟨a, c, rfl, hr⟩ := ah z.1
 obtain ⟨rfl, _⟩ := aG z.2
 obtain ⟨a', c', rfl, hr'⟩ := ah hv
 simp only [gK, Bool.and_eq_true] at he
 obtain ⟨l1, l2⟩ := iR he.1
 obtain ⟨o1, o2⟩ := iR ho
 have hn := bQ he.2
 have HR := qH hr
 have HR' := qH hr'
 have L2 := qH l2
 have O2 := qH o2
 have HLEN := qH (show l.length = vs.length by omega)
 have hlen : vs.length ≤ 1000 := by omega
 have hlen2 : l.length ≤ 1000 := by omega
 clear hx z hr hv hr' he ho l2 o2 l1 o1
 go_enter func263, ntmps263
 go_wp2_with fail
 go_loopw [7, 8] (fun s i wr => ∃ (k m : Nat) (S : Int), k ≤ vs.length ∧ s = .int .i64 S ∧ i = .int .i64 k ∧ 0 ≤ S ∧ S ≤ 4 * k ∧ wr = w.drewN m ∧ Hid (S = dX (l.take k) (vs.take k))) (fun _ i _ => vs.length - (intOf i).toNat)
 case atStart => exact ⟨0, 0, 0, Nat.zero_le _, rfl, rfl, by omega, by omega, rfl, by simp [Hid, dX]⟩
 obtain ⟨k, m, S, hk, rfl, rfl, S0, S1, rfl, hS⟩ := hrel
 by_cases hlt : k < vs.length
 rotate_left
 · obtain rfl : k = vs.length := by omega
   go_wp2_with fail
   refine (wV _ _ _ (by omega) (by omega)).mono ?_
   rintro e w2 ⟨rfl, rfl⟩
   go_wp2_with fail
   go_ret
   refine ⟨ak ?_, m, rfl⟩
   have h1 := hS.out
   rw [List.take_of_length_le (by rw [HLEN.out]; exact Nat.le_refl _), List.take_of_length_le (Nat.le_refl _)] at h1
   rw [Ya hn.1 hn.2]
   simp only [fA, ← h1]
 have k2 : k < l.length := by rw [HLEN.out]; exact hlt
 have hm := LC (L2.out k k2) (O2.out k hlt) hp
 have hd := qH (Lu k2 hlt)
 have iA := L2.out k k2
 have iB := O2.out k hlt
 obtain ⟨b1, o1, rfl, f1, _⟩ := eF HR.out k k2
 obtain ⟨b2, o2, rfl, f2, _⟩ := eF HR'.out k hlt
 have g1 : w.cell? ⟨b1, o1 + k, none⟩ = some (.int .i64 l[k]) := by simpa [List.getD, k2] using f1
 have g2 : w.cell? ⟨b2, o2 + k, none⟩ = some (.int .i64 vs[k]) := by simpa [List.getD, hlt] using f2
 clear f1 f2
 have kv : (k : Int) < l.length := by omega
 generalize l[k] = A at *
 generalize vs[k] = B at *
 go_wp2_with fail
 go_quiet (fail)
 go_wp2_with fail
 go_roundw
 case rel => exact ⟨k + 1, _, S + A * B, by omega, rfl, by go_num, by omega, by omega, rfl, by simp only [Hid]; rw [hd.out, ← hS.out]⟩
 simp [intOf]; omega
open Go.IntWalk
def jE (p : Int) (l : List nG) (b : List Int) (U : Nat) : Nat → pR
 | 0 => (List.replicate (U + 1) 0, [])
 | j + 1 => AU p (b.getD j 0) (jE p l b U j) ((l.getD j ([], 0)).1 ++ [(l.getD j ([], 0)).2], [])
def jq (p : Int) (l : List nG) (b : List Int) (U : Nat) : Nat → dF
 | 0 => (List.replicate U 0, 0, [])
 | j + 1 => rP p (p - b.getD j 0) (jq p l b U j) ((l.getD j ([], 0)).1, (l.getD j ([], 0)).2, [])
def kS (s : Sys) (b : List Int) : Bool × Int :=
 if jo s = true then (if bG s.1 b s.2.2.length = true then (jY (jE s.1 s.2.2 b s.2.1.toNat s.2.2.length), 0) else (false, 0)) else (false, 1)
theorem nV {p : Int} {U : Nat} {e : nG} (h : gK p U e = true) : e.1.length = U ∧ wz p e.1 ∧ 0 ≤ e.2 ∧ e.2 < p := by
 simp only [gK, Bool.and_eq_true] at h
 obtain ⟨h1, h2⟩ := iR h.1
 have h3 := bQ h.2
 refine ⟨by omega, fun a ha => ?_, h3.1, by omega⟩
 obtain ⟨i, hi, rfl⟩ := List.getElem_of_mem ha
 have := h2 i hi
 omega
theorem Dj {p : Int} {U : Nat} {l : List nG} (he : ∀ e, e ∈ l → gK p U e = true) {j : Nat} (hj : j < l.length) : gK p U (l.getD j ([], 0)) = true := by
 simp only [List.getD, List.getElem?_eq_getElem hj, Option.getD_some]; exact he _ (List.getElem_mem hj)
theorem yF {p : Int} {U : Nat} {l : List nG} (b : List Int) (hp : 2 ≤ p) (he : ∀ e, e ∈ l → gK p U e = true) : ∀ j, j ≤ l.length → GoodS p U 0 (jq p l b U j)
 | 0, _ => ⟨by simp [jq], rfl, fun a ha => by have := List.eq_of_mem_replicate ha; omega, ⟨Int.le_refl _, by show (0 : Int) < p; omega⟩, fun a ha => by cases ha⟩
 | j + 1, hj => by
  have h := nV (Dj he (by omega : j < l.length))
  exact yB (by omega) _ (yF b hp he j (by omega)) ⟨h.1, rfl, h.2.1, h.2.2, fun a ha => by cases ha⟩
theorem BL {p : Int} {U : Nat} {l : List nG} (b : List Int) (hp : 2 ≤ p) (he : ∀ e, e ∈ l → gK p U e = true) : ∀ j, j ≤ l.length → flat (jq p l b U j) = jE p l b U j
 | 0, _ => by
  unfold jq jE flat
  simp only
  rw [List.replicate_succ']
 | j + 1, hj => by
  have h := nV (Dj he (by omega : j < l.length))
  have ho : GoodS p U 0 ((l.getD j ([], 0)).1, (l.getD j ([], 0)).2, []) := ⟨h.1, rfl, h.2.1, h.2.2, fun a ha => by cases ha⟩
  unfold jq jE
  rw [Lj _ (yF b hp he j (by omega)) ho, BL b hp he j (by omega), show p - (p - b.getD j 0) = b.getD j 0 by omega]
  rfl
theorem Au {p : Int} {U n : Nat} {r : dF} (h : GoodS p U n r) : (flat r).1.length = U + 1 ∧ (flat r).2.length = n ∧ wz p (flat r).1 ∧ wz p (flat r).2 := by
 refine ⟨by simp [flat, h.len], h.NY, fun a ha => ?_, h.Le⟩
 rcases List.mem_append.1 ha with ha | ha
 · exact h.res a ha
 obtain rfl : a = r.2.1 := by simpa using ha
 exact h.right
theorem Qr {p : Int} {l : List Int} {x : Int} (h : wz p l) (hx : 0 ≤ x ∧ x < p) : wz p (l ++ [x]) := fun a ha => by
 rcases List.mem_append.1 ha with ha | ha
 · exact h a ha
 · obtain rfl : a = x := by simpa using ha
   exact hx
theorem Aw {H : Nat} {w : World} {n : Int} (h : I64 n) : aQ H w [.int .i64 n] n := ⟨[], ⟨rfl, rfl, h⟩, by simp, by simp⟩
theorem ZT {p : Int} {b : List Int} {n : Int} (h : bG p b n = true) {j : Nat} (hj : j < b.length) : 0 ≤ b.getD j 0 ∧ b.getD j 0 < p := by
 have := (iR h).2 j hj
 simp only [List.getD, List.getElem?_eq_getElem hj, Option.getD_some]
 omega
theorem Iw (x : Sys) (v0 v1 v2 : Value) (vs : List Int) (v3 : Value) (w : World) (hx : Rd w [v0, v1, v2] x) (hv : Rd w [v3] vs) :
 Calls prog 177 #[.agg #[v0, v1, v2], v3] w fun e w' => e = .returned (.tuple #[.bool (kS x vs).1, .int .i64 (kS x vs).2]) ∧ Below w.heap.size w w' := by
 obtain ⟨p, u, l⟩ := x
 have HX := qH hx
 have HV := qH hv
 have z := au rfl hx
 obtain ⟨rfl, _⟩ := aG z.1
 have z2 := au rfl z.2
 obtain ⟨rfl, _⟩ := aG z2.1
 have RL := qH z2.2
 obtain ⟨a, c, rfl, _⟩ := ah RL.out
 obtain ⟨a', c', rfl, _⟩ := ah hv
 clear hx z z2 hv
 have hs := (St.start w).alloc #[.int .i64 p, .int .i64 u, .slice a l.length c] 61 rfl
 go_enter func177, ntmps177
 go_wp2_with fail
 refine (Kv (p, u, l) _ _ _ _ (Rd.mono HX.out hs.bel)).mono ?_
 rintro e w1 ⟨rfl, hb1⟩
 have hs1 := hs.step hb1
 obtain ⟨q0, q1, q2⟩ := hs1.c3 0 0 0 1 0 2
 cases hok : jo (p, u, l)
 · have HK := qH hok
   clear hok
   go_wp2_with fail
   refine bodyPost_ret (v := .tuple #[.bool false, .int .i64 1]) (by simp [results, results177, go_sem]) rfl ⟨?_, hs1.bel⟩
   unfold kS; rw [HK.out]; rfl
 obtain ⟨hp, hu, hl, he⟩ := BJ hok
 have HK := qH hok
 have HE := qH he
 clear hok he
 go_wp2_with fail
 refine (oQ p vs _ l.length _ (Rd.mono HV.out hs1.bel) (by omega) (by omega)).mono ?_
 rintro e w2 ⟨rfl, hb2⟩
 have hs2 := hs1.step hb2
 clear q0 q1 q2
 obtain ⟨q0, q1, q2⟩ := hs2.c3 0 0 0 1 0 2
 cases AX : bG p vs l.length
 · have HO := qH AX
   clear AX
   go_wp2_with fail
   refine bodyPost_ret (v := .tuple #[.bool false, .int .i64 0]) (by simp [results, results177, go_sem]) rfl ⟨?_, hs2.bel⟩
   unfold kS; simp only [HK.out, HO.out]; rfl
 have HO := qH AX
 have hvl := (iR AX).1
 clear AX
 obtain ⟨U, rfl⟩ : ∃ U : Nat, u = U := ⟨u.toNat, by omega⟩
 have hp0 : 2 ≤ p := by omega
 have hp3 : p ≤ 3 := by omega
 have HG := qH (fun j hj => Au (yF vs hp0 HE.out j hj))
 have HF := qH (fun j hj => BL vs hp0 HE.out j hj)
 go_wp2_with (at_make; refine bV _ rfl _ _ 28 rfl eH (0 : Int) iL (U + 1) (by omega) rfl rfl ?_)
 intro w3 hown hb3 hz3
 have hs3 := (hs2.step hb3).alloc #[.slice (some ⟨w2.heap.size, 0, none⟩) (U + 1) (U + 1), .slice none 0 0] 223 (n := w2.heap.size + 1) hz3.symm
 have hR0 := qH (P5 hown)
 clear hown q0 q1 q2
 have q2 := hs3.c 0 2
 go_wp2_with fail
 go_loopw [30] (fun i wr => ∃ (j : Nat) (am : Option Addr) (cm : Nat) (an : Option Addr) (cn : Nat), j ≤ l.length ∧ i = .int .i64 j ∧ Hid (St w wr.heap.size wr [(w.heap.size, #[.int .i64 p, .int .i64 U, .slice a l.length c], 61), (w2.heap.size + 1, #[.slice am (U + 1) cm, .slice an 0 cn], 223)]) ∧ Hid (Rd wr [.slice am (U + 1) cm, .slice an 0 cn] (jE p l vs U j))) (fun i _ => l.length - (intOf i).toNat)
 case atStart =>
  refine ⟨0, some ⟨w2.heap.size, 0, none⟩, U + 1, none, 0, Nat.zero_le _, rfl, hs3.up hs3.hi (Nat.le_refl _), ?_⟩
  exact ru (Rd.mono hR0.out (aB _ _)) ⟨none, 0, rfl, by simp, by simp, fun i hi => by simp at hi⟩
 obtain ⟨j, am, cm, an, cn, hj, rfl, hst, hrd⟩ := hrel
 by_cases hlt : j < l.length
 rotate_left
 · obtain rfl : j = l.length := by omega
   have hg := HG.out l.length (Nat.le_refl _)
   rw [HF.out l.length (Nat.le_refl _)] at hg
   have Iy := qH hg
   clear hg
   obtain ⟨q0, q1⟩ := hst.out.c2 1 0 1 1
   go_wp2_with fail
   refine (Qn (jE p l vs U l.length) _ _ _ hrd.out (by rw [Iy.out.1]; omega) (by rw [Iy.out.1]; omega)).mono ?_
   rintro e w4 ⟨rfl, hb4⟩
   have hs4 := hst.out.step hb4
   obtain ⟨k0, k1⟩ := hs4.c2 1 0 1 1
   cases hn : Ld (jE p l vs U l.length).1
   · have HN := qH hn
     clear hn
     go_wp2_with fail
     refine bodyPost_ret (v := .tuple #[.bool false, .int .i64 0]) (by simp [results, results177, go_sem]) rfl ⟨?_, hs4.bel⟩
     unfold kS jY; simp only [HK.out, HO.out, Int.toNat_natCast, HN.out]; rfl
   have HN := qH hn
   clear hn
   go_wp2_with fail
   refine (N8 (jE p l vs U l.length) _ _ _ (Rd.mono hrd.out hb4) (by rw [Iy.out.1]; omega) (by rw [Iy.out.1]; omega)).mono ?_
   rintro e w5 ⟨rfl, hb5⟩
   go_wp2_with fail
   refine bodyPost_ret (v := .tuple #[.bool (zK (jE p l vs U l.length).1 != 0), .int .i64 0]) (by simp [results, results177, go_sem]) rfl ⟨?_, (hs4.step hb5).bel⟩
   unfold kS jY; simp only [HK.out, HO.out, Int.toNat_natCast, HN.out, Bool.true_and]; rfl
 obtain ⟨bl, ol, y0, y1, rfl, f0, f1, hx⟩ := dL rfl (Rd.mono RL.out hst.out.bel) j hlt
 obtain ⟨bv, ov, rfl, fv, hIv⟩ := aI HV.out j (by omega)
 have hge := qH (Dj HE.out hlt)
 have gv := ZT HO.out (show j < vs.length by omega)
 have eE : l.getD j ([], 0) = l[j] := by simp [List.getD, hlt]
 have eV : vs.getD j 0 = vs[j]'(by omega) := by simp [List.getD, show j < vs.length by omega]
 have hstep := qH (show jE p l vs U (j + 1) = AU p (vs.getD j 0) (jE p l vs U j) ((l.getD j ([], 0)).1 ++ [(l.getD j ([], 0)).2], []) from rfl)
 rw [eV] at gv hstep
 rw [eE] at hge hstep
 have hg := HG.out j hj
 rw [HF.out j hj] at hg
 have Iy := qH hg
 have hg1 := HG.out (j + 1) hlt
 rw [HF.out (j + 1) hlt] at hg1
 have adG := qH hg1
 clear hg hg1 eE
 have ZU := qH hx
 clear hx
 generalize hB : vs[j]'(by omega) = B at *
 clear hB eV
 generalize l[j] = E at *
 obtain ⟨El, Er⟩ := E
 have ze := au rfl ZU.out
 have RE := qH ze.1
 obtain ⟨ae, ce, rfl, _⟩ := ah RE.out
 obtain ⟨rfl, hIr⟩ := aG ze.2
 obtain ⟨gE1, gE2, gE3⟩ := nV hge.out
 simp only at gE1 gE2 gE3
 have GE1 := qH gE1
 have GE2 := qH gE2
 clear ze ZU hge gE1 gE2
 have hs4 := hst.out.alloc #[.slice ae El.length ce, .int .i64 Er] 200 rfl
 have hsd := hs4.drew
 have hjv : (j : Int) < vs.length := by omega
 have hzw : w.heap.size < w2.heap.size := Nat.lt_of_lt_of_le (hs2.box _ (List.mem_of_getElem? (i := 0) rfl)).2.1 hs2.hi
 have hzr : w2.heap.size + 1 < wr.heap.size := (hst.out.box _ (List.mem_of_getElem? (i := 1) rfl)).2.1
 have hU : El.length ≤ 12 := by rw [GE1.out]; omega
 have hq := ((St.start wr).alloc #[.slice ae El.length ce, .int .i64 Er] 200 rfl).drew
 go_wp2_with fail
 refine trR (fun w' => cI w' w.heap.size 0 p ∧ cV w' (w2.heap.size + 1) 0 (.slice am (U + 1) cm) ∧ cV w' (w2.heap.size + 1) 1 (.slice an 0 cn) ∧ cV w' wr.heap.size 0 (.slice ae El.length ce) ∧ cI w' wr.heap.size 1 Er ∧ cI w' bv (ov + j) B) (.z [0,1,2,3,4,6,7,11,12,13,14] (.mF 5 (.hard 8 (.hard 9 (.float 10 (.hard 15 (.last 16 .nil))))) 8 (.hard 5 (.hard 9 (.float 10 (.hard 15 (.last 16 .nil))))))) ?_ ?_
 · exact hsd.d5 0 0 1 0 1 1 2 0 2 1 (qC hsd.bel fv:)
 refine vK ?_
 refine uz ?_ ?_
 · refine wW fun K hK => ?_
   go_wp2_with (go_at_call 121; refine (jm El _ _ (Rd.mono RE.out hq.bel) (by omega)).mono ?_; rintro e w4 ⟨b4, rfl, Iz, hb4⟩)
   have hs5 := hsd.step hb4
   have hq5 := hq.step hb4
   obtain ⟨m4, n4, rfl, _⟩ := Acc.len Iz
   refine ⟨(hs5.d5 0 0 1 0 1 1 2 0 2 1 (qC hs5.bel fv:)), ?_⟩
   refine vK ?_
   refine wW fun K hK => ?_
   go_wp2_with fail
   have TU := hs5.step (aB _ (.cells #[.int .i64 Er] 2))
   have Oa := hq5.step (aB _ (.cells #[.int .i64 Er] 2))
   refine ⟨(TU.d5 0 0 1 0 1 1 2 0 2 1 (qC TU.bel fv:)), ?_⟩
   refine vK ?_
   refine wW fun K hK => ?_
   refine iq _ _ _ _ rfl eH rfl (Iz.mono (aB _ (.cells #[.int .i64 Er] 2))) (Aw hIr) (by first | (simp; done) | (have Zx := hb4.size; simp at Zx ⊢; omega)) (by simp) ⟨w4.heap.size, 0, none⟩ 1 rfl (fun z u hz => by
    cases z with
    | zero => simp at hz; subst hz; exact (aA (heap_alloc_new w4 _))
    | succ z => simp at hz) (by omega) ?_
   intro a5 c5 w5 PO ZV _
   have hs6 := TU.qA (ZV.mono (by simp))
   have hq6 := Oa.qA (ZV.mono (by simp))
   refine hK _ _ ⟨(hs6.d5 0 0 1 0 1 1 2 0 2 1 (qC hs6.bel fv:)), ?_⟩
   refine vK ?_
   refine wW fun K hK => ?_
   go_wp2_with (go_at_call 284; refine (yD p B (jE p l vs U j) (El ++ [Er], []) _ _ _ _ _ (Rd.mono hrd.out hq6.bel) (ru (by simpa using PO.rd) ⟨none, 0, rfl, by simp, by simp, fun i hi => by simp at hi⟩) (by rw [Iy.out.1]; omega) (by rw [Iy.out.2.1]; omega) hp0 hp3 gv.1 (by omega) Iy.out.2.2.1 Iy.out.2.2.2 (Qr GE2.out gE3) (fun a ha => by cases ha) (by rw [Iy.out.1]; simp; rw [GE1.out]; exact Nat.le_refl _) (by simp)).mono ?_; rintro e w6 ⟨o0, o1, rfl, fr, hb6⟩)
   rw [← hstep.out] at fr
   have zz := au rfl fr.rd
   obtain ⟨a0, c0, h0, _⟩ := ah zz.1
   obtain ⟨a1, c1, h1, _⟩ := ah zz.2
   rw [adG.out.1] at h0
   rw [adG.out.2.1] at h1
   subst h0 h1
   have hs7 := hs6.step hb6
   refine ⟨(hs7.d5 0 0 1 0 1 1 2 0 2 1 (qC hs7.bel fv:)), ?_⟩
   refine vK ?_
   have g0 := hs7.aC 1 rfl 0
   have g1 := hs7.aC 1 rfl 1
   obtain ⟨k0, k1⟩ := hs7.c2 1 0 1 1
   have FR := qH fr
   have hz6 : w2.heap.size + 1 < w5.heap.size := Nat.lt_of_lt_of_le (hs6.box _ (List.mem_of_getElem? (i := 1) rfl)).2.1 hs6.hi
   clear fr zz
   refine Zl fun K hK => ?_
   go_wp2_with fail
   refine XV ?_
   go_wp2_with fail
   go_roundw
   case rel =>
    have x1 := hs7.set (p := [_]) (by simp <;> omega) 0 (.slice a0 (U + 1) c0)
    have x2 := x1.set (p := [_]) (by simp <;> omega) 1 (.slice a1 0 c1)
    refine ⟨j + 1, a0, c0, a1, c1, hlt, by go_num, (x2.sub (fun x hx => by simp at hx ⊢; rcases hx with rfl | rfl <;> simp)).up x2.hi (Nat.le_refl _), ?_⟩
    exact ((FR.out.setCell (a := ⟨w2.heap.size + 1, 0, none⟩) hz6 _).setCell (a := ⟨w2.heap.size + 1, 1, none⟩) hz6 _).rd
   simp [intOf]; omega
 refine wW fun K hK => ?_
 go_wp2_with fail
 have hs5 := hsd.step (aB _ (.cells #[.int .i64 Er] 2))
 have hq5 := hq.step (aB _ (.cells #[.int .i64 Er] 2))
 refine ⟨(hs5.d5 0 0 1 0 1 1 2 0 2 1 (qC hs5.bel fv:)), ?_⟩
 refine vK ?_
 refine wW fun K hK => ?_
 go_wp2_with (go_at_call 121; refine (jm El _ _ (Rd.mono RE.out hq5.bel) (by omega)).mono ?_; rintro e w4 ⟨b4, rfl, Iz, hb4⟩)
 have TU := hs5.step hb4
 have Oa := hq5.step hb4
 obtain ⟨m4, n4, rfl, _⟩ := Acc.len Iz
 refine ⟨(TU.d5 0 0 1 0 1 1 2 0 2 1 (qC TU.bel fv:)), ?_⟩
 refine vK ?_
 refine wW fun K hK => ?_
 refine iq _ _ _ _ rfl eH rfl Iz (Aw hIr) (by first | (simp; done) | (have Zx := hb4.size; simp at Zx ⊢; omega)) (by simp) ⟨wr.heap.size + 1, 0, none⟩ 1 rfl (fun z u hz => by
  cases z with
  | zero => simp at hz; subst hz; exact (qC hb4 (aA (iV _ _ (by simp))))
  | succ z => simp at hz) (by omega) ?_
 intro a5 c5 w5 PO ZV _
 have hs6 := TU.qA (ZV.mono (by simp))
 have hq6 := Oa.qA (ZV.mono (by simp))
 refine hK _ _ ⟨(hs6.d5 0 0 1 0 1 1 2 0 2 1 (qC hs6.bel fv:)), ?_⟩
 refine vK ?_
 refine wW fun K hK => ?_
 go_wp2_with (go_at_call 284; refine (yD p B (jE p l vs U j) (El ++ [Er], []) _ _ _ _ _ (Rd.mono hrd.out hq6.bel) (ru (by simpa using PO.rd) ⟨none, 0, rfl, by simp, by simp, fun i hi => by simp at hi⟩) (by rw [Iy.out.1]; omega) (by rw [Iy.out.2.1]; omega) hp0 hp3 gv.1 (by omega) Iy.out.2.2.1 Iy.out.2.2.2 (Qr GE2.out gE3) (fun a ha => by cases ha) (by rw [Iy.out.1]; simp; rw [GE1.out]; exact Nat.le_refl _) (by simp)).mono ?_; rintro e w6 ⟨o0, o1, rfl, fr, hb6⟩)
 rw [← hstep.out] at fr
 have zz := au rfl fr.rd
 obtain ⟨a0, c0, h0, _⟩ := ah zz.1
 obtain ⟨a1, c1, h1, _⟩ := ah zz.2
 rw [adG.out.1] at h0
 rw [adG.out.2.1] at h1
 subst h0 h1
 have hs7 := hs6.step hb6
 refine ⟨(hs7.d5 0 0 1 0 1 1 2 0 2 1 (qC hs7.bel fv:)), ?_⟩
 refine vK ?_
 have g0 := hs7.aC 1 rfl 0
 have g1 := hs7.aC 1 rfl 1
 obtain ⟨k0, k1⟩ := hs7.c2 1 0 1 1
 have FR := qH fr
 have hz6 : w2.heap.size + 1 < w5.heap.size := Nat.lt_of_lt_of_le (hs6.box _ (List.mem_of_getElem? (i := 1) rfl)).2.1 hs6.hi
 clear fr zz
 refine Zl fun K hK => ?_
 go_wp2_with fail
 refine XV ?_
 go_wp2_with fail
 go_roundw
 case rel =>
  have x1 := hs7.set (p := [_]) (by simp <;> omega) 0 (.slice a0 (U + 1) c0)
  have x2 := x1.set (p := [_]) (by simp <;> omega) 1 (.slice a1 0 c1)
  refine ⟨j + 1, a0, c0, a1, c1, hlt, by go_num, (x2.sub (fun x hx => by simp at hx ⊢; rcases hx with rfl | rfl <;> simp)).up x2.hi (Nat.le_refl _), ?_⟩
  exact ((FR.out.setCell (a := ⟨w2.heap.size + 1, 0, none⟩) hz6 _).setCell (a := ⟨w2.heap.size + 1, 1, none⟩) hz6 _).rd
 simp [intOf]; omega
def kL {α : Type} (f : Nat → α → α) (l : List α) (j : Nat) : List α := (l.take j).mapIdx f ++ l.drop j
@[simp] theorem tN {α : Type} (f : Nat → α → α) (l : List α) (j : Nat) : (kL f l j).length = l.length := by simp [kL]; omega
theorem IE {α : Type} (f : Nat → α → α) (l : List α) : kL f l 0 = l := by simp [kL]
theorem LD {α : Type} (f : Nat → α → α) (l : List α) : kL f l l.length = l.mapIdx f := by simp [kL]
theorem Eo {α : Type} (f : Nat → α → α) (l : List α) (j : Nat) (h : j < l.length) (h' : j < (kL f l j).length) : (kL f l j)[j] = l[j] := by
 simp only [kL]
 rw [List.getElem_append_right (by simp; omega)]
 simp only [List.getElem_drop, List.length_mapIdx, List.length_take]
 congr 1
 omega
theorem BM {α : Type} (f : Nat → α → α) (l : List α) (j : Nat) (h : j < l.length) : (kL f l j).set j (f j l[j]) = kL f l (j + 1) := by
 unfold kL
 have e : ((l.take j).mapIdx f).length = j := by simp; omega
 rw [List.set_append_right _ _ (by omega), e, Nat.sub_self, List.drop_eq_getElem_cons h, sZ, List.take_succ_eq_append_getElem h, List.mapIdx_concat, List.append_assoc]
 simp only [List.length_take, Nat.min_eq_left (Nat.le_of_lt h)]
 rfl
theorem BN {α : Type} (f : Nat → α → α) (l : List α) (j : Nat) (h : j < l.length) (hf : f j l[j] = l[j]) : kL f l (j + 1) = kL f l j := by
 rw [← BM f l j h, hf]
 have := Eo f l j h (by simpa using h)
 rw [← this, List.set_getElem_self]
theorem LG {α : Type} (f : Nat → α → α) (l : List α) (j d : Nat) (h : d < l.length) (hf : f d l[d] = l[d]) (h' : d < (kL f l j).length) : (kL f l j)[d] = l[d] := by
 simp only [kL]
 by_cases hd : d < j
 · rw [List.getElem_append_left (by simp; omega)]
   simp only [List.getElem_mapIdx, List.getElem_take]
   exact hf
 rw [List.getElem_append_right (by simp; omega)]
 simp only [List.getElem_drop, List.length_mapIdx, List.length_take]
 congr 1
 omega
theorem vU {α : Type} (O : NW α) (rows : List α) : ∀ u, (dK O rows u).1.length = rows.length
 | 0 => rfl
 | u + 1 => by
  show (jV O u (dK O rows u)).1.length = _
  rw [← vU O rows u]
  unfold jV
  split
  · rfl
  · simp [wF]
def aT (x : Sys) : List dF × List Int := dK (bJ x.1) (jd x.2.2.length 0 x.2.2) x.2.1.toNat
def oU (x : Sys) : List pR × List Int := dK (fM x.1) (iO x.2.2.length 0 x.2.2) x.2.1.toNat
theorem xg {p : Int} {U : Nat} {l : List nG} (hp : 2 ≤ p) (he : ∀ e, e ∈ l → gK p U e = true) : qI p U l.length (jd l.length 0 l) :=
 Ik hp l 0 (fun e h => nV (he e h))
def IG (p : Int) (U n : Nat) (r : pR) : Prop := r.1.length = U + 1 ∧ r.2.length = n ∧ wz p r.1 ∧ wz p r.2
theorem LH {p : Int} {U : Nat} {l : List nG} (hp : 2 ≤ p) (he : ∀ e, e ∈ l → gK p U e = true) (k : Nat) (hk : k ≤ U) :
 dK (fM p) (iO l.length 0 l) k = ((dK (bJ p) (jd l.length 0 l) k).1.map flat, (dK (bJ p) (jd l.length 0 l) k).2) := by
 rw [← Lm]; exact elim_map (by omega) (xg hp he) k hk
theorem Qs {p : Int} {U : Nat} {l : List nG} (hp : p = 2 ∨ p = 3) (he : ∀ e, e ∈ l → gK p U e = true) (k : Nat) (hk : k ≤ U) :
 (dK (fM p) (iO l.length 0 l) k).1.length = l.length ∧ (dK (fM p) (iO l.length 0 l) k).2.length ≤ l.length ∧ ∀ r, r ∈ (dK (fM p) (iO l.length 0 l) k).1 → IG p U l.length r := by
 have hg := xg (by omega) he
 rw [LH (by omega) he k hk]
 have hL := (vU (bJ p) (jd l.length 0 l) k).trans (nJ _ l 0)
 refine ⟨by simpa using hL, ?_, fun r hr => ?_⟩
 · have := (wZ hp hg k hk).le; simp only; omega
 obtain ⟨s, hs, rfl⟩ := List.mem_map.1 hr
 exact Au (qJ (by omega) hg k s hs)
theorem BO {α : Type} [Rep α] (hα : sz α = 2) {A : Nat → Prop} {w : World} {g n c : Nat} {l : List α} (h : Ip A w [.slice (some ⟨g, 0, none⟩) n c] l) (i : Nat) (hi : i < l.length) :
 ∃ v0 v1, w.cell? ⟨g, i * 2, none⟩ = some v0 ∧ w.cell? ⟨g, i * 2 + 1, none⟩ = some v1 ∧ Rd w [v0, v1] l[i] ∧ (∀ q, w.frozen? ⟨g, q, none⟩ = false) ∧ A g ∧ g < w.heap.size := by
 obtain ⟨g', o, c', cur, e, hv, _, _, hh, hA, _⟩ := vP h (by omega)
 simp only [Value.slice.injEq, Option.some.injEq, Addr.mk.injEq, and_true] at hv
 obtain ⟨⟨rfl, rfl⟩, rfl, rfl⟩ := hv
 obtain ⟨b, o, v0, v1, e, h0, h1, hr⟩ := dL hα h.rd i hi
 simp only [Option.some.injEq, Addr.mk.injEq, and_true] at e
 obtain ⟨rfl, rfl⟩ := e
 rw [Nat.zero_add] at h0 h1
 exact ⟨v0, v1, h0, h1, hr, fun q => aO hh, hA, (Array.getElem?_eq_some_iff.1 hh).1⟩
theorem ZW {α : Type} [Rep α] (hα : sz α = 2) {A : Nat → Prop} {w : World} {g n c : Nat} {l : List α} (h : Ip A w [.slice (some ⟨g, 0, none⟩) n c] l) (d : α) (i j : Nat) (hil : i < l.length) (hjl : j < l.length) {v0 v1 u0 u1 : Value}
 (c0 : w.cell? ⟨g, i * 2, none⟩ = some v0) (c1 : w.cell? ⟨g, i * 2 + 1, none⟩ = some v1) (d0 : w.cell? ⟨g, j * 2, none⟩ = some u0) (d1 : w.cell? ⟨g, j * 2 + 1, none⟩ = some u1) :
 Ip A ((((w.setCell ⟨g, i * 2, none⟩ u0).setCell ⟨g, i * 2 + 1, none⟩ u1).setCell ⟨g, j * 2, none⟩ v0).setCell ⟨g, j * 2 + 1, none⟩ v1) [.slice (some ⟨g, 0, none⟩) n c] (fH d l i j) := by
 have := WH h d i j hil hjl (vi := [v0, v1]) (vj := [u0, u1]) (by rw [hα]; rfl) (by rw [hα]; rfl)
  (fun k hk => by
   rw [hα] at hk ⊢
   rw [Nat.zero_add]
   match k, hk with
   | 0, _ => simpa using c0
   | 1, _ => simpa using c1)
  (fun k hk => by
   rw [hα] at hk ⊢
   rw [Nat.zero_add]
   match k, hk with
   | 0, _ => simpa using d0
   | 1, _ => simpa using d1)
 rw [hα, Nat.zero_add, Nat.zero_add] at this
 exact this
theorem WO {α : Type} [Rep α] (hα : sz α = 2) {A B : Nat → Prop} {w : World} {g n c : Nat} {l : List α} (h : Ip A w [.slice (some ⟨g, 0, none⟩) n c] l) (j : Nat) (hj : j < l.length) {v0 v1 : Value} {y : α} (hy : Ip B w [v0, v1] y) (hAB : ∀ k, A k → ¬ B k) :
 Ip (fun k => A k ∨ B k) ((w.setCell ⟨g, j * 2, none⟩ v0).setCell ⟨g, j * 2 + 1, none⟩ v1) [.slice (some ⟨g, 0, none⟩) n c] (l.set j y) := by
 have := NZ h j hj hy hAB
 rw [hα, Nat.zero_add] at this
 exact this
def row0 : dF := ([], 0, [])
def oH (s : Sys) : Int := iI (aT s).1 (aT s).2.length
def TV (s : Sys) : dF := (aT s).1.getD (oH s).toNat row0
def fO (s : Sys) : Sys := (s.1, s.2.1, if 0 ≤ oH s then [(List.replicate s.2.1.toNat 0, 1)] else ((aT s).1.take (aT s).2.length).map (fun r => (r.1, r.2.1)))
theorem LJ {α : Type} (O : NW α) (rows : List α) : ∀ u, (dK O rows u).2.length ≤ u
 | 0 => Nat.le_refl _
 | u + 1 => by
  have ih := LJ O rows u
  show (jV O u (dK O rows u)).2.length ≤ _
  unfold jV
  split
  · omega
  · simp only [List.length_append, List.length_cons, List.length_nil]; omega
structure su (s : Sys) : Prop where
 hp : s.1 = 2 ∨ s.1 = 3
 hu : 1 ≤ s.2.1 ∧ s.2.1 ≤ 12
 hl : s.2.2.length ≤ 1000
 he : ∀ e, e ∈ s.2.2 → gK s.1 s.2.1 e = true
 len : (aT s).1.length = s.2.2.length
 le : (aT s).2.length ≤ s.2.2.length
 leU : (aT s).2.length ≤ s.2.1.toNat
 good : qI s.1 s.2.1.toNat s.2.2.length (aT s).1
 yG : zL s.1 s.2.1.toNat (aT s).1 (aT s).2
 flat : oU s = ((aT s).1.map flat, (aT s).2)
theorem zQ {s : Sys} (h : yY s = true) : su s := by
 obtain ⟨p, u, l⟩ := s
 obtain ⟨hp, hu, hl, he⟩ := Lr h
 obtain ⟨U, rfl⟩ : ∃ U : Nat, u = U := ⟨u.toNat, by omega⟩
 have hg := xg (by omega) he
 have hL := (vU (bJ p) (jd l.length 0 l) U).trans (nJ _ l 0)
 have hr := wZ hp hg U (Nat.le_refl _)
 have hm := LH (by omega) he U (Nat.le_refl _)
 have hle := hr.le
 refine ⟨hp, hu, hl, he, by unfold aT; simpa using hL, ?_, ?_, ?_, ?_, ?_⟩
 · unfold aT; simp only [Int.toNat_natCast]; rw [hL] at hle; exact hle
 · unfold aT; simp only [Int.toNat_natCast]; exact LJ _ _ _
 · unfold aT; simp only [Int.toNat_natCast]; exact qJ (by omega) hg U
 · unfold aT; simp only [Int.toNat_natCast]; exact hr
 unfold aT oU; simp only [Int.toNat_natCast]; exact hm
theorem adH {s : Sys} (h : jo s = true) : su s := zQ (ZQ h)
theorem ag4 {s : Sys} (h : su s) : dN jY (oU s).1 = oH s := by
 rw [h.flat]
 exact TP h.good h.yG
theorem LM {rows : List dF} {d : Nat} (h : 0 ≤ iI rows d) : (iI rows d).toNat < rows.length ∧ iI rows d = (iI rows d).toNat ∧ d ≤ (iI rows d).toNat := by
 unfold iI at h ⊢
 cases hf : (rows.drop d).findIdx? (fun r => r.2.1 != 0) with
 | none => rw [hf] at h; exact absurd (show (0 : Int) ≤ -1 from h) (by decide)
 | some k =>
  have := Dc hf
  simp only [List.length_drop] at this
  simp only [Int.toNat_natCast]
  exact ⟨by omega, trivial, by omega⟩
theorem Yb {rows : List dF} {d : Nat} (h : 0 ≤ iI rows d) : (rows.getD (iI rows d).toNat row0).2.1 ≠ 0 := by
 unfold iI at h ⊢
 cases hf : (rows.drop d).findIdx? (fun r => r.2.1 != 0) with
 | none => rw [hf] at h; exact absurd (show (0 : Int) ≤ -1 from h) (by decide)
 | some k =>
  rw [List.findIdx?_eq_some_iff_getElem] at hf
  obtain ⟨h1, h2, _⟩ := hf
  simp only [List.length_drop] at h1
  simp only [Int.toNat_natCast]
  simp only [List.getElem_drop, bne_iff_ne] at h2
  simp only [List.getD, List.getElem?_eq_getElem (show d + k < rows.length by omega), Option.getD_some]
  exact h2
theorem su.iO {s : Sys} (h : su s) : (oU s).1.length = s.2.2.length ∧ ∀ r, r ∈ (oU s).1 → IG s.1 s.2.1.toNat s.2.2.length r := by
 rw [h.flat]
 refine ⟨by simpa using h.len, fun r hr => ?_⟩
 obtain ⟨x, hx, rfl⟩ := List.mem_map.1 hr
 exact Au (h.good x hx)
theorem su.ali {s : Sys} (h : su s) : ∀ r, r ∈ (oU s).1 → 0 < r.1.length ∧ r.1.length ≤ 1000000 := fun r hr => by
 have := (h.iO.2 r hr).1
 have := h.hu
 omega
theorem su.bs {s : Sys} (h : su s) (j : Nat) (hj : j < (aT s).2.length) : ∃ b : Nat, (aT s).2[j] = b ∧ b < s.2.1.toNat := by
 have := h.yG.bnd j _ (List.getElem?_eq_getElem hj)
 exact ⟨(aT s).2[j].toNat, by omega, by omega⟩
theorem su.bad {s : Sys} (h : su s) (hf : 0 ≤ oH s) : GoodS s.1 s.2.1.toNat s.2.2.length (TV s) ∧ (TV s).2.1 ≠ 0 :=
 ⟨pU h.good _ (LM hf).1 _, Yb hf⟩
def uI (p : Int) (v : List Int) (r : dF) : Prop := p ∣ dX r.1 v - r.2.1
def tV (p : Int) (v : List Int) (rows : List dF) : Prop := ∀ r, r ∈ rows → uI p v r
theorem lN (a b : Int) (l v : List Int) : dX (a :: l) (b :: v) = a * b + dX l v := by simp [dX]
theorem Qu (p k : Int) : ∀ (l m v : List Int), l.length = m.length → ∃ q, dX (uF p k l m) v = dX l v - k * dX m v + p * q
 | [], [], v, _ => ⟨0, by simp [dX, uF]⟩
 | a :: l, b :: m, [], _ => ⟨0, by simp [dX]⟩
 | a :: l, b :: m, c :: v, h => by
  obtain ⟨q, hq⟩ := Qu p k l m v (by simpa using h)
  have e : uF p k (a :: l) (b :: m) = ((a - k * b) % p) :: uF p k l m := rfl
  refine ⟨q - (a - k * b) / p * c, ?_⟩
  rw [e, lN, lN, lN, hq, Int.emod_def]
  simp only [Int.sub_mul, Int.mul_sub, Int.mul_add, Int.mul_assoc]
  omega
theorem LP (p k : Int) : ∀ (l v : List Int), ∃ q, dX (uG p k l) v = k * dX l v + p * q
 | [], v => ⟨0, by simp [dX, uG]⟩
 | a :: l, [] => ⟨0, by simp [dX]⟩
 | a :: l, c :: v => by
  obtain ⟨q, hq⟩ := LP p k l v
  have e : uG p k (a :: l) = (a * k % p) :: uG p k l := rfl
  refine ⟨q - (a * k) / p * c, ?_⟩
  rw [e, lN, lN, hq, Int.emod_def]
  have : a * k * c = k * (a * c) := by rw [Int.mul_comm a k, Int.mul_assoc]
  simp only [Int.sub_mul, Int.mul_sub, Int.mul_add, Int.mul_assoc] at this ⊢
  omega
theorem LQ {p : Int} {U n : Nat} {v : List Int} {r o : dF} (k : Int) (hr : GoodS p U n r) (ho : GoodS p U n o) (h : uI p v o) : uI p v (rP p k r o) ↔ uI p v r := by
 obtain ⟨q, hq⟩ := Qu p k r.1 o.1 v (by rw [hr.len, ho.len])
 unfold uI rP at *
 simp only
 have e : dX (uF p k r.1 o.1) v - (r.2.1 - k * o.2.1) % p = (dX r.1 v - r.2.1) - k * (dX o.1 v - o.2.1) + p * (q + (r.2.1 - k * o.2.1) / p) := by
  rw [hq, Int.emod_def]
  simp only [Int.mul_sub, Int.mul_add]
  omega
 rw [e]
 have h1 : p ∣ k * (dX o.1 v - o.2.1) := Int.dvd_trans h (Int.dvd_mul_left _ _)
 have h2 : p ∣ p * (q + (r.2.1 - k * o.2.1) / p) := Int.dvd_mul_right _ _
 constructor
 · intro h3
   have h4 := Int.dvd_add (Int.dvd_sub h3 h2) h1
   have e2 : (dX r.1 v - r.2.1) - k * (dX o.1 v - o.2.1) + p * (q + (r.2.1 - k * o.2.1) / p) - p * (q + (r.2.1 - k * o.2.1) / p) + k * (dX o.1 v - o.2.1) = dX r.1 v - r.2.1 := by omega
   rw [e2] at h4; exact h4
 intro h3
 exact Int.dvd_add (Int.dvd_sub h3 h1) h2
theorem TW {p : Int} {v : List Int} {r : dF} (k : Int) (hk : k * k % p = 1) : uI p v (jM p k r) ↔ uI p v r := by
 obtain ⟨q, hq⟩ := LP p k r.1 v
 unfold uI jM
 simp only
 have e : dX (uG p k r.1) v - r.2.1 * k % p = k * (dX r.1 v - r.2.1) + p * (q + r.2.1 * k / p) := by
  rw [hq, Int.emod_def, Int.mul_comm r.2.1 k]
  simp only [Int.mul_sub, Int.mul_add]
  omega
 rw [e]
 have h2 : p ∣ p * (q + r.2.1 * k / p) := Int.dvd_mul_right _ _
 constructor
 · intro h3
   have h4 := Int.dvd_sub h3 h2
   have e2 : k * (dX r.1 v - r.2.1) + p * (q + r.2.1 * k / p) - p * (q + r.2.1 * k / p) = k * (dX r.1 v - r.2.1) := by omega
   rw [e2] at h4
   have h5 : p ∣ k * (k * (dX r.1 v - r.2.1)) := Int.dvd_trans h4 (Int.dvd_mul_left _ _)
   have h6 := Int.emod_def (k * k) p
   rw [hk] at h6
   have e3 : k * (k * (dX r.1 v - r.2.1)) = (dX r.1 v - r.2.1) + p * (k * k / p * (dX r.1 v - r.2.1)) := by
    rw [← Int.mul_assoc, ← Int.mul_assoc]
    have : k * k = 1 + p * (k * k / p) := by omega
    conv => lhs; rw [this]
    rw [Int.add_mul, Int.one_mul]
   rw [e3] at h5
   have h7 := Int.dvd_sub h5 (Int.dvd_mul_right p (k * k / p * (dX r.1 v - r.2.1)))
   rw [Int.add_sub_cancel] at h7
   exact h7
 intro h3
 exact Int.dvd_add (Int.dvd_trans h3 (Int.dvd_mul_left _ _)) h2
theorem xk {α : Type} (d : α) (l : List α) (i j : Nat) (hi : i < l.length) (hj : j < l.length) (k : Nat) : (fH d l i j)[k]? = if k = j then l[i]? else if k = i then l[j]? else l[k]? := by
 unfold fH
 have e1 : l.getD j d = l[j] := by simp [List.getD, hj]
 have e2 : l.getD i d = l[i] := by simp [List.getD, hi]
 rw [e1, e2]
 simp only [List.getElem?_set, List.length_set]
 by_cases h1 : k = j
 · subst h1; simp [hj]
 by_cases h2 : k = i
 · subst h2; simp [h1, Ne.symm h1, hi, hj]
 simp [h1, h2, Ne.symm h1, Ne.symm h2]
theorem Yc {p : Int} {v : List Int} (d : dF) (rows : List dF) (i j : Nat) (hi : i < rows.length) (hj : j < rows.length) : tV p v (fH d rows i j) ↔ tV p v rows := by
 constructor
 · intro h r hr
   obtain ⟨k, hk⟩ := List.mem_iff_getElem?.1 hr
   by_cases h1 : k = i
   · subst h1
     exact h r (List.mem_iff_getElem?.2 ⟨j, by rw [xk d rows k j hi hj, if_pos rfl]; exact hk⟩)
   by_cases h2 : k = j
   · subst h2
     refine h r (List.mem_iff_getElem?.2 ⟨i, ?_⟩)
     rw [xk d rows i k hi hj, if_neg (Ne.symm h1), if_pos rfl]; exact hk
   refine h r (List.mem_iff_getElem?.2 ⟨k, ?_⟩)
   rw [xk d rows i j hi hj, if_neg h2, if_neg h1]; exact hk
 intro h r hr
 obtain ⟨k, hk⟩ := List.mem_iff_getElem?.1 hr
 rw [xk d rows i j hi hj] at hk
 split at hk
 · exact h r (List.mem_iff_getElem?.2 ⟨_, hk⟩)
 split at hk <;> exact h r (List.mem_iff_getElem?.2 ⟨_, hk⟩)
theorem Yd {p : Int} {U n : Nat} (hp : p = 2 ∨ p = 3) {v : List Int} {u : Nat} (hu : u < U) {rows : List dF} {bs : List Int} (hg : qI p U n rows) :
 tV p v (jV (bJ p) u (rows, bs)).1 ↔ tV p v rows := by
 have hp0 : 0 < p := by omega
 unfold jV
 simp only
 split
 · exact Iff.rfl
 rename_i k hk
 rw [List.findIdx?_eq_some_iff_getElem] at hk
 obtain ⟨hk1, hk2, _⟩ := hk
 simp only [List.length_drop] at hk1
 simp only [List.getElem_drop, bne_iff_ne, ne_eq] at hk2
 have hd : bs.length < rows.length := by omega
 have hdk : bs.length + k < rows.length := by omega
 simp only
 unfold wF
 simp only
 rw [Gz _ _ _ _ hd hdk]
 have e0 : rows.getD (bs.length + k) (bJ p).dflt = rows[bs.length + k] := by simp [List.getD, hdk]
 have hg1 := wY hg (bJ p).dflt bs.length (bs.length + k) hd hdk
 have hsw := Yc (p := p) (v := v) (bJ p).dflt rows bs.length (bs.length + k) hd hdk
 have hat : (fH (bJ p).dflt rows bs.length (bs.length + k))[bs.length]? = some rows[bs.length + k] := by
  rw [xk _ _ _ _ hd hdk]
  by_cases h : bs.length = bs.length + k
  · rw [if_pos h]; simp only [← h]; rw [List.getElem?_eq_getElem hd]
  rw [if_neg h, if_pos rfl, List.getElem?_eq_getElem hdk]
 rw [e0, ← hsw]
 have hg0 : GoodS p U n rows[bs.length + k] := hg _ (List.getElem_mem hdk)
 generalize rows[bs.length + k] = x0 at *
 generalize fH (bJ p).dflt rows bs.length (bs.length + k) = r1 at *
 have ZK := uH hg0.res u (by rw [hg0.len]; exact hu)
 have hn : (bJ p).get x0 u = x0.1.getD u 0 := rfl
 rw [hn] at hk2 ⊢
 have TY := ZJ hp ZK.1 ZK.2 hk2
 have hxs : (bJ p).scale x0 (x0.1.getD u 0) = jM p (x0.1.getD u 0) x0 := rfl
 rw [hxs]
 have hgx : GoodS p U n (jM p (x0.1.getD u 0) x0) := rQ hp0 _ hg0
 have hdx : uI p v (jM p (x0.1.getD u 0) x0) ↔ uI p v x0 := TW _ TY
 generalize jM p (x0.1.getD u 0) x0 = x at *
 have hb1 := (List.getElem?_eq_some_iff.1 hat).1
 have hrow : ∀ i r, r1[i]? = some r → i ≠ bs.length → uI p v x → (uI p v (dh (bJ p) u bs.length x i r) ↔ uI p v r) := fun i r hr hi hx => by
  have hgr := hg1 r (List.mem_iff_getElem?.2 ⟨i, hr⟩)
  unfold dh
  rw [if_neg hi]
  show uI p v (if _ then _ else _) ↔ _
  split
  · exact Iff.rfl
  · exact LQ _ hgr hgx hx
 have hget : ∀ i, ((r1.set bs.length x).mapIdx (dh (bJ p) u bs.length x))[i]? = if i = bs.length then some x else (r1[i]?).map (dh (bJ p) u bs.length x i) := fun i => by
  rw [List.getElem?_mapIdx]
  by_cases h : i = bs.length
  · subst h
    rw [List.getElem?_set_self hb1, if_pos rfl]
    simp [dh]
  · rw [List.getElem?_set_ne (Ne.symm h), if_neg h]
 constructor
 · intro h r hr
   obtain ⟨i, hi⟩ := List.mem_iff_getElem?.1 hr
   have hx : uI p v x := h x (List.mem_iff_getElem?.2 ⟨bs.length, by rw [hget, if_pos rfl]⟩)
   by_cases hib : i = bs.length
   · subst hib
     rw [hat] at hi
     simp only [Option.some.injEq] at hi
     subst hi
     exact hdx.1 hx
   exact (hrow i r hi hib hx).1 (h _ (List.mem_iff_getElem?.2 ⟨i, by rw [hget, if_neg hib, hi]; rfl⟩))
 intro h r hr
 obtain ⟨i, hi⟩ := List.mem_iff_getElem?.1 hr
 have hx : uI p v x := hdx.2 (h x0 (List.mem_iff_getElem?.2 ⟨_, hat⟩))
 rw [hget] at hi
 split at hi
 · simp only [Option.some.injEq] at hi; subst hi; exact hx
 rename_i hib
 rw [Option.map_eq_some_iff] at hi
 obtain ⟨q, hq, rfl⟩ := hi
 exact (hrow i q hq hib hx).2 (h q (List.mem_iff_getElem?.2 ⟨i, hq⟩))
theorem LU {p : Int} {U n : Nat} (hp : p = 2 ∨ p = 3) {v : List Int} {rows : List dF} (hg : qI p U n rows) : ∀ u, u ≤ U → (tV p v (dK (bJ p) rows u).1 ↔ tV p v rows)
 | 0, _ => Iff.rfl
 | u + 1, h => by
  have h1 := qJ (by omega : (0 : Int) < p) hg u
  have h2 := LU hp (v := v) hg u (by omega)
  show tV p v (jV (bJ p) u (dK (bJ p) rows u)).1 ↔ _
  rw [← h2]
  exact Yd hp (by omega) h1
theorem yH {p : Int} {v : List Int} {a : List Int} {b : Int} {y : List Int} (hp : 0 < p) (h0 : 0 ≤ b) (h1 : b < p) : fA p v (a, b) = true ↔ uI p v (a, b, y) := by
 unfold fA uI
 simp only [decide_eq_true_eq]
 constructor
 · intro h
   exact ⟨dX a v / p, by have := Int.emod_def (dX a v) p; omega⟩
 rintro ⟨q, hq⟩
 have e : dX a v = b + p * q := by omega
 rw [e, Int.add_mul_emod_self_left, Int.emod_eq_of_lt h0 h1]
theorem LV {p : Int} {v : List Int} (n : Nat) : ∀ (l : List nG) (i : Nat), (∀ e, e ∈ l → 0 < p ∧ 0 ≤ e.2 ∧ e.2 < p) → (tV p v (jd n i l) ↔ l.all (fA p v) = true)
 | [], i, _ => by simp [jd, tV]
 | e :: l, i, h => by
  have ih := LV (p := p) (v := v) n l (i + 1) (fun x hx => h x (List.mem_cons_of_mem _ hx))
  have he := h e (List.mem_cons_self ..)
  rw [List.all_cons, Bool.and_eq_true, ← ih]
  show tV p v ((_, _, _) :: _) ↔ _
  rw [yH (y := (List.replicate n 0).set i 1) he.1 he.2.1 he.2.2]
  constructor
  · intro hh; exact ⟨hh _ (List.mem_cons_self ..), fun r hr => hh r (List.mem_cons_of_mem _ hr)⟩
  · rintro ⟨h1, h2⟩ r hr
    rcases List.mem_cons.1 hr with rfl | hr
    · exact h1
    · exact h2 r hr
theorem uJ : ∀ (l v : List Int), (∀ c, c < l.length → l.getD c 0 = 0) → dX l v = 0
 | [], v, _ => by simp [dX]
 | a :: l, [], _ => by simp [dX]
 | a :: l, c :: v, h => by
  have h0 := h 0 (by simp)
  have ih := uJ l v (fun c hc => by have := h (c + 1) (by simpa using hc); simpa using this)
  simp only [List.getD_cons_zero] at h0
  rw [lN, ih, h0]; simp
theorem Fa {rows : List dF} {d : Nat} (h : ¬ 0 ≤ iI rows d) (i : Nat) (hi : i < rows.length) (hd : d ≤ i) : rows[i].2.1 = 0 := by
 unfold iI at h
 cases hf : (rows.drop d).findIdx? (fun r => r.2.1 != 0) with
 | some k => rw [hf] at h; exact absurd (show (0 : Int) ≤ ((d + k : Nat) : Int) by omega) h
 | none =>
  rw [List.findIdx?_eq_none_iff] at hf
  have := hf rows[i] (List.mem_iff_getElem?.2 ⟨i - d, by rw [List.getElem?_drop, show d + (i - d) = i by omega, List.getElem?_eq_getElem hi]⟩)
  simpa using this
theorem tX {s : Sys} (hv : yY s = true) (v : List Int) : (fO s).2.2.all (fA s.1 v) = s.2.2.all (fA s.1 v) := by
 have K := zQ hv
 obtain ⟨p, u, l⟩ := s
 have hp := K.hp
 have hu := K.hu
 simp only at hp hu
 obtain ⟨U, rfl⟩ : ∃ U : Nat, u = U := ⟨u.toNat, by omega⟩
 have hg := xg (l := l) (U := U) (by omega) K.he
 have h1 := LU hp (v := v) hg U (Nat.le_refl _)
 have h2 := LV (p := p) (v := v) l.length l 0 (fun e he => by have := nV (K.he e he); exact ⟨by omega, this.2.2.1, this.2.2.2⟩)
 have h3 : tV p v (aT (p, (U : Int), l)).1 ↔ l.all (fA p v) = true := by rw [← h2, ← h1]; simp [aT]
 rw [Bool.eq_iff_iff]
 simp only
 rw [← h3]
 by_cases hf : 0 ≤ oH (p, (U : Int), l)
 rotate_left
 · have apM : (fO (p, (U : Int), l)).2.2 = ((aT (p, (U : Int), l)).1.take (aT (p, (U : Int), l)).2.length).map (fun r => (r.1, r.2.1)) := by unfold fO; rw [if_neg hf]
   rw [apM, List.all_map, List.all_eq_true]
   constructor
   · intro h r hr
     obtain ⟨i, hi, rfl⟩ := List.getElem_of_mem hr
     have hgr := K.good _ (List.getElem_mem hi)
     by_cases hd : i < (aT (p, (U : Int), l)).2.length
     · have := h _ (List.mem_iff_getElem?.2 ⟨i, by rw [List.getElem?_take_of_lt hd, List.getElem?_eq_getElem hi]⟩)
       exact (yH (by omega) hgr.right.1 hgr.right.2).1 this
     have h7 := Fa hf i hi (by omega)
     have h8 : dX (aT (p, (U : Int), l)).1[i].1 v = 0 := uJ _ _ (fun c hc => by
      rw [hgr.len] at hc
      exact K.yG.low i _ (List.getElem?_eq_getElem hi) (by omega) c hc)
     unfold uI
     rw [h7, h8]
     simp
   intro h r hr
   have hm := List.mem_of_mem_take hr
   have hgr := K.good _ hm
   exact (yH (y := r.2.2) (by omega) hgr.right.1 hgr.right.2).2 (h r hm)
 have hb := K.bad hf
 have hlt := LM hf
 have hbm : TV (p, (U : Int), l) ∈ (aT (p, (U : Int), l)).1 := by
  unfold TV
  have h4 := hlt.1
  show List.getD _ (iI _ _).toNat row0 ∈ _
  simp only [List.getD, List.getElem?_eq_getElem h4, Option.getD_some]
  exact List.getElem_mem h4
 have hz : dX (TV (p, (U : Int), l)).1 v = 0 := by
  refine uJ _ _ (fun c hc => ?_)
  rw [hb.1.len] at hc
  refine K.yG.low (iI (aT (p, (U : Int), l)).1 (aT (p, (U : Int), l)).2.length).toNat _ ?_ hlt.2.2 c hc
  show _ = some (List.getD _ (iI _ _).toNat row0)
  simp only [List.getD, List.getElem?_eq_getElem hlt.1, Option.getD_some]
 have hr := hb.1.right
 have hr0 := hb.2
 simp only at hr
 constructor
 · intro h
   have : (fO (p, (U : Int), l)).2.2 = [(List.replicate U 0, 1)] := by unfold fO; rw [if_pos hf]; rfl
   rw [this] at h
   simp only [List.all_cons, List.all_nil, Bool.and_true] at h
   have h5 : dX (List.replicate U 0) v = 0 := uJ _ _ (fun c hc => by simp [List.getD, List.getElem?_replicate]; split <;> rfl)
   simp only [fA, h5, decide_eq_true_eq] at h
   simp at h
 intro h
 obtain ⟨q, hq⟩ := h _ hbm
 rw [hz] at hq
 exfalso
 have hq1 : (TV (p, (U : Int), l)).2.1 = p * -q := by rw [Int.mul_neg]; omega
 have h6 : (TV (p, (U : Int), l)).2.1 % p = 0 := by rw [hq1]; exact Int.mul_emod_right _ _
 rw [Int.emod_eq_of_lt hr.1 hr.2] at h6
 exact hr0 h6
theorem Dk : ∀ (l v : List Int) (c : Nat) (x : Int), c < v.length → dX l (v.set c x) = dX l v + l.getD c 0 * (x - v.getD c 0)
 | [], v, c, x, _ => by simp [dX]
 | a :: l, [], c, x, h => by simp at h
 | a :: l, b :: v, 0, x, _ => by
  simp only [sZ, lN, List.getD_cons_zero, Int.mul_sub]; omega
 | a :: l, b :: v, c + 1, x, h => by
  have ih := Dk l v c x (by simpa using h)
  simp only [sS, lN, List.getD_cons_succ, ih]; omega
def sQ (p : Int) (rows : List dF) (bs t : List Int) : Nat → List Int
 | 0 => t
 | j + 1 => (sQ p rows bs t j).set (bs.getD j 0).toNat (((rows.getD j row0).2.1 - dX (rows.getD j row0).1 t) % p)
theorem uh (p : Int) (rows : List dF) (bs t : List Int) : ∀ j, (sQ p rows bs t j).length = t.length
 | 0 => rfl
 | j + 1 => by simp [sQ, uh p rows bs t j]
theorem Az {p : Int} (hp : 0 < p) (rows : List dF) (bs t : List Int) (h : wz p t) : ∀ j, wz p (sQ p rows bs t j)
 | 0 => h
 | j + 1 => fun a ha => by
  rcases List.mem_or_eq_of_mem_set ha with h1 | h1
  · exact Az hp rows bs t h j a h1
  · subst h1; exact ⟨Int.emod_nonneg _ (by omega), Int.emod_lt_of_pos _ hp⟩
theorem afo {p : Int} {u : Nat} {rows : List dF} {bs : List Int} (h : zL p u rows bs) {i j : Nat} (hi : i < bs.length) (hj : j < bs.length) (hij : i ≠ j) : bs[i] ≠ bs[j] := by
 intro e
 have hr := List.getElem?_eq_getElem (show i < rows.length by have := h.le; omega)
 have h1 := h.col i _ i _ hr (List.getElem?_eq_getElem hi)
 have h2 := h.col i _ j _ hr (List.getElem?_eq_getElem hj)
 rw [← e, h1, if_pos rfl, if_neg hij] at h2
 exact absurd h2 (by decide)
theorem Qv {p : Int} {U : Nat} {rows : List dF} {bs t : List Int} (h : zL p U rows bs) (ht : t.length = U) (hz : ∀ j (hj : j < bs.length), t.getD bs[j].toNat 0 = 0) (k : Nat) (hk : k < bs.length) : ∀ j, j ≤ k → (sQ p rows bs t j).getD bs[k].toNat 0 = 0
 | 0, _ => hz k hk
 | j + 1, hj => by
  have hjb : j < bs.length := by omega
  have ih := Qv h ht hz k hk j (by omega)
  have e : (bs.getD j 0) = bs[j] := by simp [List.getD, hjb]
  have b1 := h.bnd j _ (List.getElem?_eq_getElem hjb)
  have b2 := h.bnd k _ (List.getElem?_eq_getElem hk)
  have hne : bs[j].toNat ≠ bs[k].toNat := by have := afo h hjb hk (by omega); omega
  rw [sQ, e]
  generalize ((rows.getD j row0).2.1 - dX (rows.getD j row0).1 t) % p = x
  simp only [List.getD, List.getElem?_set_ne hne]
  simpa [List.getD] using ih
theorem Ep {p : Int} {U : Nat} {rows : List dF} {bs t : List Int} (h : zL p U rows bs) (ht : t.length = U) (hz : ∀ j (hj : j < bs.length), t.getD bs[j].toNat 0 = 0) (x : List Int) :
 ∀ j, j ≤ bs.length → dX x (sQ p rows bs t j) = dX x t + ((List.range j).map (fun i => x.getD (bs.getD i 0).toNat 0 * (((rows.getD i row0).2.1 - dX (rows.getD i row0).1 t) % p))).sum
 | 0, _ => by simp [sQ]
 | j + 1, hj => by
  have hjb : j < bs.length := by omega
  have ih := Ep h ht hz x j (by omega)
  have e : (bs.getD j 0) = bs[j] := by simp [List.getD, hjb]
  have b1 := h.bnd j _ (List.getElem?_eq_getElem hjb)
  have h0 := Qv h ht hz j hjb j (Nat.le_refl _)
  rw [sQ, Dk _ _ _ _ (by rw [uh, e, ht]; omega), ih, List.range_succ, List.map_append, List.sum_append]
  simp only [e, List.map_cons, List.map_nil, List.sum_cons, List.sum_nil, h0, Int.sub_zero, Int.add_zero]
  omega
theorem Qw {l : List Nat} {f : Nat → Int} (h : ∀ i, i ∈ l → f i = 0) : (l.map f).sum = 0 := by
 induction l with
 | nil => rfl
 | cons a l ih => rw [List.map_cons, List.sum_cons, h a (List.mem_cons_self ..), ih (fun i hi => h i (List.mem_cons_of_mem _ hi))]; rfl
theorem WQ {f : Nat → Int} (k : Nat) : ∀ n, k < n → (∀ i, i < n → i ≠ k → f i = 0) → ((List.range n).map f).sum = f k
 | 0, hk, _ => absurd hk (Nat.not_lt_zero _)
 | n + 1, hk, h => by
  rw [List.range_succ, List.map_append, List.sum_append]
  simp only [List.map_cons, List.map_nil, List.sum_cons, List.sum_nil, Int.add_zero]
  by_cases e : k = n
  · subst e
    rw [Qw (fun i hi => h i (by have := List.mem_range.1 hi; omega) (by have := List.mem_range.1 hi; omega))]; omega
  · rw [WQ k n (by omega) (fun i h1 h2 => h i (by omega) h2), h n (by omega) (by omega)]; omega
theorem ZX {p : Int} {U : Nat} {rows : List dF} {bs t : List Int} (h : zL p U rows bs) (ht : t.length = U) (hz : ∀ j (hj : j < bs.length), t.getD bs[j].toNat 0 = 0) (x : List Int) (hx : ∀ j (hj : j < bs.length), x.getD bs[j].toNat 0 = 0) : dX x (sQ p rows bs t bs.length) = dX x t := by
 rw [Ep h ht hz x _ (Nat.le_refl _), Qw]
 · omega
 intro i hi
 have hi := List.mem_range.1 hi
 have e : (bs.getD i 0) = bs[i] := by simp [List.getD, hi]
 rw [e, hx i hi, Int.zero_mul]
theorem Ob {p : Int} {U n : Nat} {rows : List dF} {bs t : List Int} (hp : 0 < p) (hg : qI p U n rows) (h : zL p U rows bs) (hf : ¬ 0 ≤ iI rows bs.length) (ht : t.length = U) (hz : ∀ j (hj : j < bs.length), t.getD bs[j].toNat 0 = 0) : tV p (sQ p rows bs t bs.length) rows := by
 intro r hr
 obtain ⟨i, hi, rfl⟩ := List.getElem_of_mem hr
 have hgi := hg _ hr
 unfold uI
 by_cases hd : i < bs.length
 · have eb : bs.getD i 0 = bs[i] := by simp [List.getD, hd]
   have er : rows.getD i row0 = rows[i] := by simp [List.getD, hi]
   rw [Ep h ht hz _ _ (Nat.le_refl _), WQ i _ hd]
   · have hc := h.col i _ i _ (List.getElem?_eq_getElem hi) (List.getElem?_eq_getElem hd)
     rw [if_pos rfl] at hc
     rw [eb, er, hc, Int.one_mul, Int.emod_def]
     exact ⟨-((rows[i].2.1 - dX rows[i].1 t) / p), by rw [Int.mul_neg]; omega⟩
   intro j hjb hj
   have ej : bs.getD j 0 = bs[j] := by simp [List.getD, hjb]
   have hc := h.col i _ j _ (List.getElem?_eq_getElem hi) (List.getElem?_eq_getElem hjb)
   rw [if_neg (fun e => hj e.symm)] at hc
   rw [ej, hc, Int.zero_mul]
 have h7 := Fa hf i hi (by omega)
 have h8 : dX rows[i].1 (sQ p rows bs t bs.length) = 0 := uJ _ _ (fun c hc => by
  rw [hgi.len] at hc
  exact h.low i _ (List.getElem?_eq_getElem hi) (by omega) c hc)
 rw [h7, h8]
 simp
end Go.Proofs.YtoblfnoaepbhfaaGreat
