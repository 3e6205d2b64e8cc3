import Derived.Test.YtoblfnoaepbhfaaGreatDomBQz
import Derived.Test.YtoblfnoaepbhfaaGreatRowBQz
import Derived.Test.YtoblfnoaepbhfaaGreatRowsBQz
set_option linter.unusedSimpArgs false
set_option linter.unusedVariables false
set_option maxHeartbeats 8000000
set_option maxRecDepth 100000
namespace Go.Proofs.YtoblfnoaepbhfaaGreat
open Go.Proofs.Tryz
open Go.RowKit Go.Shelf Go.IntWalk
open Rep (Rd Own sz)
def nS (l : List Int) (a : Int) : Bool := l.any (fun x => a == x)
theorem Vj (l : List Int) (v : Value) (a : Int) (w : World) (r : Rd w [v] l) :
 Calls prog 207 #[v, .int .i64 a] w fun e w' => e = .returned (.int .i64 (dN (fun x => a == x) l)) ∧ Below w.heap.size w w' := by
 obtain ⟨ad, c, rfl, h⟩ := ah r
 have hb := (aN h).2
 unfold maxLen at hb
 have HR := qH r
 clear r h
 go_enter func207, ntmps207
 go_wp2_with fail
 go_loopw [8] (fun i wl => ∃ k : Nat, k ≤ l.length ∧ i = .int .i64 k ∧ Hid (Below w.heap.size w wl) ∧ Hid (∀ j (hj : j < l.length), j < k → (a == l[j]) = false)) (fun i _ => l.length - (intOf i).toNat)
 case atStart => exact ⟨0, Nat.zero_le _, rfl, Below.refl _ _, fun j _ hj => absurd hj (Nat.not_lt_zero _)⟩
 obtain ⟨k, hk, rfl, hbl, hr⟩ := hrel
 have hsr := (St.start w).step hbl.out
 have HB := qH hbl.out
 by_cases hlt : k < l.length
 rotate_left
 · obtain rfl : k = l.length := by omega
   have hnl : ¬ ((l.length : Int) < l.length) := by omega
   have H1 := qH (nM (q := fun x => a == x) (fun j hj _ => hr.out j hj hj))
   go_wp2_with fail
   go_ret
   exact ⟨aU H1.out.symm, HB.out⟩
 have hkl : (k : Int) < l.length := by omega
 obtain ⟨b, o, rfl, qk, _⟩ := aI (Rd.mono HR.out hsr.bel) k hlt
 have HAT := qH (fun h1 => nK (q := fun x => a == x) hlt (fun j hj h => hr.out j hj h) h1)
 have pW := qH (fun (h : (a == l[k]) = false) => show ∀ j (hj : j < l.length), j < k + 1 → (a == l[j]) = false from fun j hj hjk => by
  rcases Nat.lt_or_ge j k with h1 | h1
  · exact hr.out j hj h1
  · obtain rfl : j = k := by omega
    exact h)
 generalize l[k] = X at *
 by_cases hx : a = X
 · have hq : (a == X) = true := by simp [hx]
   have H1 := qH (HAT.out hq)
   clear hx
   go_wp2_with fail
   go_ret
   exact ⟨aU H1.out.symm, HB.out⟩
 have hq : (a == X) = false := by simp [hx]
 have H1 := qH (pW.out hq)
 clear hx
 go_wp2_with fail
 go_roundw
 case rel => exact ⟨k + 1, by omega, by go_num, HB.out, H1.out⟩
 simp [intOf]; omega
theorem lQ (l : List Int) (v : Value) (a : Int) (w : World) (r : Rd w [v] l) :
 Calls prog 205 #[v, .int .i64 a] w fun e w' => e = .returned (.bool (nS l a)) ∧ Below w.heap.size w w' := by
 obtain ⟨ad, c, rfl, _⟩ := ah r
 have HR := qH r
 clear r
 go_enter func205, ntmps205
 go_wp2_with fail
 refine (Vj l _ a _ HR.out).mono ?_
 rintro e w1 ⟨rfl, hb1⟩
 have hlo := qK (fun x => a == x) l
 have HB := qH hb1
 have HE := qH (oG (fun x => a == x) l)
 generalize dN (fun x => a == x) l = F at *
 go_wp2_with fail
 go_ret
 exact ⟨ak HE.out, HB.out⟩
theorem xG (l : List Int) (v : Value) (a : Int) (w : World) (r : Rd w [v] l) :
 Calls prog 188 #[v, .int .i64 a] w fun e w' => e = .returned (.bool (nS l a)) ∧ Below w.heap.size w w' := by
 obtain ⟨ad, c, rfl, h⟩ := ah r
 have hb := (aN h).2
 unfold maxLen at hb
 have HR := qH r
 clear r h
 go_enter func188, ntmps188
 go_wp2_with fail
 go_loopw [5] (fun i wl => ∃ k : Nat, k ≤ l.length ∧ i = .int .i64 k ∧ Hid (Below w.heap.size w wl) ∧ Hid (∀ j (hj : j < l.length), j < k → (a == l[j]) = false)) (fun i _ => l.length - (intOf i).toNat)
 case atStart => exact ⟨0, Nat.zero_le _, rfl, Below.refl _ _, fun j _ hj => absurd hj (Nat.not_lt_zero _)⟩
 obtain ⟨k, hk, rfl, hbl, hr⟩ := hrel
 have hsr := (St.start w).step hbl.out
 have HB := qH hbl.out
 by_cases hlt : k < l.length
 rotate_left
 · obtain rfl : k = l.length := by omega
   have hnl : ¬ ((l.length : Int) < l.length) := by omega
   have H1 := qH (show nS l a = false from by
    unfold nS
    rw [List.any_eq_false]
    intro x hx
    obtain ⟨j, hj, rfl⟩ := List.getElem_of_mem hx
    rw [hr.out j hj hj]; decide)
   go_wp2_with fail
   go_ret
   exact ⟨ak H1.out.symm, HB.out⟩
 have hkl : (k : Int) < l.length := by omega
 obtain ⟨b, o, rfl, qk, _⟩ := aI (Rd.mono HR.out hsr.bel) k hlt
 have HAT := qH (fun (h1 : (a == l[k]) = true) => show nS l a = true from List.any_eq_true.2 ⟨l[k], List.getElem_mem hlt, h1⟩)
 have pW := qH (fun (h : (a == l[k]) = false) => show ∀ j (hj : j < l.length), j < k + 1 → (a == l[j]) = false from fun j hj hjk => by
  rcases Nat.lt_or_ge j k with h1 | h1
  · exact hr.out j hj h1
  · obtain rfl : j = k := by omega
    exact h)
 generalize l[k] = X at *
 by_cases hx : X = a
 · have H1 := qH (HAT.out (by simp [hx]))
   have hq : (X == a) = true := by simp [hx]
   clear hx
   go_wp2_with fail
   go_ret
   exact ⟨ak H1.out.symm, HB.out⟩
 have H1 := qH (pW.out (by simp; exact fun h => hx h.symm))
 have hq : (X == a) = false := by simp [hx]
 clear hx
 go_wp2_with fail
 go_roundw
 case rel => exact ⟨k + 1, by omega, by go_num, HB.out, H1.out⟩
 simp [intOf]; omega
def Rn (sc y : List Int) (i j : Nat) : Bool := !(decide (sc.getD j 0 = sc.getD i 0) && !decide (y.getD j 0 = y.getD i 0))
def jh (sc y : List Int) : Bool := (List.range sc.length).all (fun i => (List.range i).all (Rn sc y i))
theorem Jy {sc y : List Int} {i j : Nat} (hi : i < sc.length) (hj : j < i) (h : Rn sc y i j = false) : jh sc y = false := by
 unfold jh
 rw [List.all_eq_false]
 refine ⟨i, List.mem_range.2 hi, ?_⟩
 rw [Bool.not_eq_true, List.all_eq_false]
 exact ⟨j, List.mem_range.2 hj, by rw [h]; decide⟩
theorem MV {sc y : List Int} (h : ∀ i, i < sc.length → ∀ j, j < i → Rn sc y i j = true) : jh sc y = true := by
 unfold jh
 rw [List.all_eq_true]
 intro i hi
 rw [List.all_eq_true]
 exact fun j hj => h i (List.mem_range.1 hi) j (List.mem_range.1 hj)
theorem Jz (c : nI) (y : List Int) (v0 v1 vy : Value) (w : World) (hc : Rd w [v0, v1] c) (hy : Rd w [vy] y) (hl : y.length = c.2.length) :
 Calls prog 246 #[.agg #[v0, v1], vy] w fun e w' => e = .returned (.bool (jh c.2 y)) ∧ Below w.heap.size w w' := by
 obtain ⟨ci, sc⟩ := c
 obtain ⟨ay, cy, rfl, hyr⟩ := ah hy
 have hb := (aN hyr).2
 unfold maxLen at hb
 have HY := qH hy
 simp only at hl
 clear hy hyr
 have z1 := au rfl hc
 obtain ⟨rfl, aym⟩ := aG z1.1
 obtain ⟨a, c, rfl, amB⟩ := ah z1.2
 clear hc z1
 have qU := qH amB
 clear amB
 have hs2 := (St.start w).alloc #[.int .i64 ci, .slice a sc.length c] 150 (n := w.heap.size) (by simp)
 obtain ⟨aF, aH⟩ := hs2.c2 0 0 0 1
 have Tf := qH hs2
 go_enter func246, ntmps246
 go_wp2_with fail
 go_loopw [11] (fun i wl => ∃ k : Nat, k ≤ sc.length ∧ i = .int .i64 k ∧ Hid (St w (w.heap.size + 1) wl [(w.heap.size, #[.int .i64 ci, .slice a sc.length c], 150)]) ∧ Hid (∀ i, i < k → ∀ j, j < i → Rn sc y i j = true)) (fun i _ => sc.length - (intOf i).toNat)
 case atStart => exact ⟨0, Nat.zero_le _, rfl, Tf.out, fun i hi => absurd hi (Nat.not_lt_zero _)⟩
 clear Tf
 obtain ⟨k, hk, rfl, hst, hr⟩ := hrel
 have hsr := hst.out
 obtain ⟨aF, aH⟩ := hsr.c2 0 0 0 1
 by_cases hlt : k < sc.length
 rotate_left
 · obtain rfl : k = sc.length := by omega
   have hnl : ¬ ((sc.length : Int) < sc.length) := by omega
   have H1 := qH (MV hr.out)
   go_wp2_with fail
   go_ret
   exact ⟨ak H1.out.symm, hsr.bel⟩
 have hkl : (k : Int) < sc.length := by omega
 obtain ⟨b, o, rfl, qk, _⟩ := aI (Wq (aS hsr.bel qU.out)) k hlt
 have hky : k < y.length := by omega
 obtain ⟨b2, o2, rfl, qy, _⟩ := aI (Rd.mono HY.out hsr.bel) k hky
 have HAG := qH (fun (j : Nat) (hj : j < sc.length) (hj2 : j < y.length) => show Rn sc y k j = !(decide (sc[j] = sc[k]) && !decide (y[j] = y[k])) by simp [Rn, List.getD, hj, hj2, hlt, hky])
 generalize sc[k] = A at *
 generalize y[k] = B at *
 have amC : (k : Int) < y.length := by omega
 obtain ⟨w1, rfl⟩ : ∃ x, x = wr := ⟨_, rfl⟩
 go_wp2_with fail
 go_loopw [17] (fun i wl => ∃ j : Nat, j ≤ k ∧ i = .int .i64 j ∧ Hid (Below w1.heap.size w1 wl) ∧ Hid (∀ i, i < j → Rn sc y k i = true)) (fun i _ => k - (intOf i).toNat)
 case atStart => exact ⟨0, Nat.zero_le _, rfl, Below.refl _ _, fun i hi => absurd hi (Nat.not_lt_zero _)⟩
 obtain ⟨j, hj, rfl, hbl, hr2⟩ := hrel
 have hs2 := hsr.step hbl.out
 have Gj := qC hbl.out qy
 obtain ⟨aF, aH⟩ := hs2.c2 0 0 0 1
 by_cases hjl : j < k
 rotate_left
 · obtain rfl : j = k := by omega
   have hnk : ¬ ((j : Int) < j) := by omega
   have H1 := qH (show ∀ i, i < j + 1 → ∀ q, q < i → Rn sc y i q = true from fun i hi q hq => by
    rcases Nat.lt_or_ge i j with h1 | h1
    · exact hr.out i h1 q hq
    · obtain rfl : i = j := by omega
      exact hr2.out q hq)
   have HS2 := qH hs2
   go_wp2_with fail
   go_roundw
   case rel => exact ⟨j + 1, by omega, by go_num, HS2.out, H1.out⟩
   simp [intOf]; omega
 have hjI : (j : Int) < k := by omega
 have hj3 : (j : Int) < sc.length := by omega
 have hj4 : (j : Int) < y.length := by omega
 have hj5 : j < sc.length := by omega
 have hj6 : j < y.length := by omega
 obtain ⟨b', o', e1, qj, _⟩ := aI (Wq (aS hs2.bel qU.out)) j hj5
 simp only [Option.some.injEq, Addr.mk.injEq, and_true] at e1
 obtain ⟨rfl, rfl⟩ := e1
 obtain ⟨b', o', e1, qz, _⟩ := aI (Rd.mono HY.out hs2.bel) j hj6
 simp only [Option.some.injEq, Addr.mk.injEq, and_true] at e1
 obtain ⟨rfl, rfl⟩ := e1
 have HAJ := qH (HAG.out j hj5 hj6)
 have pW := qH (fun (h : Rn sc y k j = true) => show ∀ i, i < j + 1 → Rn sc y k i = true from fun i hi => by
  rcases Nat.lt_or_ge i j with h1 | h1
  · exact hr2.out i h1
  · obtain rfl : i = j := by omega
    exact h)
 generalize sc[j] = D at *
 generalize y[j] = E at *
 by_cases hd : D = A
 rotate_left
 · have hde : (D == A) = false := by simp [hd]
   have H1 := qH (pW.out (by rw [HAJ.out, decide_eq_false hd]; simp))
   clear hd
   have HB := hbl
   go_upto_region 7 with fail
   refine iT (fun w' => cI w' w.heap.size 0 ci ∧ cV w' w.heap.size 1 (.slice (some ⟨b, o, none⟩) sc.length c) ∧ cI w' b2 (o2 + k) B ∧ cI w' b (o + j) D ∧ cI w' b2 (o2 + j) E) (.z [0,1,2,3,4,5,6,7,8,9,10,11,12,13,14,15,16,17] .nil) ?_ ?_
   · exact ⟨(hs2.drew).c 0 0, (hs2.drew).c 0 1, qC (belowD _) Gj, qC (belowD _) qj, qC (belowD _) qz⟩
   have eU := hs2.drew
   have ar6 := qC (belowD _) Gj
   clear Gj
   have avu := qC (belowD _) qj
   clear qj
   have avv := qC (belowD _) qz
   clear qz
   have amF := qH (HB.out.trans (((belowD _)).mono HB.out.size))
   clear HB
   clear aF aH
   have WZ : wr.heap.size ≤ (wr.drew).heap.size := by simp
   generalize wr.drew = zU at *
   refine aV ?_
   obtain ⟨aF, aH⟩ := eU.c2 0 0 0 1
   refine iF ?_
   go_wp2_with fail
   go_roundw
   case rel => exact ⟨j + 1, by omega, by go_num, amF.out, H1.out⟩
   simp [intOf]; omega
 have hde : (D == A) = true := by simp [hd]
 by_cases he : E = B
 · have hee : (E != B) = false := by simp [he]
   have H1 := qH (pW.out (by rw [HAJ.out, decide_eq_true he]; simp))
   clear hd he
   have HB := hbl
   go_upto_region 7 with fail
   refine iT (fun w' => cI w' w.heap.size 0 ci ∧ cV w' w.heap.size 1 (.slice (some ⟨b, o, none⟩) sc.length c) ∧ cI w' b2 (o2 + k) B ∧ cI w' b (o + j) D ∧ cI w' b2 (o2 + j) E) (.z [0,1,2,3,4,5,6,7,8,9,10,11,12,13,14,15,16,17] .nil) ?_ ?_
   · exact ⟨(hs2.drew).c 0 0, (hs2.drew).c 0 1, qC (belowD _) Gj, qC (belowD _) qj, qC (belowD _) qz⟩
   have hs3 := hs2.drew
   have avw := qC (belowD _) Gj
   clear Gj
   have ayo := qC (belowD _) qj
   clear qj
   have ayp := qC (belowD _) qz
   clear qz
   have ar7 := qH (HB.out.trans (((belowD _)).mono HB.out.size))
   clear HB
   clear aF aH
   have aiQ : wr.heap.size ≤ (wr.drew).heap.size := by simp
   generalize wr.drew = wd8 at *
   refine aV ?_
   obtain ⟨aF, aH⟩ := hs3.c2 0 0 0 1
   refine iF ?_
   go_wp2_with fail
   go_roundw
   case rel => exact ⟨j + 1, by omega, by go_num, ar7.out, H1.out⟩
   simp [intOf]; omega
 have hee : (E != B) = true := by simp [he]
 have H1 := qH (Jy hlt hjl (by rw [HAJ.out, decide_eq_true hd, decide_eq_false he]; rfl))
 clear hd he
 go_upto_region 7 with fail
 refine iT (fun w' => cI w' w.heap.size 0 ci ∧ cV w' w.heap.size 1 (.slice (some ⟨b, o, none⟩) sc.length c) ∧ cI w' b2 (o2 + k) B ∧ cI w' b (o + j) D ∧ cI w' b2 (o2 + j) E) (.z [0,1,2,3,4,5,6,7,8,9,10,11,12,13,14,15,16,17] .nil) ?_ ?_
 · exact ⟨(hs2.drew).c 0 0, (hs2.drew).c 0 1, qC (belowD _) Gj, qC (belowD _) qj, qC (belowD _) qz⟩
 have hs9 := hs2.drew
 have ar8 := qC (belowD _) Gj
 clear Gj
 have avx := qC (belowD _) qj
 clear qj
 have avy := qC (belowD _) qz
 clear qz
 clear aF aH
 have aeG : wr.heap.size ≤ (wr.drew).heap.size := by simp
 generalize wr.drew = aiR at *
 refine aV ?_
 obtain ⟨aF, aH⟩ := hs9.c2 0 0 0 1
 refine iF ?_
 go_wp2_with fail
 go_ret
 exact ⟨ak H1.out.symm, hs9.bel⟩
theorem Cm (ci : Int) (sc y : List Int) (pb po : Nat) (v1 vy : Value) (w : World) (hc : Rd w [v1] sc) (hp : w.cell? ⟨pb, po + 1, none⟩ = some v1) (hy : Rd w [vy] y) (hl : y.length = sc.length) :
 Calls prog 223 #[.pointer (some ⟨pb, po, none⟩), vy] w fun e w' => e = .returned (.bool (jh sc y)) ∧ Below w.heap.size w w' := by
 obtain ⟨ay, cy, rfl, hyr⟩ := ah hy
 have hb := (aN hyr).2
 unfold maxLen at hb
 obtain ⟨a, c, rfl, _⟩ := ah hc
 have HY := qH hy
 have HC := qH hc
 clear hy hyr hc
 have PY := qC (St.start w).bel hp
 go_enter func223, ntmps223
 go_wp2_with fail
 go_loopw [5] (fun i wl => ∃ k : Nat, k ≤ sc.length ∧ i = .int .i64 k ∧ Hid (Below w.heap.size w wl) ∧ Hid (∀ i, i < k → ∀ j, j < i → Rn sc y i j = true)) (fun i _ => sc.length - (intOf i).toNat)
 case atStart => exact ⟨0, Nat.zero_le _, rfl, Below.refl _ _, fun i hi => absurd hi (Nat.not_lt_zero _)⟩
 obtain ⟨k, hk, rfl, aaD, hr⟩ := hrel
 have hsr := (St.start w).step aaD.out
 have PY := qC hsr.bel hp
 by_cases hlt : k < sc.length
 rotate_left
 · obtain rfl : k = sc.length := by omega
   have hnl : ¬ ((sc.length : Int) < y.length) := by omega
   have H1 := qH (MV hr.out)
   go_wp2_with fail
   go_ret
   exact ⟨ak H1.out.symm, hsr.bel⟩
 have hkl : (k : Int) < sc.length := by omega
 obtain ⟨b, o, rfl, qk, _⟩ := aI (Rd.mono HC.out hsr.bel) k hlt
 have hky : k < y.length := by omega
 obtain ⟨b2, o2, rfl, qy, _⟩ := aI (Rd.mono HY.out hsr.bel) k hky
 have HAG := qH (fun (j : Nat) (hj : j < sc.length) (hj2 : j < y.length) => show Rn sc y k j = !(decide (sc[j] = sc[k]) && !decide (y[j] = y[k])) by simp [Rn, List.getD, hj, hj2, hlt, hky])
 generalize sc[k] = A at *
 generalize y[k] = B at *
 have amC : (k : Int) < y.length := by omega
 obtain ⟨w1, rfl⟩ : ∃ x, x = wr := ⟨_, rfl⟩
 go_wp2_with fail
 go_loopw [6] (fun i wl => ∃ j : Nat, j ≤ k ∧ i = .int .i64 j ∧ Hid (Below w1.heap.size w1 wl) ∧ Hid (∀ i, i < j → Rn sc y k i = true)) (fun i _ => k - (intOf i).toNat)
 case atStart => exact ⟨0, Nat.zero_le _, rfl, Below.refl _ _, fun i hi => absurd hi (Nat.not_lt_zero _)⟩
 obtain ⟨j, hj, rfl, hbl, hr2⟩ := hrel
 have hs2 := hsr.step hbl.out
 obtain ⟨Gj, hqk⟩ := iQ hbl.out qy qk
 have PY := qC hs2.bel hp
 by_cases hjl : j < k
 rotate_left
 · obtain rfl : j = k := by omega
   have hnk : ¬ ((j : Int) < j) := by omega
   have H1 := qH (show ∀ i, i < j + 1 → ∀ q, q < i → Rn sc y i q = true from fun i hi q hq => by
    rcases Nat.lt_or_ge i j with h1 | h1
    · exact hr.out i h1 q hq
    · obtain rfl : i = j := by omega
      exact hr2.out q hq)
   have HB2 := qH hs2.bel
   go_wp2_with fail
   go_roundw
   case rel => exact ⟨j + 1, by omega, by go_num, HB2.out, H1.out⟩
   simp [intOf]; omega
 have hjI : (j : Int) < k := by omega
 have hj3 : (j : Int) < sc.length := by omega
 have hj4 : (j : Int) < y.length := by omega
 have hj5 : j < sc.length := by omega
 have hj6 : j < y.length := by omega
 obtain ⟨b', o', e1, qj, _⟩ := aI (Rd.mono HC.out hs2.bel) j hj5
 simp only [Option.some.injEq, Addr.mk.injEq, and_true] at e1
 obtain ⟨rfl, rfl⟩ := e1
 obtain ⟨b', o', e1, qz, _⟩ := aI (Rd.mono HY.out hs2.bel) j hj6
 simp only [Option.some.injEq, Addr.mk.injEq, and_true] at e1
 obtain ⟨rfl, rfl⟩ := e1
 have HAJ := qH (HAG.out j hj5 hj6)
 have pW := qH (fun (h : Rn sc y k j = true) => show ∀ i, i < j + 1 → Rn sc y k i = true from fun i hi => by
  rcases Nat.lt_or_ge i j with h1 | h1
  · exact hr2.out i h1
  · obtain rfl : i = j := by omega
    exact h)
 generalize sc[j] = D at *
 generalize y[j] = E at *
 by_cases hd : D = A
 rotate_left
 · have hde : (A == D) = false := by simp; exact fun h => hd h.symm
   have H1 := qH (pW.out (by rw [HAJ.out, decide_eq_false hd]; simp))
   clear hd
   have HB := hbl
   go_upto_region 7 with fail
   refine iT (fun w' => cV w' pb (po + 1) (.slice (some ⟨b, o, none⟩) sc.length c) ∧ cI w' b2 (o2 + k) B ∧ cI w' b (o + k) A ∧ cI w' b (o + j) D ∧ cI w' b2 (o2 + j) E) (.z [0,1,2,3,4,5,6,7,8,9,10,11,12,13,14,15,16,17,18,19,20,21,22,23,24,25] .nil) ?_ ?_
   · exact ⟨qC (hs2.drew).bel hp, qC (belowD _) Gj, qC (belowD _) hqk, qC (belowD _) qj, qC (belowD _) qz⟩
   have vF := hs2.drew
   have ar9 := qC (belowD _) Gj
   clear Gj
   have asa := qC (belowD _) hqk
   clear hqk
   have avz := qC (belowD _) qj
   clear qj
   have avA := qC (belowD _) qz
   clear qz
   have amG := qH (HB.out.trans (((belowD _)).mono HB.out.size))
   clear HB
   clear PY
   have GN : wr.heap.size ≤ (wr.drew).heap.size := by simp
   generalize wr.drew = Dw at *
   refine aV ?_
   have PY := qC vF.bel hp
   refine iF ?_
   go_wp2_with fail
   go_roundw
   case rel => exact ⟨j + 1, by omega, by go_num, amG.out, H1.out⟩
   simp [intOf]; omega
 have hde : (A == D) = true := by simp [hd]
 by_cases he : E = B
 · have hee : (B != E) = false := by simp [he]
   have H1 := qH (pW.out (by rw [HAJ.out, decide_eq_true he]; simp))
   clear hd he
   have HB := hbl
   go_upto_region 7 with fail
   refine iT (fun w' => cV w' pb (po + 1) (.slice (some ⟨b, o, none⟩) sc.length c) ∧ cI w' b2 (o2 + k) B ∧ cI w' b (o + k) A ∧ cI w' b (o + j) D ∧ cI w' b2 (o2 + j) E) (.z [0,1,2,3,4,5,6,7,8,9,10,11,12,13,14,15,16,17,18,19,20,21,22,23,24,25] .nil) ?_ ?_
   · exact ⟨qC (hs2.drew).bel hp, qC (belowD _) Gj, qC (belowD _) hqk, qC (belowD _) qj, qC (belowD _) qz⟩
   have jC := hs2.drew
   have asb := qC (belowD _) Gj
   clear Gj
   have ase := qC (belowD _) hqk
   clear hqk
   have avC := qC (belowD _) qj
   clear qj
   have avD := qC (belowD _) qz
   clear qz
   have amH := qH (HB.out.trans (((belowD _)).mono HB.out.size))
   clear HB
   clear PY
   have aez : wr.heap.size ≤ (wr.drew).heap.size := by simp
   generalize wr.drew = xB at *
   refine aV ?_
   have PY := qC jC.bel hp
   refine iF ?_
   go_wp2_with fail
   go_roundw
   case rel => exact ⟨j + 1, by omega, by go_num, amH.out, H1.out⟩
   simp [intOf]; omega
 have hee : (B != E) = true := by simp; exact fun h => he h.symm
 have H1 := qH (Jy hlt hjl (by rw [HAJ.out, decide_eq_true hd, decide_eq_false he]; rfl))
 clear hd he
 go_upto_region 7 with fail
 refine iT (fun w' => cV w' pb (po + 1) (.slice (some ⟨b, o, none⟩) sc.length c) ∧ cI w' b2 (o2 + k) B ∧ cI w' b (o + k) A ∧ cI w' b (o + j) D ∧ cI w' b2 (o2 + j) E) (.z [0,1,2,3,4,5,6,7,8,9,10,11,12,13,14,15,16,17,18,19,20,21,22,23,24,25] .nil) ?_ ?_
 · exact ⟨qC (hs2.drew).bel hp, qC (belowD _) Gj, qC (belowD _) hqk, qC (belowD _) qj, qC (belowD _) qz⟩
 have lZ := hs2.drew
 have asf := qC (belowD _) Gj
 clear Gj
 have asg := qC (belowD _) hqk
 clear hqk
 have avE := qC (belowD _) qj
 clear qj
 have avF := qC (belowD _) qz
 clear qz
 clear PY
 have XC : wr.heap.size ≤ (wr.drew).heap.size := by simp
 generalize wr.drew = zi at *
 refine aV ?_
 have PY := qC lZ.bel hp
 refine iF ?_
 go_wp2_with fail
 go_ret
 exact ⟨ak H1.out.symm, lZ.bel⟩
def uT (sc : List Int) (ds : List (List Int)) (y : List Int) (i : Nat) : Bool := nS (ds.getD (sc.getD i 0).toNat []) (y.getD i 0)
def yS (sc : List Int) (ds : List (List Int)) (p : Nat) (a : Int) (y : List Int) : Bool := (decide (y.getD p 0 = a) && jh sc y) && (List.range sc.length).all (uT sc ds y)
theorem JA {sc : List Int} {ds : List (List Int)} {p : Nat} {a : Int} {y : List Int} {i : Nat} (hi : i < sc.length) (h : uT sc ds y i = false) : yS sc ds p a y = false := by
 unfold yS
 rw [show (List.range sc.length).all (uT sc ds y) = false from by rw [List.all_eq_false]; exact ⟨i, List.mem_range.2 hi, by rw [h]; decide⟩, Bool.and_false]
theorem O7 {sc : List Int} {ds : List (List Int)} {p : Nat} {a : Int} {y : List Int} (h0 : (decide (y.getD p 0 = a) && jh sc y) = true) (h : ∀ i, i < sc.length → uT sc ds y i = true) : yS sc ds p a y = true := by
 unfold yS
 rw [h0, Bool.true_and, List.all_eq_true]
 exact fun i hi => h i (List.mem_range.1 hi)
theorem JB (ci : Int) (sc : List Int) (ds : List (List Int)) (p : Nat) (a : Int) (bp ba bc bd : Nat) (v1 vd : Value) (ts : List (List Int)) (w : World) (XF : I64 ci) (hsc : Rd w [v1] sc) (hds : Rd w [vd] ds)
 (hp : w.cell? ⟨bp, 0, none⟩ = some (.int .i64 p)) (ha : w.cell? ⟨ba, 0, none⟩ = some (.int .i64 a)) (hc0 : w.cell? ⟨bc, 0, none⟩ = some (.int .i64 ci)) (hc1 : w.cell? ⟨bc, 1, none⟩ = some v1) (hd : w.cell? ⟨bd, 0, none⟩ = some vd)
 (hps : p < sc.length) (hts : ∀ y, y ∈ ts → y.length = sc.length) (O8 : ∀ v, v ∈ sc → 0 ≤ v ∧ v < ds.length) :
 IX 245 #[.pointer (some ⟨bp, 0, none⟩), .pointer (some ⟨ba, 0, none⟩), .pointer (some ⟨bc, 0, none⟩), .pointer (some ⟨bd, 0, none⟩)] w ts (yS sc ds p a) := by
 intro W y u0 hb hy hmem
 have hyl := hts y hmem
 have D9 := qH hyl
 obtain ⟨gp, ga, uU, vG, gd⟩ := zI hb hp ha hc0 hc1 hd
 have qU := qH (Rd.mono hsc hb)
 have HDS := qH (Rd.mono hds hb)
 have HV := qH O8
 have MW := qH XF
 show Calls prog 245 #[u0, .pointer (some ⟨bp, 0, none⟩), .pointer (some ⟨ba, 0, none⟩), .pointer (some ⟨bc, 0, none⟩), .pointer (some ⟨bd, 0, none⟩)] W _
 have HY := qH hy
 obtain ⟨ay, cy, rfl, hyr⟩ := ah hy
 have hby := (aN hyr).2
 unfold maxLen at hby
 obtain ⟨Vk, FI, rfl, _⟩ := ah hsc
 obtain ⟨ad, cd, rfl, _⟩ := ah hds
 have hpy : p < y.length := by omega
 have hpI : (p : Int) < y.length := by omega
 have hbs : sc.length ≤ 2 ^ 63 - 1 := by omega
 clear hy hyr hb hp ha hc0 hc1 hd hsc hds hts O8 hmem XF hyl
 obtain ⟨by1, oy, rfl, qp, _⟩ := aI HY.out p hpy
 have HPA := qH (show y.getD p 0 = y[p] by simp [List.getD, hpy])
 generalize y[p] = YP at *
 have ejp : IntKind.i64.wrap (p : Int) = (p : Int) := i64_in _ (by omega)
 have CP := qC (St.start W).bel gp
 clear CP
 obtain ⟨CP, yT⟩ := iQ (St.start W).bel gp ga
 clear CP yT
 obtain ⟨CP, yT, jQ⟩ := fQ (St.start W).bel gp ga uU
 clear CP yT jQ
 obtain ⟨CP, yT, jQ, kP⟩ := jc (St.start W).bel gp ga uU vG
 clear CP yT jQ kP
 obtain ⟨CP, yT, jQ, kP, YG⟩ := zI (St.start W).bel gp ga uU vG gd
 clear CP yT jQ kP YG
 obtain ⟨CP, yT, jQ, kP, YG, qp_⟩ := uZ (St.start W).bel gp ga uU vG gd qp
 have HCR := qH (show Rd W [.int .i64 ci, .slice Vk sc.length FI] (ci, sc) from ⟨[_], [_], rfl, ⟨rfl, MW.out⟩, qU.out⟩)
 go_enter func245, ntmps245
 by_cases h1 : YP = a
 rotate_left
 · have h1b : (YP != a) = true := by simp [h1]
   have H1 := qH (show yS sc ds p a y = false by unfold yS; rw [HPA.out, decide_eq_false h1, Bool.false_and, Bool.false_and])
   clear h1
   go_upto_region 1 with fail
   refine iT (fun w' => cI w' bp 0 p ∧ cI w' ba 0 a ∧ cI w' bc 0 ci ∧ cV w' bc 1 (.slice Vk sc.length FI) ∧ cV w' bd 0 (.slice ad ds.length cd) ∧ cI w' by1 (oy + p) YP) (.z [0,1,2,3,4,5,6,7,8] (.hard 9 (.z [10,11] .nil))) ?_ ?_
   · exact ⟨qC ((St.start W).drew).bel gp, qC ((St.start W).drew).bel ga, qC ((St.start W).drew).bel uU, qC ((St.start W).drew).bel vG, qC ((St.start W).drew).bel gd, qC ((St.start W).drew).bel qp⟩
   have aiS := (St.start W).drew
   clear CP yT jQ kP YG qp_
   have aoR : W.heap.size ≤ (W.drew).heap.size := by simp
   generalize W.drew = ayr at *
   refine aV ?_
   refine eG rfl (by rfl) ?_ ?_
   · exact (uZ aiS.bel gp ga uU vG gd qp:)
   (try simp only [Act.put, sI, sZ, sS])
   refine aV ?_
   obtain ⟨CP, yT, jQ, kP, YG, qp_⟩ := uZ aiS.bel gp ga uU vG gd qp
   refine iF ?_
   go_wp2_with fail
   go_ret
   exact ⟨ak H1.out.symm, aiS.bel⟩
 have h1b : (YP != a) = false := by simp [h1]
 cases h2 : jh sc y
 · have H1 := qH (show yS sc ds p a y = false by unfold yS; rw [h2, Bool.and_false, Bool.false_and])
   have HE := qH h2
   clear h1 h2
   go_upto_region 1 with fail
   refine iT (fun w' => cI w' bp 0 p ∧ cI w' ba 0 a ∧ cI w' bc 0 ci ∧ cV w' bc 1 (.slice Vk sc.length FI) ∧ cV w' bd 0 (.slice ad ds.length cd) ∧ cI w' by1 (oy + p) YP) (.z [0,1,2,3,4,5,6,7,8] (.hard 9 (.z [10,11] .nil))) ?_ ?_
   · exact ⟨qC ((St.start W).drew).bel gp, qC ((St.start W).drew).bel ga, qC ((St.start W).drew).bel uU, qC ((St.start W).drew).bel vG, qC ((St.start W).drew).bel gd, qC ((St.start W).drew).bel qp⟩
   have sF := (St.start W).drew
   clear CP yT jQ kP YG qp_
   have XG : W.heap.size ≤ (W.drew).heap.size := by simp
   generalize W.drew = aiI at *
   refine aV ?_
   refine gX fun K hK => ?_
   go_wp2_with (go_at_call 246; refine (Jz (ci, sc) y _ _ _ _ (Rd.mono HCR.out sF.bel) (Rd.mono HY.out sF.bel) D9.out).mono ?_; rintro e w42 ⟨rfl, Ro⟩)
   have aiT : aiI.heap.size ≤ w42.heap.size := hZ Ro
   have pV := sF.step Ro
   rw [HE.out]
   refine ⟨(uZ pV.bel gp ga uU vG gd qp:), ?_⟩
   refine aV ?_
   obtain ⟨CP, yT, jQ, kP, YG, qp_⟩ := uZ pV.bel gp ga uU vG gd qp
   refine iF ?_
   go_wp2_with fail
   go_ret
   exact ⟨ak H1.out.symm, pV.bel⟩
 have H0 := qH (show (decide (y.getD p 0 = a) && jh sc y) = true by rw [HPA.out, decide_eq_true h1, h2]; rfl)
 have HE := qH h2
 clear h1 h2
 go_upto_region 1 with fail
 refine iT (fun w' => cI w' bp 0 p ∧ cI w' ba 0 a ∧ cI w' bc 0 ci ∧ cV w' bc 1 (.slice Vk sc.length FI) ∧ cV w' bd 0 (.slice ad ds.length cd) ∧ cI w' by1 (oy + p) YP) (.z [0,1,2,3,4,5,6,7,8] (.hard 9 (.z [10,11] .nil))) ?_ ?_
 · exact ⟨qC ((St.start W).drew).bel gp, qC ((St.start W).drew).bel ga, qC ((St.start W).drew).bel uU, qC ((St.start W).drew).bel vG, qC ((St.start W).drew).bel gd, qC ((St.start W).drew).bel qp⟩
 have wQ := (St.start W).drew
 clear CP yT jQ kP YG qp_
 have aoS : W.heap.size ≤ (W.drew).heap.size := by simp
 generalize W.drew = asi at *
 refine aV ?_
 refine gX fun K hK => ?_
 go_wp2_with (go_at_call 246; refine (Jz (ci, sc) y _ _ _ _ (Rd.mono HCR.out wQ.bel) (Rd.mono HY.out wQ.bel) D9.out).mono ?_; rintro e w46 ⟨rfl, DI⟩)
 have abw : asi.heap.size ≤ w46.heap.size := hZ DI
 have rZ := wQ.step DI
 rw [HE.out]
 refine ⟨(uZ rZ.bel gp ga uU vG gd qp:), ?_⟩
 refine aV ?_
 obtain ⟨CP, yT, jQ, kP, YG, qp_⟩ := uZ rZ.bel gp ga uU vG gd qp
 refine iF ?_
 obtain ⟨wA, rfl⟩ : ∃ x, x = w46 := ⟨_, rfl⟩
 have Jp := qH rZ.bel
 go_wp2_with fail
 go_loopw [24] (fun i wl => ∃ k : Nat, k ≤ sc.length ∧ i = .int .i64 k ∧ Hid (Below wA.heap.size wA wl) ∧ Hid (∀ i, i < k → uT sc ds y i = true)) (fun i _ => sc.length - (intOf i).toNat)
 case atStart => exact ⟨0, Nat.zero_le _, rfl, Below.refl _ _, fun i hi => absurd hi (Nat.not_lt_zero _)⟩
 obtain ⟨k, hk, rfl, hbl, hr⟩ := hrel
 have hs2 := (St.start W).step (Jp.out.trans (hbl.out.mono Jp.out.size))
 obtain ⟨CP, yT, jQ, kP, YG, qp_⟩ := uZ hs2.bel gp ga uU vG gd qp
 by_cases hlt : k < sc.length
 rotate_left
 · obtain rfl : k = sc.length := by omega
   have hnl : ¬ ((sc.length : Int) < sc.length) := by omega
   have H1 := qH (O7 H0.out hr.out)
   go_wp2_with fail
   go_ret
   exact ⟨ak H1.out.symm, hs2.bel⟩
 have hkl : (k : Int) < sc.length := by omega
 have hky : k < y.length := by have := D9.out; omega
 have amC : (k : Int) < y.length := by omega
 obtain ⟨b, o, rfl, qk, _⟩ := aI (Rd.mono qU.out hs2.bel) k hlt
 obtain ⟨b', o', e1, qy, _⟩ := aI (Rd.mono HY.out hs2.bel) k hky
 simp only [Option.some.injEq, Addr.mk.injEq, and_true] at e1
 obtain ⟨rfl, rfl⟩ := e1
 have hv := HV.out _ (List.getElem_mem hlt)
 have KH := qH (show uT sc ds y k = nS (ds.getD (sc[k]).toNat []) y[k] by simp [uT, List.getD, hlt, hky])
 obtain ⟨n, hn⟩ : ∃ n : Nat, sc[k] = (n : Int) := ⟨(sc[k]).toNat, by omega⟩
 rw [hn] at hv qk KH
 rw [Int.toNat_natCast] at KH
 have hnd : n < ds.length := by omega
 have ays : (n : Int) < ds.length := by omega
 clear hn
 obtain ⟨ad2, cd2, ed, hdr⟩ := ah (Rd.mono HDS.out hs2.bel)
 simp only [Value.slice.injEq, true_and] at ed
 obtain ⟨rfl, rfl⟩ := ed
 obtain ⟨b3, o3, u3, rfl, qd, hdn⟩ := bF rfl hdr n hnd
 obtain ⟨a3, c3, rfl, _⟩ := ah hdn
 have Tt := qH hdn
 rw [show ds.getD n [] = ds[n] by simp [List.getD, hnd]] at KH
 have pW := qH (fun (h : uT sc ds y k = true) => show ∀ i, i < k + 1 → uT sc ds y i = true from fun i hi => by
  rcases Nat.lt_or_ge i k with h1 | h1
  · exact hr.out i h1
  · obtain rfl : i = k := by omega
    exact h)
 clear hdr hdn
 generalize ds[n] = D at *
 generalize y[k] = YK at *
 have HB := hbl
 have ejk : IntKind.i64.wrap (k : Int) = (k : Int) := i64_in _ (by omega)
 cases h3 : nS D YK
 · have H1 := qH (JA (p := p) (a := a) hlt (by rw [KH.out, h3]))
   have YA := qH h3
   clear h3
   go_upto_region 6 with fail
   refine iT (fun w' => cI w' bp 0 p ∧ cI w' ba 0 a ∧ cI w' bc 0 ci ∧ cV w' bc 1 (.slice (some ⟨b, o, none⟩) sc.length FI) ∧ cV w' bd 0 (.slice (some ⟨b3, o3, none⟩) ds.length cd) ∧ cI w' by1 (oy + p) YP ∧ cI w' b (o + k) n ∧ cI w' by1 (oy + k) YK ∧ cV w' b3 (o3 + n) (.slice a3 D.length c3)) (.z [0,1,2,3,4,5,6,7] (.hard 8 (.float 9 .nil))) ?_ ?_
   · exact ⟨qC (hs2.drew).bel gp, qC (hs2.drew).bel ga, qC (hs2.drew).bel uU, qC (hs2.drew).bel vG, qC (hs2.drew).bel gd, qC (hs2.drew).bel qp, qC (belowD _) qk, qC (belowD _) qy, qC (belowD _) qd⟩
   have hs62 := hs2.drew
   have af6 := qC (belowD _) qk
   clear qk
   have af7 := qC (belowD _) qy
   clear qy
   have af8 := qC (belowD _) qd
   clear qd
   have abx := qH (Rd.mono Tt.out (belowD _))
   clear Tt
   have amI := qH (HB.out.trans (((belowD _)).mono HB.out.size))
   clear HB
   clear CP yT jQ kP YG qp_
   have aoT : wr.heap.size ≤ (wr.drew).heap.size := by simp
   generalize wr.drew = asj at *
   refine aV ?_
   refine gX fun K hK => ?_
   go_wp2_with (go_at_call 205; refine (lQ D _ YK _ abx.out).mono ?_; rintro e w69 ⟨rfl, FH⟩)
   have aiO : asj.heap.size ≤ w69.heap.size := hZ FH
   have Jw := hs62.step FH
   have amJ := qC FH af6
   clear af6
   have amK := qC FH af7
   clear af7
   have amL := qC FH af8
   clear af8
   clear abx
   clear amI
   rw [YA.out]
   refine ⟨⟨qC Jw.bel gp, qC Jw.bel ga, qC Jw.bel uU, qC Jw.bel vG, qC Jw.bel gd, qC Jw.bel qp, amJ, amK, amL⟩, ?_⟩
   refine aV ?_
   obtain ⟨CP, yT, jQ, kP, YG, qp_⟩ := uZ Jw.bel gp ga uU vG gd qp
   refine iF ?_
   go_wp2_with fail
   go_ret
   exact ⟨ak H1.out.symm, Jw.bel⟩
 have H1 := qH (pW.out (by rw [KH.out, h3]))
 have YA := qH h3
 clear h3
 go_upto_region 6 with fail
 refine iT (fun w' => cI w' bp 0 p ∧ cI w' ba 0 a ∧ cI w' bc 0 ci ∧ cV w' bc 1 (.slice (some ⟨b, o, none⟩) sc.length FI) ∧ cV w' bd 0 (.slice (some ⟨b3, o3, none⟩) ds.length cd) ∧ cI w' by1 (oy + p) YP ∧ cI w' b (o + k) n ∧ cI w' by1 (oy + k) YK ∧ cV w' b3 (o3 + n) (.slice a3 D.length c3)) (.z [0,1,2,3,4,5,6,7] (.hard 8 (.float 9 .nil))) ?_ ?_
 · exact ⟨qC (hs2.drew).bel gp, qC (hs2.drew).bel ga, qC (hs2.drew).bel uU, qC (hs2.drew).bel vG, qC (hs2.drew).bel gd, qC (hs2.drew).bel qp, qC (belowD _) qk, qC (belowD _) qy, qC (belowD _) qd⟩
 have xC := hs2.drew
 have af9 := qC (belowD _) qk
 clear qk
 have aga := qC (belowD _) qy
 clear qy
 have agb := qC (belowD _) qd
 clear qd
 have aby := qH (Rd.mono Tt.out (belowD _))
 clear Tt
 have abz := qH (HB.out.trans (((belowD _)).mono HB.out.size))
 clear HB
 clear CP yT jQ kP YG qp_
 have aeI : wr.heap.size ≤ (wr.drew).heap.size := by simp
 generalize wr.drew = aiU at *
 refine aV ?_
 refine gX fun K hK => ?_
 go_wp2_with (go_at_call 205; refine (lQ D _ YK _ aby.out).mono ?_; rintro e w55 ⟨rfl, MX⟩)
 have asl : aiU.heap.size ≤ w55.heap.size := hZ MX
 have rX := xC.step MX
 have amM := qC MX af9
 clear af9
 have amN := qC MX aga
 clear aga
 have amO := qC MX agb
 clear agb
 clear aby
 have amP := qH (abz.out.trans ((MX).mono abz.out.size))
 clear abz
 rw [YA.out]
 refine ⟨⟨qC rX.bel gp, qC rX.bel ga, qC rX.bel uU, qC rX.bel vG, qC rX.bel gd, qC rX.bel qp, amM, amN, amO⟩, ?_⟩
 refine aV ?_
 obtain ⟨CP, yT, jQ, kP, YG, qp_⟩ := uZ rX.bel gp ga uU vG gd qp
 refine iF ?_
 go_wp2_with fail
 go_roundw
 case rel => exact ⟨k + 1, by omega, by go_num, amP.out, H1.out⟩
 simp [intOf]; omega
def EM (ts : List (List Int)) (sc : List Int) (ds : List (List Int)) (p : Nat) (a : Int) : Bool := ts.any (yS sc ds p a)
theorem O9 (t : dB) (c : nI) (ds : List (List Int)) (p : Nat) (a : Int) (n : Nat) (t0 t1 c0 c1 vd : Value) (w : World) (ht : Rd w [t0, t1] t) (hc : Rd w [c0, c1] c) (hd : Rd w [vd] ds)
 (hn : c.1 = (n : Int)) (hnl : n < t.2.length) (hps : p < c.2.length) (hts : ∀ y, y ∈ (t.2.getD n (0, [])).2 → y.length = c.2.length) (O8 : ∀ v, v ∈ c.2 → 0 ≤ v ∧ v < ds.length) :
 Calls prog 122 #[.agg #[t0, t1], .agg #[c0, c1], vd, .int .i64 p, .int .i64 a] w fun e w' => e = .returned (.bool (EM (t.2.getD n (0, [])).2 c.2 ds p a)) ∧ Below w.heap.size w w' := by
 obtain ⟨size, rs⟩ := t
 obtain ⟨ci, sc⟩ := c
 simp only at hn hnl hps hts O8 ⊢
 subst hn
 have zt := au rfl ht
 obtain ⟨rfl, _⟩ := aG zt.1
 obtain ⟨at0, ct0, rfl, hrs⟩ := ah zt.2
 have zc := au rfl hc
 obtain ⟨rfl, XF⟩ := aG zc.1
 obtain ⟨Vk, FI, rfl, _⟩ := ah zc.2
 obtain ⟨ad, cd, rfl, _⟩ := ah hd
 have qU := qH zc.2
 have HDS := qH hd
 have eg : ∀ args w, (callFunc 245 args).run prog w = .ok (.enter 245 args) w := enters_of func245 (by kernel_rfl) rfl
 have hnI : (n : Int) < rs.length := by omega
 obtain ⟨b, o, u0, u1, rfl, q0, q1, hy⟩ := dP rfl hrs n hnl
 have hyz := au rfl hy
 obtain ⟨a1, c1, rfl, _⟩ := ah hyz.2
 have Tm := qH hyz.2
 have hgd : rs.getD n (0, []) = rs[n] := by simp [List.getD, hnl]
 rw [hgd] at hts ⊢
 have U0 := qH hts
 have HV := qH O8
 have MW := qH XF
 have X7 := qH hps
 clear ht hc hd zt zc hrs hy hyz hgd hts O8 XF q0 hps
 generalize rs[n].2 = ts at *
 have dO := qC (St.start w).bel q1
 have o8 := (St.start w).alloc #[.int .i64 size, .slice (some ⟨b, o, none⟩) rs.length ct0] 42 (n := w.heap.size) (by simp)
 clear dO
 have asn := o8.alloc #[.int .i64 n, .slice Vk sc.length FI] 150 (n := w.heap.size + 1) (by simp)
 have aso := asn.alloc #[.slice ad ds.length cd] 97 (n := w.heap.size + 1 + 1) (by simp)
 have asq := aso.alloc #[.int .i64 p] 3 (n := w.heap.size + 1 + 1 + 1) (by simp)
 have Gl := asq.alloc #[.int .i64 a] 2 (n := w.heap.size + 1 + 1 + 1 + 1) (by simp)
 obtain ⟨aF, aH, aJ, aK, aW, dM, nP⟩ := Gl.c7 0 0 0 1 1 0 1 1 2 0 3 0 4 0
 have dO := qC Gl.bel q1
 go_enter func122, ntmps122
 go_wp2_with fail
 refine (jR ts _ 245 _ (yS sc ds p a) _ (Rd.mono Tm.out Gl.bel) eg (JB n sc ds p a _ _ _ _ _ _ ts _ MW.out (Rd.mono qU.out Gl.bel) (Rd.mono HDS.out Gl.bel) (Gl.c 3 0) (Gl.c 4 0) (Gl.c 1 0) (Gl.c 1 1) (Gl.c 2 0) X7.out U0.out HV.out)).mono ?_
 rintro e w9 ⟨rfl, zA⟩
 have HB := qH (Gl.bel.trans (zA.mono Gl.bel.size))
 clear zA
 go_wp2_with fail
 go_ret
 exact ⟨rfl, HB.out⟩
theorem Pe (l : List Int) (v : Value) (a : Int) (w : World) (r : Rd w [v] l) (hl : l.length ≤ 1048576) :
 Calls prog 222 #[v, .int .i64 a] w fun e w' => ∃ v', e = .returned v' ∧ Acc w.heap.size w'.heap.size 2 w' v' (l.filter (fun x => x != a)) ∧ Below w.heap.size w w' := by
 obtain ⟨ad, c, rfl, h⟩ := ah r
 have HR := qH r
 clear r h
 have HM := qH (mJ (α := Int) w 2)
 go_enter func222, ntmps222
 go_wp2_with fail
 go_loopw [5, 6] (fun oo i wl => ∃ (k : Nat) (ao : Option Addr) (m co : Nat), k ≤ l.length ∧ i = .int .i64 k ∧ oo = .slice ao m co ∧ Hid (((l.take k).filter (fun x => x != a)).length = m) ∧ Hid (Below w.heap.size w wl) ∧ Hid (Acc w.heap.size wl.heap.size 2 wl (.slice ao m co) ((l.take k).filter (fun x => x != a)))) (fun _ i _ => l.length - (intOf i).toNat)
 case atStart => exact ⟨0, _, 0, _, Nat.zero_le _, rfl, rfl, rfl, aB _ _, by simpa [Hid] using HM.out⟩
 clear HM
 obtain ⟨k, ao, m, co, hk, rfl, rfl, hm, hbl, hac⟩ := hrel
 have hsr := (St.start w).step hbl.out
 have PV := hac
 have hb0 := hbl.out.size
 by_cases hlt : k < l.length
 rotate_left
 · obtain rfl : k = l.length := by omega
   have hnl : ¬ ((l.length : Int) < l.length) := by omega
   have lu := qH hbl.out
   have Oy := qH (show Acc w.heap.size wr.heap.size 2 wr (.slice ao m co) (l.filter (fun x => x != a)) by have h := hac.out; rwa [List.take_length] at h)
   go_wp2_with fail
   go_ret
   exact ⟨_, rfl, Oy.out, lu.out⟩
 have hkl : (k : Int) < l.length := by omega
 obtain ⟨b, o, rfl, qk, hI⟩ := aI (Rd.mono HR.out hsr.bel) k hlt
 have hmk : m ≤ k := by rw [← hm.out]; exact Nat.le_trans (List.length_filter_le _ _) (by rw [List.length_take]; omega)
 have J4 := qH (show (l.take (k + 1)).filter (fun x => x != a) = (l.take k).filter (fun x => x != a) ++ (if l[k] != a then [l[k]] else []) by
  rw [List.take_succ_eq_append_getElem hlt, List.filter_append]
  congr 1
  simp only [List.filter_cons, List.filter_nil])
 have HI := qH hI
 have qh := qH hbl.out
 generalize l[k] = X at *
 clear hI
 cases hx : X != a
 · have HX := qH hx
   rw [hx] at J4
   simp only [Bool.false_eq_true, if_false, List.append_nil] at J4
   have Et := qH (show Acc w.heap.size wr.heap.size 2 wr (.slice ao m co) ((l.take (k + 1)).filter (fun x => x != a)) by rw [J4.out]; exact PV.out)
   have HM9 := qH (show ((l.take (k + 1)).filter (fun x => x != a)).length = m by rw [J4.out]; exact hm.out)
   go_wp2_with fail
   go_roundw
   case rel => exact ⟨k + 1, ao, m, co, hlt, by go_num, rfl, HM9.out, qh.out, Et.out⟩
   simp [intOf]; omega
 have HX := qH hx
 rw [hx] at J4
 simp only [if_true] at J4
 go_wp2_with (at_builtin; go_loud (refine dS _ rfl _ _ _ rfl eH rfl (Acc.mono PV.out (aB _ (.cells #[.int .i64 X] 2))) (by omega) (by simp) ⟨wr.heap.size, 0, none⟩ 1 rfl (ns := [X]) (qB (aA (heap_alloc_new _ _))) (fun b hb => by simp at hb; subst hb; exact HI.out) (by rw [hm.out]; simp; omega) ?_); simp only [hm.out, ← J4.out]; intro a9 c9 w9 jG vg hK9)
 have Et := qH jG
 have QI := qH (qh.out.trans ((aB wr (.cells #[.int .i64 X] 2)).mono qh.out.size) |>.trans vg)
 have HM9 := qH (show ((l.take (k + 1)).filter (fun x => x != a)).length = m + 1 by rw [J4.out, List.length_append, hm.out]; rfl)
 clear jG vg hK9
 go_wp2_with fail
 go_roundw
 case rel => exact ⟨k + 1, a9, m + 1, c9, hlt, by go_num, rfl, HM9.out, QI.out, Et.out⟩
 simp [intOf]; omega
theorem DJ (rs : List bH) (sc : List Int) (ds : List (List Int)) (p : Nat) (a : Int) (n tb cb co : Nat) (vr vs vd : Value) (w : World) (hrs : Rd w [vr] rs) (hsc : Rd w [vs] sc) (hd : Rd w [vd] ds)
 (ht1 : w.cell? ⟨tb, 1, none⟩ = some vr) (hc0 : w.cell? ⟨cb, co, none⟩ = some (.int .i64 n)) (hc1 : w.cell? ⟨cb, co + 1, none⟩ = some vs)
 (hnl : n < rs.length) (hps : p < sc.length) (hts : ∀ y, y ∈ (rs.getD n (0, [])).2 → y.length = sc.length) (O8 : ∀ v, v ∈ sc → 0 ≤ v ∧ v < ds.length) :
 Calls prog 221 #[.pointer (some ⟨tb, 0, none⟩), .pointer (some ⟨cb, co, none⟩), vd, .int .i64 p, .int .i64 a] w fun e w' => e = .returned (.bool (EM (rs.getD n (0, [])).2 sc ds p a)) ∧ Below w.heap.size w w' := by
 obtain ⟨ar, cr, rfl, hrr⟩ := ah hrs
 obtain ⟨Vk, FI, rfl, Rq⟩ := ah hsc
 obtain ⟨ad, cd, rfl, hdr⟩ := ah hd
 have hbs := (aN Rq).2
 unfold maxLen at hbs
 have qU := qH hsc
 have HDR := qH hdr
 have hnI : (n : Int) < rs.length := by omega
 obtain ⟨b, o, u0, u1, rfl, q0, q1, hy⟩ := dP rfl hrr n hnl
 have hyz := au rfl hy
 obtain ⟨a1, c1, rfl, htr⟩ := ah hyz.2
 have hbt := (aN htr).2
 unfold maxLen at hbt
 have Ov := qH htr
 have hgd : rs.getD n (0, []) = rs[n] := by simp [List.getD, hnl]
 rw [hgd] at hts ⊢
 have U0 := qH hts
 have HV := qH O8
 have X7 := qH hps
 clear hrs hsc hd hrr Rq hdr hy hyz hgd hts O8 q0 hps htr
 generalize rs[n].2 = ts at *
 have kE := qC (St.start w).bel ht1
 clear kE
 obtain ⟨kE, gI⟩ := iQ (St.start w).bel ht1 hc0
 clear kE gI
 obtain ⟨kE, gI, iD⟩ := fQ (St.start w).bel ht1 hc0 hc1
 clear kE gI iD
 obtain ⟨kE, gI, iD, dO⟩ := jc (St.start w).bel ht1 hc0 hc1 q1
 go_enter func221, ntmps221
 go_upto_region 1 with fail
 refine iT (fun w' => cV w' tb 1 (.slice (some ⟨b, o, none⟩) rs.length cr) ∧ cI w' cb co n ∧ cV w' cb (co + 1) (.slice Vk sc.length FI) ∧ cV w' b (o + n * 2 + 1) (.slice a1 ts.length c1)) (.z [0,1,2,3,4,5,6,7,8,9] .nil) ?_ ?_
 · exact ⟨qC ((St.start w).drew).bel ht1, qC ((St.start w).drew).bel hc0, qC ((St.start w).drew).bel hc1, qC ((St.start w).drew).bel q1⟩
 have amQ := (St.start w).drew
 clear kE gI iD dO
 have aoU : w.heap.size ≤ (w.drew).heap.size := by simp
 generalize w.drew = asr at *
 refine aV ?_
 obtain ⟨kE, gI, iD, dO⟩ := jc amQ.bel ht1 hc0 hc1 q1
 refine iF ?_
 obtain ⟨wB, rfl⟩ : ∃ x, x = asr := ⟨_, rfl⟩
 have HBB := qH amQ.bel
 go_wp2_with fail
 go_loopw [12] (fun i wl => ∃ k : Nat, k ≤ ts.length ∧ i = .int .i64 k ∧ Hid (Below wB.heap.size wB wl) ∧ Hid (∀ j (hj : j < ts.length), j < k → yS sc ds p a ts[j] = false)) (fun i _ => ts.length - (intOf i).toNat)
 case atStart => exact ⟨0, Nat.zero_le _, rfl, Below.refl _ _, fun j _ hj => absurd hj (Nat.not_lt_zero _)⟩
 obtain ⟨k, hk, rfl, hbl, hr⟩ := hrel
 have hs1 := (St.start w).step (HBB.out.trans (hbl.out.mono HBB.out.size))
 have HBK := qH hbl.out
 obtain ⟨kE, gI, iD, dO⟩ := jc hs1.bel ht1 hc0 hc1 q1
 by_cases hlt : k < ts.length
 rotate_left
 · obtain rfl : k = ts.length := by omega
   have hnk : ¬ ((ts.length : Int) < ts.length) := by omega
   have H1 := qH (show EM ts sc ds p a = false from by
    unfold EM
    rw [List.any_eq_false]
    intro x hx
    obtain ⟨j, hj, rfl⟩ := List.getElem_of_mem hx
    rw [hr.out j hj hj]; decide)
   go_wp2_with fail
   go_ret
   exact ⟨ak H1.out.symm, hs1.bel⟩
 have hkl : (k : Int) < ts.length := by omega
 obtain ⟨b2, o2, u2, rfl, qt, Y6⟩ := bF rfl (aS hs1.bel Ov.out) k hlt
 have hyl := U0.out _ (List.getElem_mem hlt)
 have hbk : b2 < w.heap.size ∨ True := .inr trivial
 have HYK := qH Y6
 have amS := qH (fun (h : yS sc ds p a ts[k] = true) => show EM ts sc ds p a = true from List.any_eq_true.2 ⟨ts[k], List.getElem_mem hlt, h⟩)
 have Ve := qH (fun (h : yS sc ds p a ts[k] = false) => show ∀ j (hj : j < ts.length), j < k + 1 → yS sc ds p a ts[j] = false from fun j hj hjk => by
  rcases Nat.lt_or_ge j k with h1 | h1
  · exact hr.out j hj h1
  · obtain rfl : j = k := by omega
    exact h)
 generalize ts[k] = y at *
 obtain ⟨ay, cy, rfl, _⟩ := ah Y6
 have hpy : p < y.length := by have := X7.out; omega
 have hpI : (p : Int) < y.length := by omega
 obtain ⟨by1, oy, rfl, qp, _⟩ := aI Y6 p hpy
 have HPA := qH (show y.getD p 0 = y[p] by simp [List.getD, hpy])
 have D9 := qH hyl
 have ayu : y.length ≤ 2 ^ 63 - 1 := by omega
 clear Y6 hyl hbk
 generalize y[p] = YP at *
 have CO := HYK
 have aeK := HBK
 clear kE gI iD dO
 obtain ⟨kE, gI, iD, dO⟩ := jc hs1.bel ht1 hc0 hc1 q1
 by_cases h1 : YP = a
 rotate_left
 · have h1b : (YP == a) = false := by simp [h1]
   obtain ⟨B0, hB0⟩ : ∃ B : Bool, B = false := ⟨_, rfl⟩
   have HB0 := qH (show B0 = (decide (y.getD p 0 = a) && jh sc y) by rw [HPA.out, decide_eq_false h1, Bool.false_and, hB0])
   subst hB0
   clear h1
   obtain ⟨wC, rfl⟩ : ∃ x, x = wr := ⟨_, rfl⟩
   have HWC := qH hs1.bel
   have HKC := qH aeK.out
   have HYC := qH HYK.out
   go_wp2_with fail
   go_loopw [14, 15] (fun ok i wl => ∃ (q : Nat) (B : Bool), q ≤ sc.length ∧ i = .int .i64 q ∧ ok = .bool B ∧ Hid (Below wC.heap.size wC wl) ∧ Hid ((B = true → (decide (y.getD p 0 = a) && jh sc y) = true ∧ ∀ i, i < q → uT sc ds y i = true) ∧ (B = false → yS sc ds p a y = false))) (fun _ i _ => sc.length - (intOf i).toNat)
   case atStart => exact ⟨0, false, Nat.zero_le _, rfl, rfl, Below.refl _ _, ⟨fun h => ⟨by rw [← HB0.out]; exact h, fun i hi => absurd hi (Nat.not_lt_zero _)⟩, fun h => by unfold yS; rw [← HB0.out, h, Bool.false_and]⟩⟩
   obtain ⟨q, B, hq, rfl, rfl, Pg, hB⟩ := hrel
   have hs2 := (St.start w).step (HWC.out.trans (Pg.out.mono HWC.out.size))
   have HKQ := qH (HKC.out.trans (Pg.out.mono HKC.out.size))
   obtain ⟨kE, gI, iD, dO⟩ := jc hs2.bel ht1 hc0 hc1 q1
   by_cases P6 : q < sc.length
   rotate_left
   · obtain rfl : q = sc.length := by omega
     have aiV : ¬ ((sc.length : Int) < y.length) := by have := D9.out; omega
     cases B
     · have H1 := qH (Ve.out (hB.out.2 rfl))
       go_wp2_with fail
       go_roundw
       case rel => exact ⟨k + 1, by omega, by go_num, HKQ.out, H1.out⟩
       simp [intOf]; omega
     have H1 := qH (amS.out (O7 ((hB.out).1 rfl).1 ((hB.out).1 rfl).2))
     go_wp2_with fail
     go_ret
     exact ⟨ak H1.out.symm, hs2.bel⟩
   have hqI : (q : Int) < sc.length := by omega
   have Gj : q < y.length := by have := D9.out; omega
   have aiV : (q : Int) < y.length := by omega
   cases B
   · have H1 := qH (Ve.out (hB.out.2 rfl))
     go_wp2_with fail
     go_roundw
     case rel => exact ⟨k + 1, by omega, by go_num, HKQ.out, H1.out⟩
     simp [intOf]; omega
   obtain ⟨b5, o5, rfl, qk, _⟩ := aI (Rd.mono qU.out hs2.bel) q P6
   obtain ⟨b', o', e1, qy, _⟩ := aI (Rd.mono HYC.out Pg.out) q Gj
   simp only [Option.some.injEq, Addr.mk.injEq, and_true] at e1
   obtain ⟨rfl, rfl⟩ := e1
   have hv := HV.out _ (List.getElem_mem P6)
   have KH := qH (show uT sc ds y q = nS (ds.getD (sc[q]).toNat []) y[q] by simp [uT, List.getD, P6, Gj])
   obtain ⟨m, hm⟩ : ∃ m : Nat, sc[q] = (m : Int) := ⟨(sc[q]).toNat, by omega⟩
   rw [hm] at hv qk KH
   rw [Int.toNat_natCast] at KH
   have hmd : m < ds.length := by omega
   have asv : (m : Int) < ds.length := by omega
   clear hm
   obtain ⟨b3, o3, u3, rfl, qd, hdn⟩ := bF rfl (aS hs2.bel HDR.out) m hmd
   obtain ⟨a3, c3, rfl, _⟩ := ah hdn
   have Tt := qH hdn
   rw [show ds.getD m [] = ds[m] by simp [List.getD, hmd]] at KH
   clear hdn
   generalize ds[m] = D at *
   generalize y[q] = YQ at *
   have HBQ := Pg
   have abA := qH hB.out
   go_upto_region 10 with fail
   refine iT (fun w' => cV w' tb 1 (.slice (some ⟨b, o, none⟩) rs.length cr) ∧ cI w' cb co n ∧ cV w' cb (co + 1) (.slice (some ⟨b5, o5, none⟩) sc.length FI) ∧ cV w' b (o + n * 2 + 1) (.slice (some ⟨b2, o2, none⟩) ts.length c1) ∧ cI w' b5 (o5 + q) m ∧ cI w' by1 (oy + q) YQ ∧ cV w' b3 (o3 + m) (.slice a3 D.length c3)) (.z [0,1,2,3,4,5,6,7,8,9,10,11,12,13] (.hard 14 (.float 15 .nil))) ?_ ?_
   · exact ⟨qC (hs2.drew).bel ht1, qC (hs2.drew).bel hc0, qC (hs2.drew).bel hc1, qC (hs2.drew).bel q1, qC (belowD _) qk, qC (belowD _) qy, qC (belowD _) qd⟩
   have amW := hs2.drew
   have abB := qC (belowD _) qk
   clear qk
   have abC := qC (belowD _) qy
   clear qy
   have abD := qC (belowD _) qd
   clear qd
   have XI := qH (Rd.mono Tt.out (belowD _))
   clear Tt
   have Ph := qH (HBQ.out.trans (((belowD _)).mono HBQ.out.size))
   clear HBQ
   clear kE gI iD dO
   have amX : wr.heap.size ≤ (wr.drew).heap.size := by simp
   generalize wr.drew = amY at *
   refine aV ?_
   refine gX fun K hK => ?_
   go_wp2_with (go_at_call 188; refine (xG D _ YQ _ XI.out).mono ?_; rintro e asw ⟨rfl, EN⟩)
   have aoV : amY.heap.size ≤ asw.heap.size := hZ EN
   have Rt := amW.step EN
   have aiX := qC EN abB
   clear abB
   have aiY := qC EN abC
   clear abC
   have aiZ := qC EN abD
   clear abD
   clear XI
   have aeL := qH (Ph.out.trans ((EN).mono Ph.out.size))
   clear Ph
   refine ⟨⟨qC Rt.bel ht1, qC Rt.bel hc0, qC Rt.bel hc1, qC Rt.bel q1, aiX, aiY, aiZ⟩, ?_⟩
   refine aV ?_
   obtain ⟨kE, gI, iD, dO⟩ := jc Rt.bel ht1 hc0 hc1 q1
   refine iF ?_
   go_wp2_with fail
   go_roundw
   case rel =>
    refine ⟨q + 1, nS D YQ, by omega, by go_num, rfl, aeL.out, ⟨fun h => ⟨((abA.out).1 (by first | rfl | trivial)).1, fun i hi => ?_⟩, fun h => JA P6 (by rw [KH.out]; exact h)⟩⟩
    rcases Nat.lt_or_ge i q with h1 | h1
    · exact ((abA.out).1 (by first | rfl | trivial)).2 i h1
    obtain rfl : i = q := by omega
    rw [KH.out]; exact h
   simp [intOf]; omega
 have h1b : (YP == a) = true := by simp [h1]
 obtain ⟨B0, e0⟩ : ∃ B, jh sc y = B := ⟨_, rfl⟩
 have HB0 := qH (show B0 = (decide (y.getD p 0 = a) && jh sc y) by rw [HPA.out, decide_eq_true h1, Bool.true_and, e0])
 have HE0 := qH e0
 clear h1 e0
 go_wp2_with fail
 refine (Cm n sc y cb co _ _ _ (Rd.mono qU.out hs1.bel) (qC hs1.bel hc1) HYK.out D9.out).mono ?_
 rintro e w85 ⟨rfl, MZ⟩
 have asy : wr.heap.size ≤ w85.heap.size := hZ MZ
 have amZ := hs1.step MZ
 have avI := qC MZ qt
 clear qt
 have avJ := qC MZ qp
 clear qp
 have ai0 := qH (Rd.mono HYK.out MZ)
 clear HYK
 have aeM := qH (aeK.out.trans ((MZ).mono aeK.out.size))
 clear aeK
 clear kE gI iD dO
 obtain ⟨kE, gI, iD, dO⟩ := jc amZ.bel ht1 hc0 hc1 q1
 rw [HE0.out]
 obtain ⟨wC, rfl⟩ : ∃ x, x = w85 := ⟨_, rfl⟩
 have HWC := qH amZ.bel
 have HKC := qH aeM.out
 have HYC := qH ai0.out
 go_wp2_with fail
 go_loopw [14, 15] (fun ok i wl => ∃ (q : Nat) (B : Bool), q ≤ sc.length ∧ i = .int .i64 q ∧ ok = .bool B ∧ Hid (Below wC.heap.size wC wl) ∧ Hid ((B = true → (decide (y.getD p 0 = a) && jh sc y) = true ∧ ∀ i, i < q → uT sc ds y i = true) ∧ (B = false → yS sc ds p a y = false))) (fun _ i _ => sc.length - (intOf i).toNat)
 case atStart => exact ⟨0, B0, Nat.zero_le _, rfl, rfl, Below.refl _ _, ⟨fun h => ⟨by rw [← HB0.out]; exact h, fun i hi => absurd hi (Nat.not_lt_zero _)⟩, fun h => by unfold yS; rw [← HB0.out, h, Bool.false_and]⟩⟩
 obtain ⟨q, B, hq, rfl, rfl, Pg, hB⟩ := hrel
 have hs2 := (St.start w).step (HWC.out.trans (Pg.out.mono HWC.out.size))
 have HKQ := qH (HKC.out.trans (Pg.out.mono HKC.out.size))
 obtain ⟨kE, gI, iD, dO⟩ := jc hs2.bel ht1 hc0 hc1 q1
 by_cases P6 : q < sc.length
 rotate_left
 · obtain rfl : q = sc.length := by omega
   have aiV : ¬ ((sc.length : Int) < y.length) := by have := D9.out; omega
   cases B
   · have H1 := qH (Ve.out (hB.out.2 rfl))
     go_wp2_with fail
     go_roundw
     case rel => exact ⟨k + 1, by omega, by go_num, HKQ.out, H1.out⟩
     simp [intOf]; omega
   have H1 := qH (amS.out (O7 ((hB.out).1 rfl).1 ((hB.out).1 rfl).2))
   go_wp2_with fail
   go_ret
   exact ⟨ak H1.out.symm, hs2.bel⟩
 have hqI : (q : Int) < sc.length := by omega
 have Gj : q < y.length := by have := D9.out; omega
 have aiV : (q : Int) < y.length := by omega
 cases B
 · have H1 := qH (Ve.out (hB.out.2 rfl))
   go_wp2_with fail
   go_roundw
   case rel => exact ⟨k + 1, by omega, by go_num, HKQ.out, H1.out⟩
   simp [intOf]; omega
 obtain ⟨b5, o5, rfl, qk, _⟩ := aI (Rd.mono qU.out hs2.bel) q P6
 obtain ⟨b', o', e1, qy, _⟩ := aI (Rd.mono HYC.out Pg.out) q Gj
 simp only [Option.some.injEq, Addr.mk.injEq, and_true] at e1
 obtain ⟨rfl, rfl⟩ := e1
 have hv := HV.out _ (List.getElem_mem P6)
 have KH := qH (show uT sc ds y q = nS (ds.getD (sc[q]).toNat []) y[q] by simp [uT, List.getD, P6, Gj])
 obtain ⟨m, hm⟩ : ∃ m : Nat, sc[q] = (m : Int) := ⟨(sc[q]).toNat, by omega⟩
 rw [hm] at hv qk KH
 rw [Int.toNat_natCast] at KH
 have hmd : m < ds.length := by omega
 have asv : (m : Int) < ds.length := by omega
 clear hm
 obtain ⟨b3, o3, u3, rfl, qd, hdn⟩ := bF rfl (aS hs2.bel HDR.out) m hmd
 obtain ⟨a3, c3, rfl, _⟩ := ah hdn
 have Tt := qH hdn
 rw [show ds.getD m [] = ds[m] by simp [List.getD, hmd]] at KH
 clear hdn
 generalize ds[m] = D at *
 generalize y[q] = YQ at *
 have HBQ := Pg
 have abA := qH hB.out
 go_upto_region 10 with fail
 refine iT (fun w' => cV w' tb 1 (.slice (some ⟨b, o, none⟩) rs.length cr) ∧ cI w' cb co n ∧ cV w' cb (co + 1) (.slice (some ⟨b5, o5, none⟩) sc.length FI) ∧ cV w' b (o + n * 2 + 1) (.slice (some ⟨b2, o2, none⟩) ts.length c1) ∧ cI w' b5 (o5 + q) m ∧ cI w' by1 (oy + q) YQ ∧ cV w' b3 (o3 + m) (.slice a3 D.length c3)) (.z [0,1,2,3,4,5,6,7,8,9,10,11,12,13] (.hard 14 (.float 15 .nil))) ?_ ?_
 · exact ⟨qC (hs2.drew).bel ht1, qC (hs2.drew).bel hc0, qC (hs2.drew).bel hc1, qC (hs2.drew).bel q1, qC (belowD _) qk, qC (belowD _) qy, qC (belowD _) qd⟩
 have asz := hs2.drew
 have agc := qC (belowD _) qk
 clear qk
 have agd := qC (belowD _) qy
 clear qy
 have agf := qC (belowD _) qd
 clear qd
 have abE := qH (Rd.mono Tt.out (belowD _))
 clear Tt
 have Vl := qH (HBQ.out.trans (((belowD _)).mono HBQ.out.size))
 clear HBQ
 clear kE gI iD dO
 have aoW : wr.heap.size ≤ (wr.drew).heap.size := by simp
 generalize wr.drew = asA at *
 refine aV ?_
 refine gX fun K hK => ?_
 go_wp2_with (go_at_call 188; refine (xG D _ YQ _ abE.out).mono ?_; rintro e w98 ⟨rfl, Na⟩)
 have asB : asA.heap.size ≤ w98.heap.size := hZ Na
 have KE := asz.step Na
 have ai1 := qC Na agc
 clear agc
 have ai2 := qC Na agd
 clear agd
 have ai3 := qC Na agf
 clear agf
 clear abE
 have aeN := qH (Vl.out.trans ((Na).mono Vl.out.size))
 clear Vl
 refine ⟨⟨qC KE.bel ht1, qC KE.bel hc0, qC KE.bel hc1, qC KE.bel q1, ai1, ai2, ai3⟩, ?_⟩
 refine aV ?_
 obtain ⟨kE, gI, iD, dO⟩ := jc KE.bel ht1 hc0 hc1 q1
 refine iF ?_
 go_wp2_with fail
 go_roundw
 case rel =>
  refine ⟨q + 1, nS D YQ, by omega, by go_num, rfl, aeN.out, ⟨fun h => ⟨((abA.out).1 (by first | rfl | trivial)).1, fun i hi => ?_⟩, fun h => JA P6 (by rw [KH.out]; exact h)⟩⟩
  rcases Nat.lt_or_ge i q with h1 | h1
  · exact ((abA.out).1 (by first | rfl | trivial)).2 i h1
  obtain rfl : i = q := by omega
  rw [KH.out]; exact h
 simp [intOf]; omega
end Go.Proofs.YtoblfnoaepbhfaaGreat
