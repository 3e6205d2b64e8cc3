import Derived.Test.YtoblfnoaepbhfaaGreatFailBQz
import Derived.Test.YtoblfnoaepbhfaaGreatDomBQz
import Derived.Test.YtoblfnoaepbhfaaGreatRowsBQz
set_option linter.unusedSimpArgs false
set_option linter.unusedVariables false
set_option maxHeartbeats 4000000
set_option maxRecDepth 100000
namespace Go.Proofs.YtoblfnoaepbhfaaGreat
open Go.Proofs.Tryz
open Go.RowKit Go.Shelf Go.IntWalk
open Rep (Rd Own sz)
def jk (i j : Nat) : Nat := j * (j - 1) / 2 + i
theorem aeT : ∀ v, v ≤ 10 → ∀ j, j < v → ∀ i, i < j → jk i j < v * (v - 1) / 2 := by decide
theorem RG : ∀ j : Nat, j ≤ 9 → ∀ i : Nat, i < j → (0 : Int) ≤ (j : Int) * ((j : Int) - 1) ∧ (j : Int) * ((j : Int) - 1) ≤ 72 ∧ ((j : Int) * ((j : Int) - 1)) / 2 + (i : Int) = (jk i j : Int) ∧ jk i j ≤ 44 := by decide
def iU (ps : List bH) (i j : Nat) (a b : Int) : Bool := if j < i then jH (ps.getD (jk j i) (0, [])).2 [b, a] else jH (ps.getD (jk i j) (0, [])).2 [a, b]
structure yU (size : Int) (v : Nat) (ps : List bH) : Prop where
 v10 : v ≤ 10
 len : ps.length = v * (v - 1) / 2
 ok : ∀ r, r ∈ ps → fJ size r = true ∧ r.1 = 2
theorem yU.inc {size : Int} {v : Nat} {ps : List bH} (h : yU size v ps) (r : bH) (hr : r ∈ ps) : Inc r.2 ∧ r.2.length ≤ 1000000 :=
 ⟨AL (h.ok r hr).1, by have := (vV (h.ok r hr).1).2; omega⟩
theorem yU.lt {size : Int} {v : Nat} {ps : List bH} (h : yU size v ps) {i j : Nat} (hij : i < j) (hj : j < v) : jk i j < ps.length := by
 rw [h.len]; exact aeT v h.v10 j hj i hij
theorem Ae (i j : Nat) (w : World) (hij : i < j) (hj : j ≤ 9) : Calls prog 253 #[.int .i64 i, .int .i64 j] w fun e w' => e = .returned (.int .i64 (jk i j : Nat)) ∧ w = w' := by
 obtain ⟨h1, h2, h3, h4⟩ := RG j hj i hij
 have H3 := qH h3
 have hlt : (i : Int) < j := by omega
 have hnl : ¬ ((j : Int) < i) := by omega
 have hmx : max (i : Int) (j : Int) = (j : Int) := Int.max_eq_right (Int.le_of_lt hlt)
 have hmn : min (i : Int) (j : Int) = (i : Int) := Int.min_eq_left (Int.le_of_lt hlt)
 clear h3
 go_enter func253, ntmps253
 go_wp2_with fail
 go_ret
 exact ⟨aU (by first | exact H3.out | (rw [← H3.out]; done) | (simp only [hmx, hmn]; have := H3.out; exact this) | (simp only [hmx, hmn]; go_simp; first | exact H3.out | (have := H3.out; omega)) | (have := H3.out; omega)), rfl⟩
theorem CB (i j : Nat) (w : World) (hij : i < j) (hj : j ≤ 9) : Calls prog 224 #[.int .i64 i, .int .i64 j] w fun e w' => e = .returned (.int .i64 (jk i j : Nat)) ∧ w = w' := by
 obtain ⟨h1, h2, h3, h4⟩ := RG j hj i hij
 have H3 := qH h3
 have hlt : (i : Int) < j := by omega
 have hnl : ¬ ((j : Int) < i) := by omega
 have hmx : max (i : Int) (j : Int) = (j : Int) := Int.max_eq_right (Int.le_of_lt hlt)
 have hmn : min (i : Int) (j : Int) = (i : Int) := Int.min_eq_left (Int.le_of_lt hlt)
 clear h3
 go_enter func224, ntmps224
 go_wp2_with fail
 go_ret
 exact ⟨aU (by first | exact H3.out | (rw [← H3.out]; done) | (simp only [hmx, hmn]; have := H3.out; exact this) | (simp only [hmx, hmn]; go_simp; first | exact H3.out | (have := H3.out; omega)) | (have := H3.out; omega)), rfl⟩
theorem Af (size : Int) (v : Nat) (ps : List bH) (i j : Nat) (a b : Int) (vp : Value) (w : World) (hp : Rd w [vp] ps) (hok : yU size v ps) (hij : i ≠ j) (hi : i < v) (hj : j < v) (ha : I64 a) (hb : I64 b) :
 Calls prog 130 #[vp, .int .i64 i, .int .i64 j, .int .i64 a, .int .i64 b] w fun e w' => e = .returned (.bool (iU ps i j a b)) ∧ Below w.heap.size w w' := by
 have HP := qH hp
 have vW := qH hok
 have h10 := hok.v10
 obtain ⟨a0, c0, rfl, _⟩ := ah hp
 have HIA := qH ha
 have HIB := qH hb
 clear hp hok ha hb
 go_enter func130, ntmps130
 by_cases hlt : j < i
 · have hK := vW.out.lt hlt hi
   have HL := qH (show iU ps i j a b = jH (ps.getD (jk j i) (0, [])).2 [b, a] by unfold iU; rw [if_pos hlt])
   obtain ⟨g, o, u0, u1, rfl, q0, q1, hy⟩ := dL rfl HP.out _ hK
   have hinc := vW.out.inc _ (List.getElem_mem hK)
   have hgt : (j : Int) < i := by omega
   have dW := qC (St.start w).bel q0
   clear dW
   obtain ⟨dW, dO⟩ := iQ (St.start w).bel q0 q1
   clear dW dO
   obtain ⟨dW, dO⟩ := iQ (St.start w).bel q0 q1
   go_wp2_with fail
   refine (Ae j i _ hlt (by omega)).mono ?_
   rintro e w1 ⟨rfl, rfl, rfl⟩
   rw [show ps.getD (jk j i) (0, []) = ps[jk j i] by simp [List.getD, hK]] at HL
   generalize hKK : jk j i = K at *
   generalize hR : ps[K] = R at *
   obtain ⟨ar, tl⟩ := R
   have hyz := au rfl hy
   obtain ⟨rfl, _⟩ := aG hyz.1
   obtain ⟨a3, c3, rfl, _⟩ := ah hyz.2
   have HY := qH hy
   have RH := qH hinc
   clear hy hyz hinc hR hKK
   have hKl : (K : Int) < ps.length := by omega
   go_wp2_with fail
   have hs2 := (St.start w).alloc #[.int .i64 b, .int .i64 a] 2 (n := w.heap.size) (by simp)
   clear dW dO
   obtain ⟨aF, aH⟩ := hs2.c2 0 0 0 1
   obtain ⟨dW, dO⟩ := iQ hs2.bel q0 q1
   go_wp2_with fail
   refine (XJ (ar, tl) [b, a] _ _ _ _ (Rd.mono HY.out hs2.bel) (GH HIB.out HIA.out (hs2.c 0 0) (hs2.c 0 1)) RH.out.1 RH.out.2).mono ?_
   rintro e w3 ⟨rfl, hbw3⟩
   have am3 : w.heap.size + 1 ≤ w3.heap.size := hZ hbw3
   have hs4 := hs2.step hbw3
   clear aF aH dW dO
   obtain ⟨aF, aH⟩ := hs4.c2 0 0 0 1
   obtain ⟨dW, dO⟩ := iQ hs4.bel q0 q1
   generalize jH (ar, tl).2 [b, a] = H at *
   go_wp2_with fail
   go_ret
   exact ⟨ak HL.out.symm, hs4.bel⟩
 have hlt2 : i < j := by omega
 have hK := vW.out.lt hlt2 hj
 have HL := qH (show iU ps i j a b = jH (ps.getD (jk i j) (0, [])).2 [a, b] by unfold iU; rw [if_neg hlt])
 obtain ⟨g, o, u0, u1, rfl, q0, q1, hy⟩ := dL rfl HP.out _ hK
 have hinc := vW.out.inc _ (List.getElem_mem hK)
 have hgt : ¬ ((j : Int) < i) := by omega
 have dW := qC (St.start w).bel q0
 clear dW
 obtain ⟨dW, dO⟩ := iQ (St.start w).bel q0 q1
 clear dW dO
 obtain ⟨dW, dO⟩ := iQ (St.start w).bel q0 q1
 go_wp2_with fail
 refine (Ae i j _ hlt2 (by omega)).mono ?_
 rintro e w5 ⟨rfl, rfl, rfl⟩
 rw [show ps.getD (jk i j) (0, []) = ps[jk i j] by simp [List.getD, hK]] at HL
 generalize hKK : jk i j = K at *
 generalize hR : ps[K] = R at *
 obtain ⟨ar, tl⟩ := R
 have hyz := au rfl hy
 obtain ⟨rfl, _⟩ := aG hyz.1
 obtain ⟨a3, c3, rfl, _⟩ := ah hyz.2
 have HY := qH hy
 have RH := qH hinc
 clear hy hyz hinc hR hKK
 have hKl : (K : Int) < ps.length := by omega
 go_wp2_with fail
 have hs6 := (St.start w).alloc #[.int .i64 a, .int .i64 b] 2 (n := w.heap.size) (by simp)
 clear dW dO
 obtain ⟨aF, aH⟩ := hs6.c2 0 0 0 1
 obtain ⟨dW, dO⟩ := iQ hs6.bel q0 q1
 go_wp2_with fail
 refine (XJ (ar, tl) [a, b] _ _ _ _ (Rd.mono HY.out hs6.bel) (GH HIA.out HIB.out (hs6.c 0 0) (hs6.c 0 1)) RH.out.1 RH.out.2).mono ?_
 rintro e w7 ⟨rfl, AY⟩
 have Xj : w.heap.size + 1 ≤ w7.heap.size := hZ AY
 have hs8 := hs6.step AY
 clear aF aH dW dO
 obtain ⟨aF, aH⟩ := hs8.c2 0 0 0 1
 obtain ⟨dW, dO⟩ := iQ hs8.bel q0 q1
 generalize jH (ar, tl).2 [a, b] = H at *
 go_wp2_with fail
 go_ret
 exact ⟨ak HL.out.symm, hs8.bel⟩
theorem xJ (size : Int) (v : Nat) (ps : List bH) (i j : Nat) (a b : Int) (vp : Value) (w : World) (hp : Rd w [vp] ps) (hok : yU size v ps) (hij : i ≠ j) (hi : i < v) (hj : j < v) (ha : I64 a) (hb : I64 b) :
 Calls prog 225 #[vp, .int .i64 i, .int .i64 j, .int .i64 a, .int .i64 b] w fun e w' => e = .returned (.bool (iU ps i j a b)) ∧ Below w.heap.size w w' := by
 have HP := qH hp
 have vW := qH hok
 have h10 := hok.v10
 obtain ⟨a0, c0, rfl, _⟩ := ah hp
 have HIA := qH ha
 have HIB := qH hb
 clear hp hok ha hb
 go_enter func225, ntmps225
 by_cases hlt : j < i
 · have hK := vW.out.lt hlt hi
   have HL := qH (show iU ps i j a b = jH (ps.getD (jk j i) (0, [])).2 [b, a] by unfold iU; rw [if_pos hlt])
   obtain ⟨g, o, u0, u1, rfl, q0, q1, hy⟩ := dL rfl HP.out _ hK
   have hgt : (j : Int) < i := by omega
   have dO := qC (St.start w).bel q1
   clear dO
   have dO := qC (St.start w).bel q1
   go_wp2_with fail
   refine (CB j i _ hlt (by omega)).mono ?_
   rintro e w9 ⟨rfl, rfl, rfl⟩
   rw [show ps.getD (jk j i) (0, []) = ps[jk j i] by simp [List.getD, hK]] at HL
   generalize hKK : jk j i = K at *
   generalize hR : ps[K] = R at *
   have hyz := au rfl hy
   have HY := qH hyz.2
   clear hy hyz hR hKK
   have hKl : (K : Int) < ps.length := by omega
   go_wp2_with fail
   have hs10 := (St.start w).alloc #[.int .i64 b, .int .i64 a] 2 (n := w.heap.size) (by simp)
   clear dO
   obtain ⟨aF, aH⟩ := hs10.c2 0 0 0 1
   have dO := qC hs10.bel q1
   go_wp2_with fail
   refine (JE R [b, a] _ _ _ _ _ (Rd.mono HY.out hs10.bel) (qC hs10.bel q1) (GH HIB.out HIA.out (hs10.c 0 0) (hs10.c 0 1))).mono ?_
   rintro e w11 ⟨rfl, FM⟩
   have abM : w.heap.size + 1 ≤ w11.heap.size := hZ FM
   have kT := hs10.step FM
   clear aF aH dO
   obtain ⟨aF, aH⟩ := kT.c2 0 0 0 1
   have dO := qC kT.bel q1
   generalize jH R.2 [b, a] = H at *
   go_wp2_with fail
   go_ret
   exact ⟨ak HL.out.symm, kT.bel⟩
 have hlt2 : i < j := by omega
 have hK := vW.out.lt hlt2 hj
 have HL := qH (show iU ps i j a b = jH (ps.getD (jk i j) (0, [])).2 [a, b] by unfold iU; rw [if_neg hlt])
 obtain ⟨g, o, u0, u1, rfl, q0, q1, hy⟩ := dL rfl HP.out _ hK
 have hgt : ¬ ((j : Int) < i) := by omega
 have dO := qC (St.start w).bel q1
 clear dO
 have dO := qC (St.start w).bel q1
 go_wp2_with fail
 refine (CB i j _ hlt2 (by omega)).mono ?_
 rintro e w13 ⟨rfl, rfl, rfl⟩
 rw [show ps.getD (jk i j) (0, []) = ps[jk i j] by simp [List.getD, hK]] at HL
 generalize hKK : jk i j = K at *
 generalize hR : ps[K] = R at *
 have hyz := au rfl hy
 have HY := qH hyz.2
 clear hy hyz hR hKK
 have hKl : (K : Int) < ps.length := by omega
 go_wp2_with fail
 have eU := (St.start w).alloc #[.int .i64 a, .int .i64 b] 2 (n := w.heap.size) (by simp)
 clear dO
 obtain ⟨aF, aH⟩ := eU.c2 0 0 0 1
 have dO := qC eU.bel q1
 go_wp2_with fail
 refine (JE R [a, b] _ _ _ _ _ (Rd.mono HY.out eU.bel) (qC eU.bel q1) (GH HIA.out HIB.out (eU.c 0 0) (eU.c 0 1))).mono ?_
 rintro e w15 ⟨rfl, yZ⟩
 have Va : w.heap.size + 1 ≤ w15.heap.size := hZ yZ
 have qW := eU.step yZ
 clear aF aH dO
 obtain ⟨aF, aH⟩ := qW.c2 0 0 0 1
 have dO := qC qW.bel q1
 generalize jH R.2 [a, b] = H at *
 go_wp2_with fail
 go_ret
 exact ⟨ak HL.out.symm, qW.bel⟩
def KI (f : Int) (n : Nat) : List Int := (List.range n).map (fun (k : Nat) => f + (k : Int))
theorem Po (f : Int) (n : Nat) : (KI f n).length = n := by simp [KI]
theorem RJ (f : Int) (n : Nat) : KI f (n + 1) = KI f n ++ [f + (n : Int)] := by simp [KI, List.range_succ]
theorem aja (f : Int) (n : Nat) (w : World) (hf : 0 ≤ f) (hf2 : f ≤ 1000000) (hn : n ≤ 1000000) :
 Calls prog 120 #[.int .i64 f, .int .i64 n] w fun e w' => ∃ v, e = .returned v ∧ Acc w.heap.size w'.heap.size 2 w' v (KI f n) ∧ Below w.heap.size w w' := by
 have HM := qH (mJ (α := Int) w 2)
 go_enter func120, ntmps120
 go_wp2_with fail
 go_loopw [5, 9] (fun o i wl => ∃ (k : Nat) (ao : Option Addr) (co : Nat), k ≤ n ∧ i = .int .i64 k ∧ o = .slice ao k co ∧ Hid (Below w.heap.size w wl) ∧ Hid (Acc w.heap.size wl.heap.size 2 wl (.slice ao k co) (KI f k))) (fun _ i _ => n - (intOf i).toNat)
 case atStart => exact ⟨0, _, _, Nat.zero_le _, rfl, rfl, aB _ _, by simpa [KI, Hid] using HM.out⟩
 clear HM
 obtain ⟨k, ao, co, hk, rfl, rfl, hbl, hac⟩ := hrel
 have hb0 := hbl.out.size
 have hlen := Po f k
 by_cases hlt : k < n
 · go_wp2_with (at_builtin; go_loud (refine dS _ rfl _ _ _ rfl eH rfl (Acc.mono hac.out (aB _ (.cells #[.int .i64 (f + k)] 2))) (by omega) (by simp) ⟨wr.heap.size, 0, none⟩ 1 rfl (ns := [f + (k : Int)]) (qB (aA (heap_alloc_new _ _))) (fun b hb => by simp at hb; subst hb; exact ⟨by omega, by omega⟩) (by simp; omega) ?_); intro a9 c9 w9 jG vg hK9)
   rw [← RJ, hlen] at jG
   have HA := qH jG
   have HB := qH (hbl.out.trans ((aB wr (.cells #[.int .i64 (f + k)] 2)).mono hbl.out.size) |>.trans vg)
   clear jG vg hK9 hac hbl
   go_wp2_with fail
   go_roundw
   case rel => exact ⟨k + 1, a9, c9, hlt, by go_num, rfl, HB.out, HA.out⟩
   simp [intOf]; omega
 obtain rfl : k = n := by omega
 go_wp2_with fail
 go_ret
 exact ⟨_, rfl, hac.out, hbl.out⟩
end Go.Proofs.YtoblfnoaepbhfaaGreat
