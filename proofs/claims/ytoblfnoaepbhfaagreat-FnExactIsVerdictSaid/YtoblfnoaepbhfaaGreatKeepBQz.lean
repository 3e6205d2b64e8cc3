import Derived.Test.YtoblfnoaepbhfaaGreatTmplBQz
import Derived.Test.YtoblfnoaepbhfaaGreatRowsBQz
import Derived.Lib.BufferMore
import Derived.Test.YtoblfnoaepbhfaaGreatRowBQz
import Derived.Shelf.Abstract
import Derived.Deep.RegionHeld3
import Derived.Test.YtoblfnoaepbhfaaGreatBaseQz
set_option linter.unusedSimpArgs false
set_option linter.unusedVariables false
set_option maxHeartbeats 16000000
set_option maxRecDepth 100000
namespace Go.Proofs.YtoblfnoaepbhfaaGreat
open Go.Proofs.Tryz
open Go.RowKit Go.Shelf Go.IntWalk
open Rep (Rd Own sz)
theorem aav {α : Type} {R : List α} {d : α} {p : Nat} (h : p < R.length) : (R.take p ++ List.replicate (R.length - p) d).set p R[p] = R.take (p + 1) ++ List.replicate (R.length - (p + 1)) d := by
 rw [List.set_append_right _ _ (by simp; omega), show p - (R.take p).length = 0 by simp; omega, show R.length - p = (R.length - (p + 1)) + 1 by omega, List.replicate_succ, sZ, List.take_succ_eq_append_getElem h, List.append_assoc]
 rfl
theorem Xh {w : World} {a : Option Addr} {c : Nat} {l : List (List Int)} (h : Bz w a c l) (h0 : 0 < l.length) : ∃ (b o : Nat) (vh : Nat → Value), a = some ⟨b, o, none⟩ ∧ ∀ q (hq : q < l.length), w.cell? ⟨b, o + q, none⟩ = some (vh q) ∧ Rd w [vh q] l[q] := by
 obtain ⟨b, o, u, rfl, _, _⟩ := bF rfl h 0 h0
 have key : ∀ q, ∃ v, ∀ hq : q < l.length, w.cell? ⟨b, o + q, none⟩ = some v ∧ Rd w [v] l[q] := by
  intro q
  by_cases hq : q < l.length
  · obtain ⟨b', o', v, e, hc, hr⟩ := bF rfl h q hq
    simp only [Option.some.injEq, Addr.mk.injEq, and_true] at e
    obtain ⟨rfl, rfl⟩ := e
    exact ⟨v, fun _ => ⟨hc, hr⟩⟩
  exact ⟨.bool false, fun h => absurd h hq⟩
 exact ⟨b, o, fun q => (key q).choose, rfl, fun q hq => (key q).choose_spec hq⟩
theorem I8 {w : World} {e : TypeId} {g n c : Nat} {xs : List Value} {l : List (List Int)} (h : w.ownsRow 0 e 1 (.slice (some ⟨g, 0, none⟩) n c) n xs) (hn : n = l.length) (hel : ∀ i (hi : i < l.length), ∃ v, xs[i]? = some v ∧ Rd w [v] l[i]) : Rd w [.slice (some ⟨g, 0, none⟩) n c] l := by
 subst hn
 rcases h.2 with ⟨e0, _⟩ | ⟨g', cap, cur, e1, _, hh, hc, hm, hs, ht⟩
 · cases e0
 simp only [Value.slice.injEq, Option.some.injEq, Addr.mk.injEq, and_true, true_and] at e1
 obtain ⟨rfl, rfl⟩ := e1
 refine ⟨_, _, rfl, hc, hm, fun i hi => ?_⟩
 obtain ⟨v, hv, hr⟩ := hel i hi
 refine ⟨g, 0, [v], rfl, hr, fun k hk => ?_⟩
 obtain rfl : k = 0 := by simpa using hk
 rw [aA hh]
 rw [← ht] at hv
 have : i < l.length * 1 := by omega
 simp only [List.getElem?_take, if_pos this] at hv
 simpa [sz] using hv
theorem yM {g : Nat} {w : World} {v : Value} {l : List Bool} (h : bY [g] w v l) (i : Nat) (hi : i < l.length) :
 ∃ o c, v = .slice (some ⟨g, o, none⟩) l.length c ∧ w.cell? ⟨g, o + i, none⟩ = some (.bool l[i]) ∧ w.frozen? ⟨g, o + i, none⟩ = false ∧
  ∀ x, bY [g] (w.setCell ⟨g, o + i, none⟩ (.bool x)) v (l.set i x) := by
 obtain ⟨g', o, c, cur, e, p, vs, hv, hg, hO, hc, Zb, hgn, hpn, hpp, hput⟩ := Ht h (by simp) i hi
 obtain rfl : g' = g := by simpa using Zb
 obtain ⟨rfl, rfl⟩ := hO
 have hci := hc 0 (by simp)
 simp at hci
 refine ⟨o, c, hv, by rw [aA hg]; exact hci, aO hg, fun x => ?_⟩
 refine hput _ [.bool x] x ?_ ⟨rfl, rfl⟩ (fun z hz _ hzg => ?_)
 · rw [aZ _ _ _ _ _ _ _ hg]; simp [kQ, sz]
 exact Below.heap_setCell _ _ _ _ hzg
theorem ahw (size : Int) (f : nI) (ts : List (List Int)) (ar : Nat) (v0 v1 vt : Value) (w : World) (hf : Rd w [v0, v1] f) (ht : Rd w [vt] ts) (hok : Ey size f = true) (hlen : (ts.length : Int) = f.1) (hv : ∀ t, t ∈ ts → t.length = ar ∧ Val size t) (har : ar ≤ 1000) :
 Calls prog 341 #[.int .i64 size, .agg #[v0, v1], vt] w fun e w' => ∃ v, e = .returned v ∧ aQ w.heap.size w' [v] (makeT size f ts ar) ∧ Below w.heap.size w w' := by
 have hs := (mO hok).1
 have hfa := (mO hok).2.1
 have hR : (makeT size f ts ar).length = ar := by simp [makeT]
 have HRP := qH (fun (p : Nat) (hp : p < (makeT size f ts ar).length) => show (makeT size f ts ar)[p] = valOf size f (ts.map (fun t => t.getD p 0)) by simp [makeT])
 have HMV := qH (zX hok hlen hv).2.2
 generalize makeT size f ts ar = R at *
 have vW := qH hok
 have HLEN := qH hlen
 have HV := qH hv
 have zf := au rfl hf
 obtain ⟨rfl, _⟩ := aG zf.1
 obtain ⟨af, cf, rfl, _⟩ := ah zf.2
 have HFT := qH zf.2
 obtain ⟨a, c, rfl, htr⟩ := ah ht
 have HT := qH htr
 have hl3 : ts.length ≤ 3 := by omega
 have hl0 : 0 < ts.length := by omega
 obtain ⟨b, o, u0, rfl, q0, hx0⟩ := bF rfl htr 0 hl0
 obtain ⟨a0, c0, rfl, _⟩ := ah hx0
 have hA0 := (hv _ (List.getElem_mem hl0)).1
 rw [hA0, Nat.add_zero] at q0
 clear hok hf ht htr zf hx0 hv hlen
 have dW := qC (St.start w).bel q0
 have hs1 := (St.start w).alloc #[.int .i64 f.1, .slice af f.2.length cf] 48 (n := w.heap.size) (by simp)
 clear dW
 obtain ⟨aF, aH⟩ := hs1.c2 0 0 0 1
 have dW := qC hs1.bel q0
 have Tf := qH hs1
 go_enter func341, ntmps341
 go_wp2_with (at_make; refine bV _ rfl _ _ 28 rfl eH (0 : Int) iL ar (by omega) rfl rfl ?_; intro w1 hown hb1 hs1)
 rw [show (w.alloc (.cells #[.int .i64 f.1, .slice af f.2.length cf] 48)).heap.size = w.heap.size + 1 by simp] at hown hb1 hs1
 have HO := qH hown
 have hst1 := Tf.out.step (w1 := w1) (by simpa using hb1)
 have HST := qH hst1
 have hsz1 : w.heap.size + 2 ≤ w1.heap.size := by omega
 clear hown hb1 hs1 hst1 aF aH dW Tf
 go_wp2_with fail
 go_loopw [19] (fun i wr => ∃ p : Nat, p ≤ ar ∧ i = .int .i64 p ∧ Hid (aP [w.heap.size + 1] w1 wr) ∧ Hid (bY [w.heap.size + 1] wr (.slice (some ⟨w.heap.size + 1, 0, none⟩) ar ar) (R.take p ++ List.replicate (ar - p) 0))) (fun i _ => ar - (intOf i).toNat)
 case atStart => exact ⟨0, Nat.zero_le _, rfl, aP.refl _ _, by simpa [Hid] using HO.out⟩
 clear HO
 obtain ⟨p, hp, rfl, ho, hw⟩ := hrel
 have hst2 := HST.out.sK (aP.but ho.out) (fun z hz => by simp at hz; omega) (fun x hx hz => by simp at hx hz; subst hx; simp at hz)
 obtain ⟨aF, aH⟩ := hst2.c2 0 0 0 1
 have dW := qC hst2.bel q0
 by_cases hlt : p < ar
 rotate_left
 · obtain rfl : p = ar := by omega
   have hnl : ¬ ((p : Int) < p) := by omega
   go_wp2_with fail
   go_ret
   refine ⟨_, rfl, ⟨[w.heap.size + 1], ⟨_, rfl, ?_⟩, by simp, by simp⟩, hst2.bel⟩
   have h5 := hw.out
   rw [List.take_of_length_le (by omega), Nat.sub_self, List.replicate_zero, List.append_nil] at h5
   exact h5
 have ahx : (p : Int) < ar := by omega
 have HAV := qH (show ∀ a, a ∈ ts.map (fun t => t.getD p 0) → 0 ≤ a ∧ a ≤ size - 1 from HMV.out p hlt)
 obtain ⟨K, hK, e1, e2, -, -, e5, e6⟩ := Dq (args := ts.map (fun t => t.getD p 0)) vW.out (by simpa using HLEN.out) HAV.out
 have HCK := qH e1
 have HVK := qH (show ∀ h : p < R.length, R[p] = f.2[K] from fun h => by rw [HRP.out p h, e2])
 obtain ⟨bf, of, ef, qf, hIf⟩ := aI (Rd.mono HFT.out hst2.bel) K hK
 have HIF := qH hIf
 have HP6 := qH e6
 clear e1 e2 e6 hIf
 subst ef
 go_wp2_with fail
 go_loop [9, 24] (fun q i => ∃ (k : Nat) (Q : Int), k ≤ ts.length ∧ i = .int .i64 k ∧ q = .int .i64 Q ∧ Hid (Q = dD size ((ts.map (fun t => t.getD p 0)).take k))) (fun _ i => ts.length - (intOf i).toNat)
 case atStart => exact ⟨0, 0, Nat.zero_le _, rfl, rfl, rfl⟩
 obtain ⟨k, Q, hk, rfl, rfl, hq⟩ := hrel
 by_cases Ou : k < ts.length
 · have hkl : (k : Int) < ts.length := by omega
   obtain ⟨b2, o2, u2, e3, q2, hx2⟩ := bF rfl (aS hst2.bel HT.out) k Ou
   simp only [Option.some.injEq, Addr.mk.injEq, and_true] at e3
   obtain ⟨rfl, rfl⟩ := e3
   have hTL := HV.out _ (List.getElem_mem Ou)
   obtain ⟨a2, c2, rfl, _⟩ := ah hx2
   obtain ⟨b4, o4, rfl, q4, _⟩ := aI hx2 p (by rw [hTL.1]; exact hlt)
   rw [hTL.1] at q2
   have hst := BX hs.1 HAV.out (by have := HP6.out; omega) (k := k) (by simpa using Ou)
   have HCT := qH (yK (size := size) (l := ts.map (fun t => t.getD p 0)) (k := k) (by simpa using Ou))
   have he : (ts.map (fun t => t.getD p 0))[k]'(by simpa using Ou) = ts[k][p]'(by rw [hTL.1]; exact hlt) := by simp [List.getD, hTL.1, hlt]
   rw [he, ← hq.out] at hst
   have HQ2 := qH (show Q * size + ts[k][p]'(by rw [hTL.1]; exact hlt) = dD size ((ts.map (fun t => t.getD p 0)).take (k + 1)) by rw [HCT.out, he, hq.out])
   clear HCT he hx2
   generalize ts[k][p]'(by rw [hTL.1]; exact hlt) = Y at *
   obtain ⟨g1, g2, g3, g4, g5⟩ := hst
   go_wp2_with fail
   go_round
   case rel => exact ⟨k + 1, Q * size + Y, by omega, by go_num, rfl, HQ2.out⟩
   simp [intOf]; omega
 obtain rfl : k = ts.length := by omega
 have hQK : Q = (K : Int) := by rw [hq.out, ← HCK.out, List.take_of_length_le (by simp)]
 subst hQK
 have hKl : (K : Int) < f.2.length := by omega
 obtain ⟨g9, o9, c9, Xi, aqR, tZ, hf9, Fj⟩ := lF hw.out p (by simp; omega)
 simp only [Value.slice.injEq, Option.some.injEq, Addr.mk.injEq] at Xi
 obtain ⟨⟨rfl, rfl, -⟩, -, rfl⟩ := Xi
 rw [Nat.zero_add] at tZ hf9
 generalize (R.take p ++ List.replicate (ar - p) 0).getD p 0 = Z9 at tZ
 have BZ := qH hR
 clear hR
 have xw := qH (Fj (f.2[K]) HIF.out)
 rw [Nat.zero_add] at xw
 have X7 := qH (aav (R := R) (d := (0 : Int)) (p := p) (by have := BZ.out; omega))
 have HO9 := qH (ho.out.setCell (p := ⟨w.heap.size + 1, p, none⟩) (by simp) (.int .i64 f.2[K]))
 clear Fj aqR
 go_wp2_with fail
 go_roundw
 case rel =>
  refine ⟨p + 1, by omega, by go_num, HO9.out, ?_⟩
  have h5 := xw.out
  have h6 := X7.out
  rw [HVK.out (by have := BZ.out; omega)] at h6
  rw [BZ.out] at h6
  rw [h6] at h5
  exact h5
 simp [intOf]; omega
theorem aaw (size : Int) (f : nI) (r : bH) (f0 f1 r0 r1 : Value) (w : World) (hf : Rd w [f0, f1] f) (hr : Rd w [r0, r1] r) (hok : Ey size f = true) (hrk : fJ size r = true) :
 Calls prog 325 #[.int .i64 size, .agg #[f0, f1], .agg #[r0, r1]] w fun e w' => ∃ (vl : Value) (ao : Option Addr) (n c : Nat), e = .returned (.tuple #[vl, .slice ao n c]) ∧ ao.isNone = kU size f r ∧ (ao = none → n = 0 ∧ c = 0) ∧ Below w.heap.size w w' := by
 obtain ⟨far, D7⟩ := f
 obtain ⟨Y2, ts⟩ := r
 have hs := (mO hok).1
 have hfa := (mO hok).2.1
 have hra := (gV hrk).2.1
 have hcnt := vV hrk
 have Bl := I5 hs hra
 simp only at hfa hra hcnt Bl
 have QF := qH (qP hrk)
 have vW := qH hok
 have Ti := qH hrk
 have HF := qH hf
 have zf := au rfl hf
 obtain ⟨rfl, _⟩ := aG zf.1
 obtain ⟨af, cf, rfl, _⟩ := ah zf.2
 have zr := au rfl hr
 obtain ⟨rfl, _⟩ := aG zr.1
 obtain ⟨a, c, rfl, htr⟩ := ah zr.2
 have hb0 := (aN htr).2
 unfold maxLen at hb0
 have Ov := qH htr
 clear hf hr zf zr hok hrk htr
 have hs2 := (St.start w).alloc #[.int .i64 far, .slice af D7.length cf] 48 (n := w.heap.size) (by simp)
 have hs3 := hs2.alloc #[.int .i64 Y2, .slice a ts.length c] 118 (n := w.heap.size + 1) (by simp)
 obtain ⟨aF, aH, aJ, aK⟩ := hs3.c4 0 0 0 1 1 0 1 1
 obtain ⟨AR, rfl⟩ : ∃ x : Nat, Y2 = x := ⟨Y2.toNat, by omega⟩
 obtain ⟨FA, rfl⟩ : ∃ x : Nat, far = x := ⟨far.toNat, by omega⟩
 simp only [Int.toNat_natCast] at hcnt Bl
 obtain ⟨PN, hPN⟩ : ∃ x : Nat, size ^ AR = (x : Int) := ⟨(size ^ AR).toNat, by omega⟩
 have Ox := qH hPN
 rw [hPN] at hcnt Bl
 clear hPN
 have Tf := qH hs3
 go_enter func325, ntmps325
 go_wp2_with fail
 refine (Ar size AR _ (by omega) (by omega) (by omega) (by rw [Int.toNat_natCast, Ox.out]; omega)).mono ?_
 rintro e w4 ⟨rfl, rfl, rfl⟩
 rw [Int.toNat_natCast, Ox.out]
 by_cases hfull : ts.length = PN
 · have HK := qH (Uw vW.out Ti.out (show ((ts.length : Nat) : Int) = size ^ ((AR : Int)).toNat by rw [Int.toNat_natCast, Ox.out, hfull]))
   have hfb : ((ts.length : Int) == (PN : Int)) = true := by simp [hfull]
   clear hfull
   go_wp2_with fail
   refine bodyPost_ret (v := .tuple #[.slice none 0 0, .slice none 0 0]) (by simp [results, results325, go_sem]) rfl ⟨_, none, 0, 0, rfl, by rw [HK.out]; rfl, fun _ => ⟨rfl, rfl⟩, hs3.bel⟩
 have hfb : ((ts.length : Int) == (PN : Int)) = false := by simp; omega
 clear hfull
 go_wp2_with fail
 refine (Ar size AR _ (by omega) (by omega) (by omega) (by rw [Int.toNat_natCast, Ox.out]; omega)).mono ?_
 rintro e w5 ⟨rfl, rfl, rfl⟩
 rw [Int.toNat_natCast, Ox.out]
 go_wp2_with (at_make; refine bV _ rfl _ _ 334 rfl Wu false KY PN (by omega) rfl rfl ?_; intro w1 hown hb1 hs1; have hst1 := hs3.step hb1; have p00 := hst1.c 0 0; have p01 := hst1.c 0 1; have p10 := hst1.c 1 0; have p11 := hst1.c 1 1)
 rw [show ((w.alloc (.cells #[.int .i64 FA, .slice af D7.length cf] 48)).alloc (.cells #[.int .i64 AR, .slice a ts.length c] 118)).heap.size = w.heap.size + 1 + 1 by simp] at hown hs1
 have HO := qH hown
 have HST := qH hst1
 have hsz1 : w.heap.size + 1 + 1 + 1 ≤ w1.heap.size := by omega
 clear hown hb1 hs1 hst1 aF aH aJ aK Tf p00 p01 p10 p11
 go_wp2_with fail
 go_loopw [34] (fun i wl => ∃ k : Nat, k ≤ ts.length ∧ i = .int .i64 k ∧ Hid (aP [w.heap.size + 1 + 1] w1 wl) ∧ Hid (bY [w.heap.size + 1 + 1] wl (.slice (some ⟨w.heap.size + 1 + 1, 0, none⟩) PN PN) (lq size PN ts k))) (fun i _ => ts.length - (intOf i).toNat)
 case atStart => exact ⟨0, Nat.zero_le _, rfl, aP.refl _ _, HO.out⟩
 clear HO
 obtain ⟨k, hk, rfl, ho, hw⟩ := hrel
 have hst2 := HST.out.sK (aP.but ho.out) (fun z hz => by simp at hz; omega) (fun x hx hz => by simp only [List.mem_singleton] at hz; simp at hx; rcases hx with rfl | rfl <;> (simp only at hz; omega))
 have ahn : w1.heap.size ≤ wr.heap.size := by rw [ho.out.size]; exact Nat.le_refl _
 have HSL := qH (um size PN ts k)
 obtain ⟨aF, aH, aJ, aK⟩ := hst2.c4 0 0 0 1 1 0 1 1
 by_cases hlt : k < ts.length
 · have ahx : (k : Int) < ts.length := by omega
   obtain ⟨b, o, u0, rfl, q0, hx⟩ := bF rfl (aS hst2.bel Ov.out) k hlt
   have HX := qH hx
   obtain ⟨a0, c0, rfl, _⟩ := ah hx
   have hvv := QF.out _ (List.getElem_mem hlt)
   have hcb := jl hs.1 ts[k] hvv.2
   rw [hvv.1, Int.toNat_natCast, Ox.out] at hcb
   have HVV := qH (show ∀ x, x ∈ ts[k] → 0 ≤ x ∧ x ≤ size - 1 from hvv.2)
   have HLN := qH hvv.1
   obtain ⟨C, hC⟩ : ∃ C : Nat, dD size ts[k] = C := ⟨(dD size ts[k]).toNat, by omega⟩
   have HC := qH hC
   rw [hC] at hcb
   have HSS := qH (show (lq size PN ts k).set C true = lq size PN ts (k + 1) by
    rw [lq, show ts.getD k [] = ts[k] by simp [List.getD, hlt], HC.out, Int.toNat_natCast])
   clear hx hvv hC
   obtain ⟨o9, c9, Xi, tZ, hf9, Fj⟩ := yM hw.out C (by rw [HSL.out]; omega)
   simp only [Value.slice.injEq, Option.some.injEq, Addr.mk.injEq] at Xi
   obtain ⟨⟨-, rfl, -⟩, -, rfl⟩ := Xi
   rw [Nat.zero_add] at tZ hf9
   have xw := qH (Fj true)
   rw [Nat.zero_add, HSS.out] at xw
   have HO9 := qH (ho.out.setCell (p := ⟨w.heap.size + 1 + 1, C, none⟩) (by simp) (.bool true))
   have hCl : (C : Int) < PN := by omega
   generalize (lq size PN ts k)[C]'(by rw [HSL.out]; omega) = B9 at tZ
   clear Fj
   go_wp2_with fail
   refine (L8 size ts[k] _ _ HX.out hs.1 HVV.out (by rw [HLN.out, Int.toNat_natCast, Ox.out]; omega)).mono ?_
   rintro e w3 ⟨rfl, rfl⟩
   rw [HC.out]
   go_wp2_with fail
   go_roundw
   case rel => exact ⟨k + 1, by omega, by go_num, HO9.out, xw.out⟩
   simp [intOf]; omega
 obtain rfl : k = ts.length := by omega
 have hnl : ¬ ((ts.length : Int) < ts.length) := by omega
 have aqS : ts.length ^ FA ≤ 256 ^ 3 := Nat.le_trans (Nat.pow_le_pow_left hcnt.2 FA) (Nat.pow_le_pow_right (by omega) (by omega))
 have aax := qH (show ((ts.length : Int)) ^ FA = ((ts.length ^ FA : Nat) : Int) by simp)
 have HKP := qH (show kU size ((FA : Int), D7) ((AR : Int), ts) = (List.range (ts.length ^ FA)).all (fun i => sD size ((FA : Int), D7) ((AR : Int), ts) i) by unfold kU; simp)
 have QG := qH (fun (t : List Int) (hl : t.length = AR) (ht : Val size t) => Mc hs.1 (ar := AR) Ox.out.symm (x := ts) (fun t h => by have := QF.out t h; rw [Int.toNat_natCast] at this; exact this) hl ht)
 have HLS := qH (um size PN ts ts.length)
 have ahE : 0 < FA := by omega
 have HZ := qH (show ts.length = 0 → ts.length ^ FA = 0 from fun h => by rw [h]; exact Nat.zero_pow ahE)
 generalize ts.length ^ FA = TOT at *
 have HOW := qH hw.out
 go_wp2_with fail
 refine (Ar ts.length FA _ (by omega) (by omega) (by omega) (by rw [Int.toNat_natCast, aax.out]; omega)).mono ?_
 rintro e w6 ⟨rfl, rfl, rfl⟩
 rw [Int.toNat_natCast, aax.out]
 obtain ⟨wA, rfl⟩ : ∃ x, x = wr := ⟨_, rfl⟩
 go_wp2_with fail
 go_loopw [48] (fun i wl => ∃ k : Nat, k ≤ TOT ∧ i = .int .i64 k ∧ Hid (Below wA.heap.size wA wl) ∧ Hid (∀ j, j < k → sD size ((FA : Int), D7) ((AR : Int), ts) j = true)) (fun i _ => TOT - (intOf i).toNat)
 case atStart => exact ⟨0, Nat.zero_le _, rfl, Below.refl _ _, fun j hj => absurd hj (Nat.not_lt_zero _)⟩
 obtain ⟨k, hk2, rfl, hbl, hr⟩ := hrel
 have hst3 := hst2.step hbl.out
 have HOB := qH (bK HOW.out hbl.out)
 have aqU := hbl.out.size
 obtain ⟨aF, aH, aJ, aK⟩ := hst3.c4 0 0 0 1 1 0 1 1
 by_cases Ou : k < TOT
 rotate_left
 · obtain rfl : k = TOT := by omega
   have hnk : ¬ ((k : Int) < k) := by omega
   have HQ := qH (show kU size ((FA : Int), D7) ((AR : Int), ts) = true by
    rw [HKP.out, List.all_eq_true]
    exact fun j hj => hr.out j (List.mem_range.1 hj))
   go_wp2_with fail
   refine bodyPost_ret (v := .tuple #[.slice none 0 0, .slice none 0 0]) (by simp [results, results325, go_sem]) rfl ⟨_, none, 0, 0, rfl, by rw [HQ.out]; rfl, fun _ => ⟨rfl, rfl⟩, hst3.bel⟩
 have QH : (k : Int) < TOT := by omega
 have ahF : 0 < ts.length := by
  rcases Nat.eq_zero_or_pos ts.length with h | h
  · have := HZ.out h; omega
  exact h
 have alX := hst3.step (aB wr (.cells #[] 28))
 obtain ⟨e00, e01, e10, e11⟩ := alX.c4 0 0 0 1 1 0 1 1
 go_wp2_with fail
 refine (Di ts.length FA k _ (by omega) (by omega) (by omega) (by omega) (by omega) (by omega)).mono ?_
 rintro e w3 ⟨vv, rfl, fr, hb3⟩
 rw [Int.toNat_natCast] at fr
 obtain ⟨av, cv, rfl, _⟩ := ah fr.rd
 have hAL := iH ts.length FA k
 have HAM := qH (kK ts.length (by omega) FA k)
 have HKA := qH (show sD size ((FA : Int), D7) ((AR : Int), ts) k = jH ts (makeT size ((FA : Int), D7) (kC ts (eu ts.length FA k)) AR) by unfold sD; simp)
 generalize eu ts.length FA k = AT at *
 rw [hAL] at fr
 have AO := qH hAL
 have hbb := (aB wr (.cells #[] 28)).trans (hb3.mono (by simp))
 have hz3 : wr.heap.size + 1 ≤ w3.heap.size := by have := hb3.size; simpa using this
 have HB3 := qH hbb
 have oZ := qH (ownsRow_below (rV (size := 1) wr 28) hb3)
 have HAI := qH (show Ip (fun z => wr.heap.size + 1 ≤ z ∧ z < w3.heap.size) w3 [.slice av FA cv] AT from fr.ip.wk (fun z hz => by simpa using hz))
 have ad5 := qH (bK HOB.out hbb)
 have aaz := hst3.step hbb
 obtain ⟨bT, oT, vh, rfl, HVH⟩ := Xh Ov.out ahF
 have HVH := qH HVH
 obtain ⟨wo, rfl⟩ : ∃ x, x = wr := ⟨_, rfl⟩
 rw [hAL]
 clear fr hb3 hbb hAL alX e00 e01 e10 e11 aF aH aJ aK
 obtain ⟨aF, aH, aJ, aK⟩ := aaz.c4 0 0 0 1 1 0 1 1
 go_wp2_with fail
 go_loopw [13, 58] (fun ll i wl => ∃ (q g' c' : Nat), q ≤ FA ∧ i = .int .i64 q ∧ ll = .slice (some ⟨g', 0, none⟩) q c' ∧ Hid (g' = wo.heap.size ∨ w3.heap.size ≤ g') ∧ Hid (nN (fun z => z = wo.heap.size ∨ w3.heap.size ≤ z) w3 wl) ∧ Hid (wl.ownsRow 0 28 1 (.slice (some ⟨g', 0, none⟩) q c') q ((AT.take q).map (fun x => vh x.toNat)))) (fun _ i _ => FA - (intOf i).toNat)
 case atStart => exact ⟨0, wo.heap.size, 0, Nat.zero_le _, rfl, rfl, .inl rfl, nN.refl _ _, by simpa [Hid] using oZ.out⟩
 clear oZ
 obtain ⟨q, g', c', hq, rfl, rfl, hg', hbp, hrow⟩ := hrel
 have hst5 := aaz.lU hbp.out (fun z hz => by omega) (fun x hx hz => by simp at hx; rcases hx with rfl | rfl <;> (simp only at hz; omega))
 have aqV := qH (Ip.lU HAI.out hbp.out (fun z hz hz2 => by omega))
 have aqW := hbp.out.size
 obtain ⟨aF, aH, aJ, aK⟩ := hst5.c4 0 0 0 1 1 0 1 1
 by_cases zh : q < FA
 · have hqI : (q : Int) < FA := by omega
   obtain ⟨ba, oa, rfl, qa, _⟩ := aI aqV.out.rd q (by rw [AO.out]; exact zh)
   have hA := HAM.out _ (List.getElem_mem (show q < AT.length by rw [AO.out]; exact zh))
   obtain ⟨n, hn⟩ : ∃ n : Nat, AT[q]'(by rw [AO.out]; exact zh) = (n : Int) := ⟨(AT[q]'(by rw [AO.out]; exact zh)).toNat, by omega⟩
   rw [hn] at hA qa
   have hnl : n < ts.length := by omega
   have hnI : (n : Int) < ts.length := by omega
   obtain ⟨hcn, hrn⟩ := HVH.out n hnl
   have Yu := qC hst5.bel hcn
   obtain ⟨ax, cx, hvx, _⟩ := ah hrn
   rw [hvx] at Yu
   have HXS := qH (show (AT.take (q + 1)).map (fun x => vh x.toNat) = (AT.take q).map (fun x => vh x.toNat) ++ [.slice ax ts[n].length cx] by
    rw [List.take_succ_eq_append_getElem (show q < AT.length by rw [AO.out]; exact zh), List.map_append, hn]
    simp [hvx])
   clear hcn hrn hvx hn
   go_wp2_with (at_builtin; refine vT _ rfl _ _ _ rfl oq rfl (ownsRow_below hrow.out (aB wr (.cells #[.slice ax ts[n].length cx] 28))) (v := .slice (some ⟨g', 0, none⟩) q c') (vs := [.slice ax ts[n].length cx]) rfl (fun u hu => by rw [List.mem_singleton] at hu; subst hu; rfl) ⟨wr.heap.size, 0, none⟩ 1 rfl (qB (aA (heap_alloc_new _ _))) (by omega) ?_; intro g9 c9 w9 hg9 aaA zA aqX)
   rw [← HXS.out] at aaA
   have BZ := qH aaA
   have Ux := qH (show g9 = wo.heap.size ∨ w3.heap.size ≤ g9 by
    rcases hg9 with h | h
    · simp only [Value.ownBlock, Option.some.injEq] at h
      subst h; exact hg'.out
    · simp at h; omega)
   have QI := qH ((hbp.out.trans (nN.of (A := fun _ => False) (aB wr (.cells #[.slice ax ts[n].length cx] 28))) (fun z h => h.elim)).trans (zA.lU (A := fun z => z = g') (fun z hz => by simpa [Value.ownBlock] using hz)) (fun z hz => .inl (by subst hz; exact hg'.out)))
   clear hg9 aaA zA aqX
   go_wp2_with fail
   go_roundw
   case rel => exact ⟨q + 1, g9, c9, by omega, by go_num, rfl, Ux.out, QI.out, BZ.out⟩
   simp [intOf]; omega
 obtain rfl : q = FA := by omega
 have hnq : ¬ ((q : Int) < q) := by omega
 have HPM := qH (I7 (x := ts) (l := AT) HAM.out)
 have HL := qH (show Rd wr [.slice (some ⟨g', 0, none⟩) q c'] (kC ts AT) from I8 hrow.out (by simp [kC, AO.out]) (fun i hi => by
  have hi2 : i < AT.length := by simpa [kC] using hi
  have hA := HAM.out _ (List.getElem_mem hi2)
  have hnl : (AT[i]).toNat < ts.length := by omega
  refine ⟨vh (AT[i]).toNat, ?_, ?_⟩
  · rw [List.take_of_length_le (by rw [AO.out]; exact Nat.le_refl _)]; simp [hi2]
  · rw [show (kC ts AT)[i] = ts[(AT[i]).toNat] by simp [kC, List.getD, hnl]]
    exact Rd.mono (HVH.out _ hnl).2 hst5.bel))
 have aaB := qH (jS (Own.lU (vs := [Value.slice (some ⟨w.heap.size + 1 + 1, 0, none⟩) PN PN]) ⟨_, rfl, ad5.out⟩ hbp.out (fun z hz hz2 => by rw [List.mem_singleton] at hz; omega)))
 have HTV := qH (show ∀ t, t ∈ kC ts AT → t.length = AR ∧ Val size t from fun t ht => by have := QF.out t (HPM.out t ht); rwa [Int.toNat_natCast] at this)
 have HPL := qH (show ((kC ts AT).length : Int) = ((q : Int), D7).1 by simp [kC, AO.out])
 go_wp2_with fail
 refine (ahw size ((q : Int), D7) (kC ts AT) AR _ _ _ _ (Rd.mono HF.out hst5.bel) HL.out vW.out HPL.out HTV.out (by omega)).mono ?_
 rintro e w7 ⟨vo, rfl, fro, AY⟩
 have Xj : wr.heap.size ≤ w7.heap.size := hZ AY
 have hs8 := hst5.step AY
 have ahK := qH (bK aaB.out AY)
 clear aaB
 clear aF aH aJ aK
 obtain ⟨aF, aH, aJ, aK⟩ := hs8.c4 0 0 0 1 1 0 1 1
 have HMK := qH (zX vW.out HPL.out HTV.out)
 obtain ⟨ao, co, rfl, hmr⟩ := ah fro.rd
 have HFO := qH fro.rd
 clear fro
 generalize makeT size ((q : Int), D7) (kC ts AT) AR = MT at *
 have hML := HMK.out.1
 obtain ⟨bo, oo, rfl, -, -⟩ := aI HFO.out 0 (by rw [hML]; omega)
 have hcb := jl hs.1 MT HMK.out.2.1
 rw [hML, Ox.out] at hcb
 obtain ⟨C, hC⟩ : ∃ C : Nat, dD size MT = C := ⟨(dD size MT).toNat, by omega⟩
 have HC := qH hC
 rw [hC] at hcb
 have HML := qH hML
 have hCl : C < (lq size PN ts ts.length).length := by rw [HLS.out]; omega
 obtain ⟨o9, c9, Xi, tZ, -, -⟩ := yM ahK.out C hCl
 simp only [Value.slice.injEq, Option.some.injEq, Addr.mk.injEq] at Xi
 obtain ⟨⟨-, rfl, -⟩, -, -⟩ := Xi
 rw [Nat.zero_add] at tZ
 have HHT := qH (show (lq size PN ts ts.length)[C] = jH ts MT by
  have h := QG.out MT HML.out HMK.out.2.1
  rw [HC.out, Int.toNat_natCast] at h
  rw [← h]; simp [List.getD, hCl])
 rw [HHT.out] at tZ
 have hCI : (C : Int) < PN := by omega
 clear hC hML hmr
 go_wp2_with fail
 refine (L8 size MT _ _ HFO.out hs.1 HMK.out.2.1 (by rw [HML.out, Ox.out]; omega)).mono ?_
 rintro e w7 ⟨rfl, rfl⟩
 rw [HC.out]
 cases hh : jH ts MT
 · rw [hh] at tZ
   have HQ := qH (show kU size ((q : Int), D7) ((AR : Int), ts) = false by
    rw [HKP.out, List.all_eq_false]
    exact ⟨k, List.mem_range.2 Ou, by rw [HKA.out, hh]; decide⟩)
   clear hh
   go_wp2_with fail
   refine bodyPost_ret (v := .tuple #[.slice (some ⟨g', 0, none⟩) q c', .slice (some ⟨bo, oo, none⟩) MT.length co]) (by simp [results, results325, go_sem]) rfl ⟨_, some ⟨bo, oo, none⟩, MT.length, co, rfl, by rw [HQ.out]; rfl, fun h => by (cases h), hs8.bel⟩
 rw [hh] at tZ
 have HQ := qH (show sD size ((q : Int), D7) ((AR : Int), ts) k = true by rw [HKA.out, hh])
 have qh := qH ((hbl.out.trans (HB3.out.mono hbl.out.size)).trans ((hbp.out.below (B := wo.heap.size) (fun z hz => by omega) (by omega)).mono hbl.out.size) |>.trans (AY.mono (by omega)))
 clear hh
 go_wp2_with fail
 go_roundw
 case rel =>
  refine ⟨k + 1, by omega, by go_num, qh.out, fun j hj => ?_⟩
  rcases Nat.lt_or_ge j k with h | h
  · exact hr.out j h
  obtain rfl : j = k := by omega
  exact HQ.out
 simp [intOf]; omega
theorem ad8 (size : Int) (f : nI) (r : bH) (f0 f1 r0 r1 : Value) (w : World) (hf : Rd w [f0, f1] f) (hr : Rd w [r0, r1] r) (hok : Ey size f = true) (hrk : fJ size r = true) :
 Calls prog 270 #[.int .i64 size, .agg #[f0, f1], .agg #[r0, r1]] w fun e w' => e = .returned (.bool (kU size f r)) ∧ Below w.heap.size w w' := by
 obtain ⟨far, D7⟩ := f
 obtain ⟨Y2, ts⟩ := r
 have HF := qH hf
 have HR := qH hr
 have zf := au rfl hf
 obtain ⟨rfl, _⟩ := aG zf.1
 obtain ⟨af, cf, rfl, _⟩ := ah zf.2
 have zr := au rfl hr
 obtain ⟨rfl, _⟩ := aG zr.1
 obtain ⟨a, c, rfl, _⟩ := ah zr.2
 clear hf hr zf zr
 have hs10 := (St.start w).alloc #[.int .i64 far, .slice af D7.length cf] 48 (n := w.heap.size) (by simp)
 have hs11 := hs10.alloc #[.int .i64 Y2, .slice a ts.length c] 118 (n := w.heap.size + 1) (by simp)
 obtain ⟨aF, aH, aJ, aK⟩ := hs11.c4 0 0 0 1 1 0 1 1
 go_enter func270, ntmps270
 go_wp2_with fail
 refine (aaw size (far, D7) (Y2, ts) _ _ _ _ _ (Rd.mono HF.out hs11.bel) (Rd.mono HR.out hs11.bel) hok hrk).mono ?_
 rintro e w1 ⟨vl, ao, n, k, rfl, alZ, hnil, hb1⟩
 have HI := qH alZ
 have HB := qH (hs11.bel.trans (hb1.mono hs11.bel.size))
 clear alZ hb1
 cases ao with
 | none =>
  obtain ⟨rfl, rfl⟩ := hnil rfl
  have hnl : ∀ W, (binOp .eql 28 (.slice none 0 0) (.slice none 0 0)).run prog W = .ok (.bool true) W := fun W => Lib.run_eql_slice_nil_nil W _ _ Tryz.underlying28
  go_wp2_with fail
  go_ret
  exact ⟨ak (by rw [← HI.out]; rfl), HB.out⟩
 | some ad =>
  have hnl : ∀ W, (binOp .eql 28 (.slice (some ad) n k) (.slice none 0 0)).run prog W = .ok (.bool false) W := fun W => Lib.run_eql_slice_some_nil W _ _ _ Tryz.underlying28
  go_wp2_with fail
  go_ret
  exact ⟨ak (by rw [← HI.out]; rfl), HB.out⟩
theorem Uy (size ar : Int) (PN : Nat) (w : World) (hs : 1 ≤ size) (ha : 0 ≤ ar) (ha2 : ar ≤ 1000) (hp : size ^ ar.toNat = (PN : Int)) (hp2 : PN ≤ 1000000) :
 Calls prog 343 #[.int .i64 size, .int .i64 ar] w fun e w' => e = .returned (.pointer (some ⟨w.heap.size + 1, 0, none⟩)) ∧ w'.heap[w.heap.size + 1]? = some (.cells #[.int .i64 size, .int .i64 ar, .slice (some ⟨w.heap.size, 0, none⟩) PN PN] 336 (0, 0)) ∧
  bY [w.heap.size] w' (.slice (some ⟨w.heap.size, 0, none⟩) PN PN) (List.replicate PN false) ∧ w'.heap.size = w.heap.size + 2 ∧ Below w.heap.size w w' := by
 have HP := qH hp
 clear hp
 go_enter func343, ntmps343
 go_wp2_with fail
 refine (BI size ar _ (by omega) ha (by omega) (by rw [HP.out]; omega)).mono ?_
 rintro e w1 ⟨rfl, rfl⟩
 rw [HP.out]
 go_wp2_with (at_make; refine bV _ rfl _ _ 334 rfl Wu false KY PN (by omega) rfl rfl ?_; intro w1 hown hb1 hs1)
 go_ret
 refine ⟨rfl, ?_, bK hown (aB _ _), by simp; omega, hb1.trans ((aB _ _).mono (by omega))⟩
 exact iV w1 _ hs1
theorem Uz (size : Int) (r : bH) (pb po : Nat) (r0 r1 : Value) (PN : Nat) (w : World) (hr : Rd w [r0, r1] r) (c0 : w.cell? ⟨pb, po, none⟩ = some r0) (c1 : w.cell? ⟨pb, po + 1, none⟩ = some r1) (hrk : fJ size r = true) (hp : size ^ r.1.toNat = (PN : Int)) :
 Calls prog 334 #[.int .i64 size, .pointer (some ⟨pb, po, none⟩)] w fun e w' => e = .returned (.pointer (some ⟨w.heap.size + 1, 0, none⟩)) ∧ w'.heap[w.heap.size + 1]? = some (.cells #[.int .i64 size, .int .i64 r.1, .slice (some ⟨w.heap.size, 0, none⟩) PN PN] 336 (0, 0)) ∧
  bY [w.heap.size] w' (.slice (some ⟨w.heap.size, 0, none⟩) PN PN) (lq size PN r.2 r.2.length) ∧ w.heap.size + 2 ≤ w'.heap.size ∧ Below w.heap.size w w' := by
 obtain ⟨Y2, ts⟩ := r
 have hs := (gV hrk).1
 have hra := (gV hrk).2.1
 have Bl := I5 hs hra
 simp only at hra Bl hp
 rw [hp] at Bl
 have Ox := qH hp
 have QF := qH (qP hrk)
 have zr := au rfl hr
 obtain ⟨rfl, _⟩ := aG zr.1
 obtain ⟨a, c, rfl, htr⟩ := ah zr.2
 have hb0 := (aN htr).2
 unfold maxLen at hb0
 have Ov := qH htr
 clear hr zr hrk htr hp
 obtain ⟨AR, rfl⟩ : ∃ x : Nat, Y2 = x := ⟨Y2.toNat, by omega⟩
 have xq := qC (St.start w).bel c0
 clear xq
 obtain ⟨xq, J3⟩ := iQ (St.start w).bel c0 c1
 go_enter func334, ntmps334
 go_wp2_with fail
 refine (Uy size AR PN _ hs.1 (by omega) (by omega) Ox.out (by omega)).mono ?_
 rintro e w1 ⟨rfl, hh1, hown, hsz, hb1⟩
 have HH := qH hh1
 have HO := qH hown
 have hsz1 : w.heap.size + 2 ≤ w1.heap.size := by omega
 have HB1 := qH hb1
 clear hh1 hown hsz hb1
 go_wp2_with fail
 go_loopw [6] (fun i wl => ∃ k : Nat, k ≤ ts.length ∧ i = .int .i64 k ∧ Hid (But [w.heap.size] w1 wl) ∧ Hid (bY [w.heap.size] wl (.slice (some ⟨w.heap.size, 0, none⟩) PN PN) (lq size PN ts k))) (fun i _ => ts.length - (intOf i).toNat)
 case atStart => exact ⟨0, Nat.zero_le _, rfl, But.refl _ _, HO.out⟩
 clear HO
 obtain ⟨k, hk, rfl, ho, hw⟩ := hrel
 have ahn := ho.out.size
 have HHR := qH (show wr.heap[w.heap.size + 1]? = _ from (ho.out.block _ (by omega) (by simp)).trans HH.out)
 have hsr := (St.start w).qA (HB1.out.trans (ho.out.below (B := w.heap.size) (by simp) (by omega)))
 have s2 : wr.cell? ⟨w.heap.size + 1, 2, none⟩ = some (.slice (some ⟨w.heap.size, 0, none⟩) PN PN) := by rw [aA HHR.out]; rfl
 have HSL := qH (um size PN ts k)
 obtain ⟨xq, J3⟩ := iQ hsr.bel c0 c1
 have HBW := qH (Below.refl wr.heap.size wr)
 have HOW := hw
 by_cases hlt : k < ts.length
 rotate_left
 · obtain rfl : k = ts.length := by omega
   have hnl : ¬ ((ts.length : Int) < ts.length) := by omega
   go_wp2_with fail
   go_ret
   exact ⟨rfl, HHR.out, hw.out, by omega, hsr.bel⟩
 have ahx : (k : Int) < ts.length := by omega
 obtain ⟨b, o, u0, rfl, q0, hx⟩ := bF rfl Ov.out k hlt
 have HX := qH hx
 obtain ⟨a0, cc0, rfl, _⟩ := ah hx
 have hvv := QF.out _ (List.getElem_mem hlt)
 have hcb := jl hs.1 ts[k] hvv.2
 rw [hvv.1] at hcb
 simp only [Int.toNat_natCast] at hcb
 have al1 := qH (show size ^ AR = (PN : Int) from by simpa using Ox.out)
 rw [al1.out] at hcb
 have HVV := qH (show ∀ x, x ∈ ts[k] → 0 ≤ x ∧ x ≤ size - 1 from hvv.2)
 have HLN := qH (show ts[k].length = AR by have := hvv.1; simpa using this)
 obtain ⟨C, hC⟩ : ∃ C : Nat, dD size ts[k] = C := ⟨(dD size ts[k]).toNat, by omega⟩
 have HC := qH hC
 rw [hC] at hcb
 have HSS := qH (show (lq size PN ts k).set C true = lq size PN ts (k + 1) by
  rw [lq, show ts.getD k [] = ts[k] by simp [List.getD, hlt], HC.out, Int.toNat_natCast])
 have hCl : (C : Int) < PN := by omega
 have ejw : IntKind.i64.wrap (C : Int) = (C : Int) := i64_in _ (by omega)
 clear hx hvv hC
 clear xq J3
 obtain ⟨xq, J3, dW⟩ := fQ hsr.bel c0 c1 q0
 go_upto_region 5 with fail
 refine iT (fun w' => cI w' pb po AR ∧ cV w' pb (po + 1) (.slice (some ⟨b, o, none⟩) ts.length c) ∧ cV w' (w.heap.size + 1) 2 (.slice (some ⟨w.heap.size, 0, none⟩) PN PN) ∧ cV w' b (o + k) (.slice a0 ts[k].length cc0)) (.z [0,1,2,3,4,5,6,7,8,9,10,11] (.hard 12 (.float 13 (.last 14 .nil)))) ?_ ?_
 · exact ⟨qC (hsr.drew).bel c0, qC (hsr.drew).bel c1, qC (belowD _) s2, qC (hsr.drew).bel q0⟩
 have kT := hsr.drew
 have al2 := qC (belowD _) s2
 clear s2
 have ahL := qH (HBW.out.trans (((belowD _)).mono HBW.out.size))
 clear HBW
 have ahM := qH (bK HOW.out (belowD _))
 clear HOW
 clear xq J3 dW
 have GI : wr.heap.size ≤ (wr.drew).heap.size := by simp
 generalize wr.drew = I9 at *
 refine aV ?_
 refine gX fun K hK => ?_
 go_wp2_with (go_at_call 333; refine (AA size ts[k] _ _ (Rd.mono HX.out kT.bel) hs.1 HVV.out (by rw [HLN.out, al1.out]; omega)).mono ?_; rintro e PU ⟨rfl, rfl, rfl⟩)
 rw [HC.out]
 refine ⟨⟨qC kT.bel c0, qC kT.bel c1, al2, qC kT.bel q0⟩, ?_⟩
 refine aV ?_
 refine JY fun K hK => ?_
 obtain ⟨xq, J3, dW⟩ := fQ kT.bel c0 c1 q0
 obtain ⟨o9, c9, Xi, tZ, hf9, Fj⟩ := yM ahM.out C (by rw [HSL.out]; omega)
 simp only [Value.slice.injEq, Option.some.injEq, Addr.mk.injEq] at Xi
 obtain ⟨⟨-, rfl, -⟩, -, rfl⟩ := Xi
 rw [Nat.zero_add] at tZ hf9
 have xw := qH (Fj true)
 rw [Nat.zero_add, HSS.out] at xw
 have HO9 := qH ((ho.out.trans (Hq ahL.out)).trans (aP.but ((aP.refl [w.heap.size] I9).setCell (p := ⟨w.heap.size, C, none⟩) (by simp) (.bool true))))
 generalize (lq size PN ts k)[C]'(by rw [HSL.out]; omega) = B9 at tZ
 clear Fj
 go_wp2_with fail
 refine iF ?_
 go_wp2_with fail
 go_roundw
 case rel => exact ⟨k + 1, by omega, by go_num, HO9.out, xw.out⟩
 simp [intOf]; omega
theorem Yv (size : Int) (f : nI) (ts : List (List Int)) (ar : Nat) (pb po : Nat) (v0 v1 vt : Value) (w : World) (hf : Rd w [v0, v1] f) (hc1 : w.cell? ⟨pb, po + 1, none⟩ = some v1) (ht : Rd w [vt] ts) (hok : Ey size f = true) (hlen : (ts.length : Int) = f.1) (hv : ∀ t, t ∈ ts → t.length = ar ∧ Val size t) (har : ar ≤ 1000) :
 Calls prog 335 #[.int .i64 size, .pointer (some ⟨pb, po, none⟩), vt] w fun e w' => ∃ v, e = .returned v ∧ Acc w.heap.size w'.heap.size 2 w' v (makeT size f ts ar) ∧ Below w.heap.size w w' := by
 have hs := (mO hok).1
 have hfa := (mO hok).2.1
 have hR : (makeT size f ts ar).length = ar := by simp [makeT]
 have HRP := qH (fun (p : Nat) (hp : p < (makeT size f ts ar).length) => show (makeT size f ts ar)[p] = valOf size f (ts.map (fun t => t.getD p 0)) by simp [makeT])
 have HMR := qH (zX hok hlen hv).2.2
 generalize makeT size f ts ar = R at *
 have vW := qH hok
 have HF := qH hf
 have HC1 := qH hc1
 have HLEN := qH hlen
 have HV := qH hv
 obtain ⟨a, c, rfl, htr⟩ := ah ht
 have HT := qH htr
 have hl3 : ts.length ≤ 3 := by omega
 have hl0 : 0 < ts.length := by omega
 obtain ⟨b, o, u0, rfl, q0, hx0⟩ := bF rfl htr 0 hl0
 obtain ⟨a0, c0, rfl, _⟩ := ah hx0
 have hA0 := (hv _ (List.getElem_mem hl0)).1
 rw [hA0, Nat.add_zero] at q0
 have HR := qH hR
 have HM := qH (mJ (α := Int) w 2)
 clear hok hf ht htr hx0 hv hlen hc1 hR
 have dW := qC (St.start w).bel q0
 go_enter func335, ntmps335
 go_wp2_with fail
 go_loopw [7, 8] (fun oo i wl => ∃ (p : Nat) (ao : Option Addr) (co : Nat), p ≤ ar ∧ i = .int .i64 p ∧ oo = .slice ao p co ∧ Hid (Below w.heap.size w wl) ∧ Hid (Acc w.heap.size wl.heap.size 2 wl (.slice ao p co) (R.take p))) (fun _ i _ => ar - (intOf i).toNat)
 case atStart => exact ⟨0, _, _, Nat.zero_le _, rfl, rfl, aB _ _, by simpa [Hid] using HM.out⟩
 clear HM
 obtain ⟨p, ao, co, hp, rfl, rfl, aaD, hac⟩ := hrel
 have hb0 := aaD.out.size
 have hs0 := (St.start w).step aaD.out
 have dW := qC hs0.bel q0
 by_cases hlt : p < ar
 rotate_left
 · obtain rfl : p = ar := by omega
   have hnl : ¬ ((p : Int) < p) := by omega
   have lu := qH aaD.out
   have Oy := qH (show Acc w.heap.size wr.heap.size 2 wr (.slice ao p co) R by have h := hac.out; rwa [List.take_of_length_le (by rw [HR.out]; exact Nat.le_refl _)] at h)
   go_wp2_with fail
   go_ret
   exact ⟨_, rfl, Oy.out, lu.out⟩
 have ahx : (p : Int) < ar := by omega
 have HAV := qH (show ∀ a, a ∈ ts.map (fun t => t.getD p 0) → 0 ≤ a ∧ a ≤ size - 1 from HMR.out p hlt)
 have AO := qH (show (ts.map (fun t => t.getD p 0)).length = ts.length by simp)
 obtain ⟨K, hK, e1, e2, e3, e4, e5, e6⟩ := Dq (args := ts.map (fun t => t.getD p 0)) vW.out (by simpa using HLEN.out) HAV.out
 have HVB := qH (And.intro e3 e4)
 have J4 := qH (show R.take p ++ [valOf size f (ts.map (fun t => t.getD p 0))] = R.take (p + 1) by
  rw [List.take_succ_eq_append_getElem (show p < R.length by rw [HR.out]; exact hlt), HRP.out p (by rw [HR.out]; exact hlt)])
 have HAG := qH (fun (q : Nat) (hq : q < ts.length) => show (ts.map (fun t => t.getD p 0)).getD q 0 = ts[q].getD p 0 by simp [List.getD, hq])
 clear e1 e2 e3 e4 e5 e6 hK
 generalize ts.map (fun t => t.getD p 0) = A at *
 obtain ⟨w1, rfl⟩ : ∃ x, x = wr := ⟨_, rfl⟩
 have HM1 := qH (mJ (α := Int) w1 2)
 go_wp2_with fail
 go_loopw [9, 10] (fun oi i wl => ∃ (q : Nat) (ai : Option Addr) (ci : Nat), q ≤ ts.length ∧ i = .int .i64 q ∧ oi = .slice ai q ci ∧ Hid (Below w1.heap.size w1 wl) ∧ Hid (Acc w1.heap.size wl.heap.size 2 wl (.slice ai q ci) (A.take q))) (fun _ i _ => ts.length - (intOf i).toNat)
 case atStart => exact ⟨0, _, _, Nat.zero_le _, rfl, rfl, aB _ _, by simpa [Hid] using HM1.out⟩
 clear HM1
 obtain ⟨q, ai, ci, hq, rfl, rfl, aaE, hai⟩ := hrel
 have hb1 := aaE.out.size
 have PV := qH (Acc.mono hac.out aaE.out)
 have HAI := hai
 have hs1 := hs0.step aaE.out
 have dW := qC hs1.bel q0
 by_cases zh : q < ts.length
 · have hqI : (q : Int) < ts.length := by omega
   obtain ⟨b2, o2, u2, e3, q2, hx2⟩ := bF rfl (aS hs1.bel HT.out) q zh
   simp only [Option.some.injEq, Addr.mk.injEq, and_true] at e3
   obtain ⟨rfl, rfl⟩ := e3
   have hTL := HV.out _ (List.getElem_mem zh)
   obtain ⟨a2, c2, rfl, _⟩ := ah hx2
   have hlp : p < ts[q].length := by rw [hTL.1]; exact hlt
   obtain ⟨b4, o4, rfl, q4, hY⟩ := aI hx2 p hlp
   rw [hTL.1] at q2
   have HYI := qH hY
   have HA1 := qH (show A.take q ++ [ts[q][p]] = A.take (q + 1) by
    have h1 := HAG.out q zh
    have hq' : q < A.length := by rw [AO.out]; exact zh
    rw [show A.getD q 0 = A[q] by simp [List.getD, hq']] at h1
    rw [List.take_succ_eq_append_getElem hq', h1]
    simp [List.getD, hlp])
   have HAK := qH (show (A.take q).length = q by rw [List.length_take, AO.out]; omega)
   clear hx2 hY hTL
   generalize ts[q][p] = Y at *
   clear hlp
   go_wp2_with (at_builtin; go_loud (refine dS _ rfl _ _ _ rfl eH rfl (Acc.mono HAI.out (aB _ (.cells #[.int .i64 Y] 2))) (by omega) (by simp) ⟨wr.heap.size, 0, none⟩ 1 rfl (ns := [Y]) (qB (aA (heap_alloc_new _ _))) (fun b hb => by simp at hb; subst hb; exact HYI.out) (by rw [HAK.out]; simp; omega) ?_); simp only [HAK.out, HA1.out]; intro a9 c9 w9 jG vg hK9)
   have Et := qH jG
   have QI := qH (aaE.out.trans ((aB wr (.cells #[.int .i64 Y] 2)).mono aaE.out.size) |>.trans vg)
   clear jG vg hK9
   go_wp2_with fail
   go_roundw
   case rel => exact ⟨q + 1, a9, c9, zh, by go_num, rfl, QI.out, Et.out⟩
   simp [intOf]; omega
 obtain rfl : q = ts.length := by omega
 have hnq : ¬ ((ts.length : Int) < ts.length) := by omega
 have HAT := qH (show A.take ts.length = A from List.take_of_length_le (by rw [AO.out]; exact Nat.le_refl _))
 have aq3 := qH (show Rd wr [.slice ai ts.length ci] A by have h := HAI.out.rd; rwa [HAT.out] at h)
 have HPL := qH (show (A.length : Int) = f.1 by rw [AO.out]; exact HLEN.out)
 have Ja := qH (show (R.take p).length = p by rw [List.length_take, HR.out]; omega)
 clear HAI
 clear hai
 go_wp2_with fail
 refine (Uu size f A pb po _ _ _ _ (Rd.mono HF.out hs1.bel) (qC hs1.bel HC1.out) aq3.out vW.out HPL.out HAV.out).mono ?_
 rintro e Xk ⟨rfl, Bo⟩
 have aaF : wr.heap.size ≤ Xk.heap.size := hZ Bo
 have kD := hs1.step Bo
 have ahN := qH (Acc.mono PV.out Bo)
 clear PV
 clear dW
 have dW := qC kD.bel q0
 generalize valOf size f A = Y at *
 go_wp2_with (at_builtin; go_loud (refine dS _ rfl _ _ _ rfl eH rfl (Acc.mono ahN.out (aB _ (.cells #[.int .i64 Y] 2))) (by omega) (by simp; omega) ⟨Xk.heap.size, 0, none⟩ 1 rfl (ns := [Y]) (qB (aA (heap_alloc_new _ _))) (fun b hb => by simp at hb; subst hb; have := HVB.out; exact ⟨by omega, by omega⟩) (by rw [Ja.out]; simp; omega) ?_); simp only [Ja.out, J4.out]; intro a9 c9 w9 jG vg hK9)
 have Et := qH jG
 have QI := qH (((kD.bel).trans ((aB Xk (.cells #[.int .i64 Y] 2)).mono (kD.bel).size)).trans vg)
 clear jG vg hK9
 go_wp2_with fail
 go_roundw
 case rel => exact ⟨p + 1, a9, c9, hlt, by go_num, rfl, QI.out, Et.out⟩
 simp [intOf]; omega
theorem QJ (size : Int) (f : nI) (r : bH) (pb po rb ro : Nat) (v0 v1 r0 r1 : Value) (w : World) (hf : Rd w [v0, v1] f) (c0 : w.cell? ⟨pb, po, none⟩ = some v0) (c1 : w.cell? ⟨pb, po + 1, none⟩ = some v1) (hr : Rd w [r0, r1] r) (d0 : w.cell? ⟨rb, ro, none⟩ = some r0) (d1 : w.cell? ⟨rb, ro + 1, none⟩ = some r1) (hok : Ey size f = true) (hrk : fJ size r = true) :
 Calls prog 309 #[.int .i64 size, .pointer (some ⟨pb, po, none⟩), .pointer (some ⟨rb, ro, none⟩)] w fun e w' => ∃ x y, e = .returned (.tuple #[x, y, .bool (!kU size f r)]) ∧ Below w.heap.size w w' := by
 obtain ⟨far, D7⟩ := f
 obtain ⟨Y2, ts⟩ := r
 have hs := (mO hok).1
 have hfa := (mO hok).2.1
 have hra := (gV hrk).2.1
 have hcnt := vV hrk
 have Bl := I5 hs hra
 simp only at hfa hra hcnt Bl
 have QF := qH (qP hrk)
 have vW := qH hok
 have Ti := qH hrk
 have HF := qH hf
 have HR := qH hr
 have zf := au rfl hf
 obtain ⟨rfl, _⟩ := aG zf.1
 obtain ⟨af, cf, rfl, _⟩ := ah zf.2
 have zr := au rfl hr
 obtain ⟨rfl, _⟩ := aG zr.1
 obtain ⟨a, c, rfl, htr⟩ := ah zr.2
 have hb0 := (aN htr).2
 unfold maxLen at hb0
 have Ov := qH htr
 have HC1 := qH c1
 have HD0 := qH d0
 clear hf hr zf zr hok hrk htr c1 d0
 obtain ⟨AR, rfl⟩ : ∃ x : Nat, Y2 = x := ⟨Y2.toNat, by omega⟩
 obtain ⟨FA, rfl⟩ : ∃ x : Nat, far = x := ⟨far.toNat, by omega⟩
 simp only [Int.toNat_natCast] at hcnt Bl
 obtain ⟨PN, hPN⟩ : ∃ x : Nat, size ^ AR = (x : Int) := ⟨(size ^ AR).toNat, by omega⟩
 have Ox := qH hPN
 rw [hPN] at hcnt Bl
 clear hPN
 have aqS : ts.length ^ FA ≤ 256 ^ 3 := Nat.le_trans (Nat.pow_le_pow_left hcnt.2 FA) (Nat.pow_le_pow_right (by omega) (by omega))
 have aax := qH (show ((ts.length : Int)) ^ FA = ((ts.length ^ FA : Nat) : Int) by simp)
 have HKP := qH (show kU size ((FA : Int), D7) ((AR : Int), ts) = (List.range (ts.length ^ FA)).all (fun i => sD size ((FA : Int), D7) ((AR : Int), ts) i) by unfold kU; simp)
 have QG := qH (fun (t : List Int) (hl : t.length = AR) (ht : Val size t) => Mc hs.1 (ar := AR) Ox.out.symm (x := ts) (fun t h => by have := QF.out t h; rw [Int.toNat_natCast] at this; exact this) hl ht)
 have HLS := qH (um size PN ts ts.length)
 have ahE : 0 < FA := by omega
 have HZ := qH (show ts.length = 0 → ts.length ^ FA = 0 from fun h => by rw [h]; exact Nat.zero_pow ahE)
 generalize ts.length ^ FA = TOT at *
 have xq := qC (St.start w).bel c0
 clear xq
 obtain ⟨xq, QK⟩ := iQ (St.start w).bel c0 d1
 go_enter func309, ntmps309
 go_wp2_with fail
 refine (Uz size ((AR : Int), ts) rb ro _ _ PN _ (Rd.mono HR.out (St.start w).bel) (qC (St.start w).bel HD0.out) (qC (St.start w).bel d1) Ti.out (by rw [Int.toNat_natCast]; exact Ox.out)).mono ?_
 rintro e w1 ⟨rfl, hh1, hown, hsz1, hb1⟩
 have HOW := qH hown
 have HS2 := qH (show w1.cell? ⟨w.heap.size + 1, 2, none⟩ = some (.slice (some ⟨w.heap.size, 0, none⟩) PN PN) by rw [aA hh1]; rfl)
 have hst1 := (St.start w).step hb1
 generalize lq size PN ts ts.length = BS at *
 clear hh1 hown hb1
 obtain ⟨xq, QK⟩ := iQ hst1.bel c0 d1
 go_wp2_with fail
 refine (BI ts.length FA _ (by omega) (by omega) (by omega) (by rw [Int.toNat_natCast, aax.out]; omega)).mono ?_
 rintro e w21 ⟨rfl, rfl⟩
 rw [Int.toNat_natCast, aax.out]
 go_wp2_with fail
 go_loopw [12] (fun i wl => ∃ k : Nat, k ≤ TOT ∧ i = .int .i64 k ∧ Hid (Below w1.heap.size w1 wl) ∧ Hid (∀ j, j < k → sD size ((FA : Int), D7) ((AR : Int), ts) j = true)) (fun i _ => TOT - (intOf i).toNat)
 case atStart => exact ⟨0, Nat.zero_le _, rfl, Below.refl _ _, fun j hj => absurd hj (Nat.not_lt_zero _)⟩
 obtain ⟨k, hk2, rfl, hbl, hr⟩ := hrel
 have hst3 := hst1.step hbl.out
 have HOB := qH (bK HOW.out hbl.out)
 have aqU := hbl.out.size
 obtain ⟨xq, QK⟩ := iQ hst3.bel c0 d1
 by_cases Ou : k < TOT
 rotate_left
 · obtain rfl : k = TOT := by omega
   have hnk : ¬ ((k : Int) < k) := by omega
   have HQ := qH (show kU size ((FA : Int), D7) ((AR : Int), ts) = true by
    rw [HKP.out, List.all_eq_true]
    exact fun j hj => hr.out j (List.mem_range.1 hj))
   have UA := qH (hst3.bel.trans (((aB wr (.cells #[] 28)).trans ((aB _ (.cells #[] 2)).mono (by simp))).mono hst3.bel.size))
   go_wp2_with fail
   refine bodyPost_ret (v := .tuple #[.slice (some ⟨wr.heap.size, 0, none⟩) 0 0, .slice (some ⟨wr.heap.size + 1, 0, none⟩) 0 0, .bool false]) (by simp [results, results309, go_sem]) rfl ⟨⟨_, _, by rw [HQ.out]; rfl⟩, UA.out⟩
 have QH : (k : Int) < TOT := by omega
 have ahF : 0 < ts.length := by
  rcases Nat.eq_zero_or_pos ts.length with h | h
  · have := HZ.out h; omega
  exact h
 go_wp2_with fail
 refine (zO ts.length FA k _ (by omega) (by omega) (by omega) (by omega) (by omega) (by omega)).mono ?_
 rintro e w3 ⟨vv, rfl, fr, hb3⟩
 rw [Int.toNat_natCast] at fr
 obtain ⟨av, cv, rfl, _⟩ := ah fr.rd
 have hAL := iH ts.length FA k
 have HAM := qH (kK ts.length (by omega) FA k)
 have HKA := qH (show sD size ((FA : Int), D7) ((AR : Int), ts) k = jH ts (makeT size ((FA : Int), D7) (kC ts (eu ts.length FA k)) AR) by unfold sD; simp)
 generalize eu ts.length FA k = AT at *
 rw [hAL] at fr
 have AO := qH hAL
 have hz3 : wr.heap.size ≤ w3.heap.size := hb3.size
 have HB3 := qH hb3
 have oZ := qH (rV (size := 1) w3 28)
 have HAI := qH fr.ip
 have ad5 := qH (bK HOB.out hb3)
 have al4 := qH (qC hb3 (qC hbl.out HS2.out))
 have aaz := hst3.step hb3
 obtain ⟨bT, oT, vh, rfl, HVH⟩ := Xh Ov.out ahF
 have HVH := qH HVH
 obtain ⟨wo, rfl⟩ : ∃ x, x = wr := ⟨_, rfl⟩
 rw [hAL]
 clear fr hb3 hAL
 obtain ⟨xq, QK⟩ := iQ aaz.bel c0 d1
 go_wp2_with fail
 go_loopw [14, 15] (fun ll i wl => ∃ (q g' c' : Nat), q ≤ FA ∧ i = .int .i64 q ∧ ll = .slice (some ⟨g', 0, none⟩) q c' ∧ Hid (w3.heap.size ≤ g' ∧ g' < wl.heap.size) ∧ Hid (Below w3.heap.size w3 wl) ∧ Hid (wl.ownsRow 0 28 1 (.slice (some ⟨g', 0, none⟩) q c') q ((AT.take q).map (fun x => vh x.toNat)))) (fun _ i _ => FA - (intOf i).toNat)
 case atStart => exact ⟨0, w3.heap.size, 0, Nat.zero_le _, rfl, rfl, ⟨Nat.le_refl _, by simp⟩, aB _ _, by simpa [Hid] using oZ.out⟩
 clear oZ
 obtain ⟨q, g', c', hq, rfl, rfl, hg', hbp, hrow⟩ := hrel
 have hst5 := aaz.step hbp.out
 have aqW := hbp.out.size
 obtain ⟨xq, QK⟩ := iQ hst5.bel c0 d1
 by_cases zh : q < FA
 · have hqI : (q : Int) < FA := by omega
   obtain ⟨ba, oa, rfl, qa0, _⟩ := aI HAI.out.rd q (by rw [AO.out]; exact zh)
   have hba : ba < w3.heap.size := World.block_lt_of_cell? w3 _ qa0
   have qa := qC hbp.out qa0
   clear qa0
   have hA := HAM.out _ (List.getElem_mem (show q < AT.length by rw [AO.out]; exact zh))
   obtain ⟨n, hn⟩ : ∃ n : Nat, AT[q]'(by rw [AO.out]; exact zh) = (n : Int) := ⟨(AT[q]'(by rw [AO.out]; exact zh)).toNat, by omega⟩
   rw [hn] at hA qa
   have hnl : n < ts.length := by omega
   have hnI : (n : Int) < ts.length := by omega
   obtain ⟨hcn, hrn⟩ := HVH.out n hnl
   have Yu := qC hst5.bel hcn
   have hbT : bT < w.heap.size := World.block_lt_of_cell? w _ hcn
   obtain ⟨ax, cx, hvx, _⟩ := ah hrn
   rw [hvx] at Yu
   have HXS := qH (show (AT.take (q + 1)).map (fun x => vh x.toNat) = (AT.take q).map (fun x => vh x.toNat) ++ [.slice ax ts[n].length cx] by
    rw [List.take_succ_eq_append_getElem (show q < AT.length by rw [AO.out]; exact zh), List.map_append, hn]
    simp [hvx])
   have qh := hbp
   have HRW := hrow
   clear hcn hrn hvx hn
   go_upto_region 12 with fail
   refine iT (fun w' => cI w' pb po FA ∧ cV w' rb (ro + 1) (.slice (some ⟨bT, oT, none⟩) ts.length c) ∧ cI w' ba (oa + q) n ∧ cV w' bT (oT + n) (.slice ax ts[n].length cx)) (.z [0,1,2,3,4,5,6,7,8,9,10] (.hard 11 (.hard 12 (.float 13 .nil)))) ?_ ?_
   · exact ⟨qC (hst5.drew).bel c0, qC (hst5.drew).bel d1, qC (belowD _) qa, qC (belowD _) Yu⟩
   have je := hst5.drew
   have afF := qC (belowD _) qa
   clear qa
   have Xl := qC (belowD _) Yu
   clear Yu
   have UC := qH (qh.out.trans (((belowD _)).mono qh.out.size))
   clear qh
   have aaG := qH (ownsRow_below HRW.out (belowD _))
   clear HRW
   clear xq QK
   have Xm : wr.heap.size ≤ (wr.drew).heap.size := by simp
   generalize wr.drew = UD at *
   refine aV ?_
   refine gX fun K hK => ?_
   go_wp2_with fail
   have yN := je.alloc #[.slice ax ts[n].length cx] 28 (n := UD.heap.size) (by simp)
   have aaH := qC (aB _ (.cells #[.slice ax ts[n].length cx] 28)) afF
   clear afF
   have Oz := qC (aB _ (.cells #[.slice ax ts[n].length cx] 28)) Xl
   clear Xl
   have wI := qH (UC.out.trans (((aB _ (.cells #[.slice ax ts[n].length cx] 28))).mono UC.out.size))
   clear UC
   have aaI := qH (ownsRow_below aaG.out (aB _ (.cells #[.slice ax ts[n].length cx] 28)))
   clear aaG
   refine ⟨⟨qC yN.bel c0, qC yN.bel d1, aaH, Oz⟩, ?_⟩
   refine aV ?_
   refine gX fun K hK => ?_
   refine jZ _ _ _ _ rfl oq (v := .slice (some ⟨g', 0, none⟩) q c') rfl aaI.out (vs := [.slice ax ts[n].length cx]) rfl (fun u hu => by rw [List.mem_singleton] at hu; subst hu; rfl) ⟨UD.heap.size, 0, none⟩ 1 rfl (qB (yN.c 0 0)) (by omega) ?_
   intro gN cN wN hat oV jJ IL
   have alM := hg'.out.1
   have alN := hg'.out.2
   have hgN : w3.heap.size ≤ gN := by
    rcases hat with h | h
    · simp only [Value.ownBlock, Option.some.injEq] at h
      omega
    simp at h; omega
   have jJ : But [g'] (UD.alloc (.cells #[.slice ax ts[n].length cx] 28)) wN := jJ
   clear hat
   have F8 := yN.sK jJ (fun k hk => by simp at hk; omega) (fun x hx => by simp at hx ⊢; subst hx; simp <;> omega)
   rw [← HXS.out] at oV
   have HRN := qH oV
   clear oV
   clear aaI
   have afw : UD.heap.size + 1 ≤ wN.heap.size := by have h9 := jJ.size; (try simp at h9); omega
   have al5 := uw aaH (jJ.block _ (by (try simp) <;> omega) (by (try simp) <;> omega))
   clear aaH
   have ad9 := uw Oz (jJ.block _ (by (try simp) <;> omega) (by (try simp) <;> omega))
   clear Oz
   have ahO := qH (wI.out.trans (jJ.below (by (try simp) <;> omega) wI.out.size))
   clear wI
   refine hK _ _ ⟨⟨qC F8.bel c0, qC F8.bel d1, al5, ad9⟩, ?_⟩
   refine aV ?_
   have aF := F8.c 0 0
   obtain ⟨xq, QK⟩ := iQ F8.bel c0 d1
   refine iF ?_
   go_wp2_with fail
   go_roundw
   case rel => exact ⟨q + 1, gN, cN, zh, by go_num, rfl, ⟨hgN, IL⟩, ahO.out, HRN.out⟩
   simp [intOf]; omega
 obtain rfl : q = FA := by omega
 have hnq : ¬ ((q : Int) < q) := by omega
 have HPM := qH (I7 (x := ts) (l := AT) HAM.out)
 have HL := qH (show Rd wr [.slice (some ⟨g', 0, none⟩) q c'] (kC ts AT) from I8 hrow.out (by simp [kC, AO.out]) (fun i hi => by
  have hi2 : i < AT.length := by simpa [kC] using hi
  have hA := HAM.out _ (List.getElem_mem hi2)
  have hnl : (AT[i]).toNat < ts.length := by omega
  refine ⟨vh (AT[i]).toNat, ?_, ?_⟩
  · rw [List.take_of_length_le (by rw [AO.out]; exact Nat.le_refl _)]; simp [hi2]
  · rw [show (kC ts AT)[i] = ts[(AT[i]).toNat] by simp [kC, List.getD, hnl]]
    exact Rd.mono (HVH.out _ hnl).2 hst5.bel))
 have HTV := qH (show ∀ t, t ∈ kC ts AT → t.length = AR ∧ Val size t from fun t ht => by have := QF.out t (HPM.out t ht); rwa [Int.toNat_natCast] at this)
 have HPQ := qH (show (kC ts AT).length = q by simp [kC, AO.out])
 have HPL := qH (show ((kC ts AT).length : Int) = ((q : Int), D7).1 by rw [HPQ.out])
 have aaB := qH (bK ad5.out hbp.out)
 have Xn := qH ((hbl.out.trans (HB3.out.mono hbl.out.size)).trans (hbp.out.mono (Nat.le_trans hbl.out.size HB3.out.size)))
 have s2 := qC hbp.out al4.out
 clear al4 ad5 hrow HAI
 generalize kC ts AT = PT at *
 go_wp2_with fail
 refine (Yv size ((q : Int), D7) PT AR pb po _ _ _ _ (Rd.mono HF.out hst5.bel) (qC hst5.bel HC1.out) HL.out vW.out HPL.out HTV.out (by omega)).mono ?_
 rintro e w36 ⟨vo, rfl, hac, Dt⟩
 have ahP : wr.heap.size ≤ w36.heap.size := hZ Dt
 have nY := hst5.step Dt
 have Md := qC Dt s2
 clear s2
 have OA := qH (bK aaB.out Dt)
 clear aaB
 have aaK := qH (Rd.mono HL.out Dt)
 clear HL
 have OB := qH (Xn.out.trans ((Dt).mono Xn.out.size))
 clear Xn
 clear xq QK
 obtain ⟨xq, QK⟩ := iQ nY.bel c0 d1
 have HMK := qH (zX vW.out HPL.out HTV.out)
 obtain ⟨ao, co, rfl, hmr⟩ := ah hac.rd
 have HFO := qH hac.rd
 clear hac
 generalize makeT size ((q : Int), D7) PT AR = MT at *
 have hML := HMK.out.1
 obtain ⟨bo, oo, rfl, -, -⟩ := aI HFO.out 0 (by rw [hML]; omega)
 have hcb := jl hs.1 MT HMK.out.2.1
 rw [hML, Ox.out] at hcb
 obtain ⟨C, hC⟩ : ∃ C : Nat, dD size MT = C := ⟨(dD size MT).toNat, by omega⟩
 have HC := qH hC
 rw [hC] at hcb
 have HML := qH hML
 have hCl : C < BS.length := by rw [HLS.out]; omega
 obtain ⟨o9, c9, Xi, tZ, -, -⟩ := yM OA.out C hCl
 simp only [Value.slice.injEq, Option.some.injEq, Addr.mk.injEq] at Xi
 obtain ⟨⟨-, rfl, -⟩, -, -⟩ := Xi
 rw [Nat.zero_add] at tZ
 have HHT := qH (show BS[C] = jH ts MT by
  have h := QG.out MT HML.out HMK.out.2.1
  rw [HC.out, Int.toNat_natCast] at h
  rw [← h]; simp [List.getD, hCl])
 rw [HHT.out] at tZ
 have hCI : (C : Int) < PN := by omega
 clear hC hML hmr
 cases hh : jH ts MT
 rotate_left
 · rw [hh] at tZ
   have HQ := qH (show sD size ((q : Int), D7) ((AR : Int), ts) k = true by rw [HKA.out, hh])
   clear hh
   go_upto_region 14 with fail
   refine iT (fun w' => cI w' pb po q ∧ cV w' rb (ro + 1) (.slice (some ⟨bT, oT, none⟩) ts.length c) ∧ cV w' (w.heap.size + 1) 2 (.slice (some ⟨w.heap.size, 0, none⟩) PN PN) ∧ cV w' w.heap.size C (.bool (true))) (.z [0,1,2,3,4,5] (.hard 6 (.z [7,8,9] .nil))) ?_ ?_
   · exact ⟨qC (nY.drew).bel c0, qC (nY.drew).bel d1, qC (belowD _) Md, qC (belowD _) tZ⟩
   have Jb := nY.drew
   have al6 := qC (belowD _) Md
   clear Md
   have aea := qC (belowD _) tZ
   clear tZ
   clear OA
   clear aaK
   have ahQ := qH (OB.out.trans (((belowD _)).mono OB.out.size))
   clear OB
   have ahR := qH (Rd.mono HFO.out (belowD _))
   clear HFO
   clear xq QK
   have aos : w36.heap.size ≤ (w36.drew).heap.size := by simp
   generalize w36.drew = axv at *
   refine aV ?_
   refine gX fun K hK => ?_
   go_wp2_with (go_at_call 333; refine (AA size MT _ _ ahR.out hs.1 HMK.out.2.1 (by rw [HML.out, Ox.out]; omega)).mono ?_; rintro e w50 ⟨rfl, rfl, rfl⟩)
   rw [HC.out]
   refine ⟨⟨qC Jb.bel c0, qC Jb.bel d1, al6, aea⟩, ?_⟩
   refine aV ?_
   obtain ⟨xq, QK⟩ := iQ Jb.bel c0 d1
   refine iF ?_
   go_wp2_with fail
   go_roundw
   case rel =>
    refine ⟨k + 1, by omega, by go_num, ahQ.out, fun j hj => ?_⟩
    rcases Nat.lt_or_ge j k with h | h
    · exact hr.out j h
    obtain rfl : j = k := by omega
    exact HQ.out
   simp [intOf]; omega
 rw [hh] at tZ
 have HQ := qH (show kU size ((q : Int), D7) ((AR : Int), ts) = false by
  rw [HKP.out, List.all_eq_false]
  exact ⟨k, List.mem_range.2 Ou, by rw [HKA.out, hh]; decide⟩)
 clear hh
 go_upto_region 14 with fail
 refine iT (fun w' => cI w' pb po q ∧ cV w' rb (ro + 1) (.slice (some ⟨bT, oT, none⟩) ts.length c) ∧ cV w' (w.heap.size + 1) 2 (.slice (some ⟨w.heap.size, 0, none⟩) PN PN) ∧ cV w' w.heap.size C (.bool (false))) (.z [0,1,2,3,4,5] (.hard 6 (.z [7,8,9] .nil))) ?_ ?_
 · exact ⟨qC (nY.drew).bel c0, qC (nY.drew).bel d1, qC (belowD _) Md, qC (belowD _) tZ⟩
 have OC := nY.drew
 have al7 := qC (belowD _) Md
 clear Md
 have aeb := qC (belowD _) tZ
 clear tZ
 clear OA
 have al8 := qH (Rd.mono aaK.out (belowD _))
 clear aaK
 clear OB
 have ahS := qH (Rd.mono HFO.out (belowD _))
 clear HFO
 clear xq QK
 have aot : w36.heap.size ≤ (w36.drew).heap.size := by simp
 generalize w36.drew = aq4 at *
 refine aV ?_
 refine gX fun K hK => ?_
 go_wp2_with (go_at_call 333; refine (AA size MT _ _ ahS.out hs.1 HMK.out.2.1 (by rw [HML.out, Ox.out]; omega)).mono ?_; rintro e w59 ⟨rfl, rfl, rfl⟩)
 rw [HC.out]
 refine ⟨⟨qC OC.bel c0, qC OC.bel d1, al7, aeb⟩, ?_⟩
 refine aV ?_
 obtain ⟨xq, QK⟩ := iQ OC.bel c0 d1
 refine iF ?_
 obtain ⟨w8, rfl⟩ : ∃ x, x = aq4 := ⟨_, rfl⟩
 have afG := qH (rV (size := 1) w8 28)
 have afH := qH OC.bel
 obtain ⟨a5, c5, e5, h5⟩ := ah al8.out
 simp only [Value.slice.injEq] at e5
 obtain ⟨rfl, -, rfl⟩ := e5
 have aq5 := qH h5
 clear h5
 have axw := OC
 go_wp2_with fail
 go_loopw [17, 18] (fun ll i wl => ∃ (j g9 c9 : Nat) (xs : List Value), j ≤ q ∧ i = .int .i64 j ∧ ll = .slice (some ⟨g9, 0, none⟩) j c9 ∧ Hid (w8.heap.size ≤ g9 ∧ g9 < wl.heap.size) ∧ Hid (Below w8.heap.size w8 wl) ∧ Hid (wl.ownsRow 0 28 1 (.slice (some ⟨g9, 0, none⟩) j c9) j xs)) (fun _ i _ => q - (intOf i).toNat)
 case atStart => exact ⟨0, w8.heap.size, 0, [], Nat.zero_le _, rfl, rfl, ⟨Nat.le_refl _, by simp⟩, aB _ _, by simpa [Hid] using afG.out⟩
 clear afG
 obtain ⟨j, g9, c9, xs, hj, rfl, rfl, hg9, zA, hr9⟩ := hrel
 have Y3 := zA.out.size
 by_cases hjlt : j < q
 rotate_left
 · obtain rfl : j = q := by omega
   have hnj : ¬ ((j : Int) < j) := by omega
   have UA := qH (afH.out.trans (zA.out.mono afH.out.size))
   go_wp2_with fail
   refine bodyPost_ret (v := .tuple #[.slice (some ⟨g9, 0, none⟩) j c9, .slice (some ⟨bo, oo, none⟩) MT.length co, .bool true]) (by simp [results, results309, go_sem]) rfl ⟨⟨_, _, by rw [HQ.out]; rfl⟩, UA.out⟩
 have hjI : (j : Int) < q := by omega
 have hjP : j < PT.length := by rw [HPQ.out]; exact hjlt
 obtain ⟨b5, o5, u5, e5, q5, hx5⟩ := bF rfl (aS zA.out aq5.out) j hjP
 simp only [Option.some.injEq, Addr.mk.injEq, and_true] at e5
 obtain ⟨rfl, rfl⟩ := e5
 rw [Nat.zero_add] at q5
 obtain ⟨a5, c5, rfl, _⟩ := ah hx5
 have hpl := qH (HTV.out _ (List.getElem_mem hjP)).1
 have HX5 := qH hx5
 clear hx5
 go_wp2_with fail
 refine (uK PT[j] _ _ HX5.out (by rw [hpl.out]; omega)).mono ?_
 rintro e w5 ⟨v5, rfl, PO, hb5⟩
 obtain ⟨a6, c6, rfl, _⟩ := PO.len
 clear PO
 have hz5 := hb5.size
 go_wp2_with (at_builtin; refine vT _ rfl _ _ _ rfl oq rfl (ownsRow_below (ownsRow_below hr9.out hb5) (aB w5 (.cells #[.slice a6 PT[j].length c6] 28))) (v := .slice (some ⟨g9, 0, none⟩) j c9) (vs := [.slice a6 PT[j].length c6]) rfl (fun u hu => by rw [List.mem_singleton] at hu; subst hu; rfl) ⟨w5.heap.size, 0, none⟩ 1 rfl (qB (aA (heap_alloc_new _ _))) (by omega) ?_; intro gN cN wN hat oV jJ IL)
 have hg1 := hg9.out.1
 have HGN := qH (show w8.heap.size ≤ gN by
  rcases hat with h | h
  · simp only [Value.ownBlock, Option.some.injEq] at h
    omega
  · simp at h; omega)
 have HRN := qH oV
 have Yw := qH (((zA.out.trans (hb5.mono zA.out.size)).trans ((aB w5 (.cells #[.slice a6 PT[j].length c6] 28)).mono (by omega))).trans (jJ.below (B := w8.heap.size) (fun z hz => by simp [Value.ownBlock] at hz; omega) (by simp; omega)))
 clear hat oV jJ
 go_wp2_with fail
 go_roundw
 case rel => exact ⟨j + 1, gN, cN, _, hjlt, by go_num, rfl, ⟨HGN.out, IL⟩, Yw.out, HRN.out⟩
 simp [intOf]; omega
theorem UE (size : Int) (f : nI) (r : bH) (pb po rb ro : Nat) (v0 v1 r0 r1 : Value) (w : World) (hf : Rd w [v0, v1] f) (c0 : w.cell? ⟨pb, po, none⟩ = some v0) (c1 : w.cell? ⟨pb, po + 1, none⟩ = some v1) (hr : Rd w [r0, r1] r) (d0 : w.cell? ⟨rb, ro, none⟩ = some r0) (d1 : w.cell? ⟨rb, ro + 1, none⟩ = some r1) (hok : Ey size f = true) (hrk : fJ size r = true) :
 Calls prog 219 #[.int .i64 size, .pointer (some ⟨pb, po, none⟩), .pointer (some ⟨rb, ro, none⟩)] w fun e w' => e = .returned (.bool (kU size f r)) ∧ Below w.heap.size w w' := by
 go_enter func219, ntmps219
 go_wp2_with fail
 refine (QJ size f r pb po rb ro v0 v1 r0 r1 _ hf c0 c1 hr d0 d1 hok hrk).mono ?_
 rintro e w1 ⟨x, y, rfl, hb1⟩
 have HB := qH hb1
 clear hb1
 go_wp2_with fail
 go_ret
 exact ⟨ak (by simp), HB.out⟩
def kV (f : List Int → Int) (size : Int) (m : Nat) (k : Nat) : List Int := (List.range k).map fun (i : Nat) => f (eu size m (i : Int))
@[simp] theorem zY (f : List Int → Int) (size : Int) (m k : Nat) : (kV f size m k).length = k := by simp [kV]
theorem Du (f : List Int → Int) (size : Int) (m k : Nat) : kV f size m (k + 1) = kV f size m k ++ [f (eu size m k)] := by simp [kV, List.range_succ]
theorem Jc {H : Nat} {w : World} {n : Int} (h : I64 n) : aQ H w [.int .i64 n] n := ⟨[], ⟨rfl, rfl, h⟩, by simp, by simp⟩
def ByC (g : Nat) (cb : Array Value) (w : World) (size : Int) (m : Nat) (f : List Int → Int) : Prop :=
 ∀ (W : World) (l : List Int) (v : Value), Below w.heap.size w W → Rd W [v] l → l.length = m → (∀ a, a ∈ l → 0 ≤ a ∧ a < size) → Calls prog g (#[v] ++ cb) W fun e w' => e = .returned (.int .i64 (f l)) ∧ I64 (f l) ∧ Below W.heap.size W w'
theorem ahT (size arity : Int) (g : Nat) (cb : Array Value) (f : List Int → Int) (w : World) (hs : 1 ≤ size) (hs2 : size ≤ 1000000) (hm : 0 ≤ arity) (hm2 : arity ≤ 1000) (hp : size ^ arity.toNat ≤ 1000000)
 (eg : ∀ args w, (callFunc g args).run prog w = .ok (.enter g args) w) (hby : ByC g cb w size arity.toNat f) :
 Calls prog 311 #[.int .i64 size, .int .i64 arity, .func (.func g) #[] cb] w fun e w' => ∃ v, e = .returned (.agg #[.int .i64 arity, v]) ∧ aQ w.heap.size w' [v] (kV f size arity.toNat (size ^ arity.toNat).toNat) ∧ Below w.heap.size w w' := by
 obtain ⟨m, rfl⟩ := Int.eq_ofNat_of_zero_le hm
 rw [Int.toNat_natCast] at hp hby ⊢
 have CO := qH hby
 clear hby
 have hpos : 0 ≤ size ^ m := Int.pow_nonneg (by omega)
 obtain ⟨N, hN⟩ := Int.eq_ofNat_of_zero_le hpos
 have Ug : N ≤ 1000000 := by omega
 rw [hN, Int.toNat_natCast]
 go_enter func311, ntmps311
 go_wp2_with (go_at_call 229; refine (Ar size m _ (by omega) (by omega) (by omega) (by rw [Int.toNat_natCast]; omega)).mono ?_; rintro e w' ⟨rfl, rfl⟩)
 clear hN hpos hp
 go_loopw [8, 14] (fun _ i wr => ∃ (k c : Nat) (a : Option Addr), k ≤ N ∧ i = .int .i64 k ∧ Hid (Below w.heap.size w wr) ∧ Hid (w.heap.size + 2 ≤ wr.heap.size) ∧ Hid (wr.heap[w.heap.size]? = some (.cells #[.int .i64 0, .slice none 0 0] 48 (0, 0))) ∧ Hid (wr.heap[w.heap.size + 1]? = some (.cells #[.int .i64 m, .slice a k c] 48 (0, 0))) ∧
  Hid (Acc (w.heap.size + 2) wr.heap.size 2 wr (.slice a k c) (kV f size m k))) (fun _ i _ => N - (intOf i).toNat)
 case atStart =>
  refine ⟨0, 0, none, Nat.zero_le _, rfl, ((Below.refl _ _).alloc (Nat.le_refl _) _).alloc (by simp) _, by simp [Hid], ?_, iV _ _ (by simp), ?_⟩
  · show (World.alloc _ _).heap[_]? = _
    rw [Below.heap_alloc _ _ _ (by simp)]
    exact iV _ _ rfl
  simpa [Hid, kV] using Acc.nil (α := Int) _ _ _ _
 obtain ⟨k, c, a, hk, rfl, hbl, hsz, hres, hbox, hacc⟩ := hrel
 have hc1 : wr.cell? ⟨w.heap.size + 1, 1, none⟩ = some (.slice a k c) := by rw [aA hbox.out]; rfl
 have hc0 : wr.cell? ⟨w.heap.size + 1, 0, none⟩ = some (.int .i64 m) := by rw [aA hbox.out]; rfl
 have hf1 : wr.frozen? ⟨w.heap.size + 1, 1, none⟩ = false := aO hbox.out
 by_cases hlt : k < N
 rotate_left
 · obtain rfl : k = N := by omega
   have r0 : wr.cell? ⟨w.heap.size, 0, none⟩ = some (.int .i64 0) := by rw [aA hres.out]; rfl
   have r1 : wr.cell? ⟨w.heap.size, 1, none⟩ = some (.slice none 0 0) := by rw [aA hres.out]; rfl
   have f0 : wr.frozen? ⟨w.heap.size, 0, none⟩ = false := aO hres.out
   have f1 : wr.frozen? ⟨w.heap.size, 1, none⟩ = false := aO hres.out
   go_wp2
   refine bodyPost_ret (v := .agg #[.int .i64 m, .slice a k c]) (by simp [results, results311, go_sem, r0, r1, f0, f1]) rfl ⟨_, rfl, ?_, ?_⟩
   · have h6 := ((hacc.out.setCell (a := ⟨w.heap.size, 0, none⟩) (by simp) (.int .i64 m)).setCell (a := ⟨w.heap.size, 1, none⟩) (by simp) (.slice a k c)).fresh
     exact h6.lower (by omega)
   exact (hbl.out.setCell (by simp) _).setCell (by simp) _
 have hb0 : w.heap.size + 1 < wr.heap.size := by have := hsz.out; omega
 have hbo : Hid (Below w.heap.size w wr) := hbl
 go_wp2
 have hk1 : Hid (KC wr ⟨w.heap.size + 1, 1, none⟩ (.slice a k c)) := ⟨hc1, hf1⟩
 refine BG (fun w' => cV w' (w.heap.size + 1) 1 (.slice a k c)) [(0, 0), (1, 0), (2, 0), (3, 0), (4, 0), (5, 0), (6, 1), (7, 1), (8, 1), (9, 1), (10, 0), (11, 2)] ?_ ?_
 · exact (hk1.out.mono (belowD _)).1
 refine nH ?_
 refine wU fun K hK => ?_
 go_wp2_with (go_at_call 272; refine (Di size m k _ (by omega) (by omega) (by omega) (by omega) (by omega) (by omega)).mono ?_; rintro e w1 ⟨v1, rfl, Gy, hb1⟩)
 refine ⟨((hk1.out.mono (belowD _)).mono hb1).1, ?_⟩
 refine nH ?_
 refine wU fun K hK => ?_
 go_wp2_with (go_at_fn g; refine (CO.out _ (eu size m k) v1 (hbl.out.drew.trans (hb1.mono hbl.out.size)) Gy.rd (iH _ _ _) (kK _ (by omega) _ _)).mono ?_; rintro e w2 ⟨rfl, i2, hb2⟩)
 refine ⟨(((hk1.out.mono (belowD _)).mono hb1).mono hb2).1, ?_⟩
 refine nH ?_
 refine wU fun K hK => ?_
 go_wp2_with fail
 have hk3 := (((hk1.out.mono (belowD _)).mono hb1).mono hb2).mono (aB w2 (.cells #[.int .i64 (f (eu size m k))] 2))
 refine ⟨hk3.1, ?_⟩
 refine wU fun K hK => ?_
 refine iq _ _ _ _ rfl eH rfl (hacc.out.mono ((((belowD _).trans (hb1.mono (Nat.le_refl _))).trans (hb2.mono hb1.size)).trans ((aB _ _).mono (Nat.le_trans hb1.size hb2.size)))) (Jc i2) hsz.out
         (by have h1 := hb1.size; have h2 := hb2.size; simp at h1 ⊢; omega) ⟨w2.heap.size, 0, none⟩ 1 rfl (World.news_of_block (cs := #[.int .i64 (f (eu size m k))]) (heap_alloc_new w2 _)) (by simp; omega) ?_
 intro a3 c3 w3 QL hb3 _
 simp only [zY] at QL ⊢
 have hk4 := hk3.below hb3 (Nat.lt_succ_self _)
 refine hK _ _ ⟨hk4.1, ?_⟩
 have hc3 := hk4.1
 have hf3 := hk4.2
 clear hK
 refine nH ?_
 refine XU fun K hK => ?_
 go_wp2
 refine elN ?_
 go_wp2
 go_roundw
 case rel =>
  have hBW : Below w.heap.size w w3 := (((hbl.out.drew.trans (hb1.mono hbl.out.size)).trans (hb2.mono (Nat.le_trans hbl.out.size hb1.size))).alloc (Nat.le_trans (Nat.le_trans hbl.out.size hb1.size) hb2.size) _).trans (hb3.mono (by omega))
  have keep : ∀ b, b < w.heap.size + 2 → w3.heap[b]? = wr.heap[b]? := fun b hb => by
   have s1 := hb1.size
   have s2 := hb2.size
   have s0 := hsz.out
   simp at s1
   rw [hb3.block b hb, Below.heap_alloc _ _ _ (by omega), hb2.block b (by omega), hb1.block b (by simp; omega)]
   rfl
  refine ⟨k + 1, c3, a3, by omega, by go_num, hBW.setCell (by simp) _, ?_, ?_, ?_, ?_⟩
  · have s3 := hb3.size; have s1 := hb1.size; have s2 := hb2.size; have s0 := hsz.out; simp [Hid, World.setCell] at s1 s3 ⊢; omega
  · show (World.setCell _ _ _).heap[_]? = _
    rw [Below.heap_setCell _ _ _ _ (by simp), keep _ (by omega)]
    exact hres.out
  · have := aZ w3 (w.heap.size + 1) 1 (.slice a3 (k + 1) c3) _ _ _ ((keep _ (by omega)).trans hbox.out)
    exact this
  have h6 := QL.setCell (a := ⟨w.heap.size + 1, 1, none⟩) (by simp) (.slice a3 (k + 1) c3)
  rw [← Du] at h6
  exact h6.up (by simp [World.setCell])
 simp [intOf]; omega
def ED (p : Int) (l : List Int) : Int := (l.getD 0 0 - l.getD 1 0 + l.getD 2 0) % p
theorem OD (p : Int) (hp : 0 < p) (l : List Int) : 0 ≤ ED p l ∧ ED p l < p := ⟨Int.emod_nonneg _ (by omega), Int.emod_lt_of_pos _ hp⟩
theorem uo {l : List Int} {i : Nat} (h : i < l.length) : l.getD i 0 ∈ l := by simp [List.getD, h]
def Me (p : Int) : nI := (3, kV (ED p) p 3 (p ^ 3).toNat)
theorem OE (p : Int) (w : World) (b : Nat) (hb : w.cell? ⟨b, 0, none⟩ = some (.int .i64 p)) (hp : 0 < p) (hp2 : p ≤ 1000) : ByC 326 #[.pointer (some ⟨b, 0, none⟩)] w p 3 (ED p) := by
 intro W l v hbl r hl hm
 have hc := qC hbl hb
 obtain ⟨a, c, rfl, h⟩ := ah r
 obtain ⟨b0, o0, rfl, c0, _⟩ := eF h 0 (by omega)
 obtain ⟨b1, o1, e1, c1, _⟩ := eF h 1 (by omega)
 obtain ⟨b2, o2, e2, c2, _⟩ := eF h 2 (by omega)
 simp only [Option.some.injEq, Addr.mk.injEq, and_true] at e1 e2
 obtain ⟨rfl, rfl⟩ := e1
 obtain ⟨rfl, rfl⟩ := e2
 have m0 := hm _ (uo (by omega : 0 < l.length))
 have m1 := hm _ (uo (by omega : 1 < l.length))
 have m2 := hm _ (uo (by omega : 2 < l.length))
 rw [hl]
 rw [Nat.add_zero] at c0
 clear r h hb hm
 generalize hx : l.getD 0 0 = x at *
 generalize hy : l.getD 1 0 = y at *
 generalize hz : l.getD 2 0 = z at *
 have HX := qH hx
 have HY := qH hy
 have HZ := qH hz
 clear hx hy hz hl
 show Calls _ _ #[_, _] _ _
 go_enter func326, ntmps326
 go_wp2
 go_quiet (fail)
 go_wp2
 go_ret
 refine ⟨aU ?_, ?_, dQ _ _⟩
 · unfold ED
   rw [HX.out, HY.out, HZ.out, Int.add_emod_right]
 exact jf _ (OD p hp l).1 (by have := (OD p hp l).2; omega)
theorem UF (p : Int) (w : World) (hp : 1 < p) (hp2 : p ≤ 4) :
 Calls prog 271 #[.int .i64 p] w fun e w' => ∃ v, e = .returned (.agg #[.int .i64 3, v]) ∧ aQ w.heap.size w' [v] (kV (ED p) p 3 (p ^ 3).toNat) ∧ Below w.heap.size w w' := by
 have hq : p ^ 3 ≤ 1000000 := by
  have : p = 2 ∨ p = 3 ∨ p = 4 := by omega
  rcases this with rfl | rfl | rfl <;> decide
 have eg : ∀ args w, (callFunc 326 args).run prog w = .ok (.enter 326 args) w := enters_of func326 (by kernel_rfl) rfl
 have hs : St w (w.heap.size + 1 + 1) ((w.alloc (.cells #[.int .i64 p] 2)).alloc (.cells #[.int .i64 0, .slice none 0 0] 48)) [(w.heap.size, #[.int .i64 p], 2), (w.heap.size + 1, #[.int .i64 0, .slice none 0 0], 48)] :=
  ((St.start w).alloc _ _ rfl).alloc _ _ (by simp)
 go_enter func271, ntmps271
 go_wp2_with fail
 refine (ahT p 3 326 _ (ED p) _ (by omega) (by omega) (by omega) (by omega) hq eg (OE p _ w.heap.size (hs.c 0 0) (by omega) (by omega))).mono ?_
 rintro e w1 ⟨v, rfl, fr, hb1⟩
 have hs1 := hs.step hb1
 obtain ⟨a, c, rfl, _⟩ := ah fr.rd
 obtain ⟨r0, r1⟩ := hs1.c2 1 0 1 1
 have f0 := hs1.aC 1 rfl 0
 have f1 := hs1.aC 1 rfl 1
 go_wp2
 refine bodyPost_ret (v := .agg #[.int .i64 3, .slice a _ c]) (by simp [results, results271, go_sem, r0, r1, f0, f1]) rfl ⟨_, rfl, hs1.fin2 (by simp) (by simp) (by simp) fr _ _ _ _⟩
theorem QM (p : Int) (w : World) (hp : 1 < p) (hp2 : p ≤ 4) :
 Calls prog 260 #[.int .i64 p] w fun e w' => ∃ v, e = .returned (.agg #[.int .i64 3, v]) ∧ aQ w.heap.size w' [v] (kV (ED p) p 3 (p ^ 3).toNat) ∧ Below w.heap.size w w' := by
 obtain ⟨N, hN, Ug, hpp, axz⟩ : ∃ N : Nat, p * p * p = N ∧ (p ^ 3).toNat = N ∧ p * p ≤ 16 ∧ 0 ≤ p * p := by
  have : p = 2 ∨ p = 3 ∨ p = 4 := by omega
  rcases this with rfl | rfl | rfl
  · exact ⟨8, by decide, by decide, by decide, by decide⟩
  · exact ⟨27, by decide, by decide, by decide, by decide⟩
  exact ⟨64, by decide, by decide, by decide, by decide⟩
 have hN3 : N ≤ 1000 := by
  have : p = 2 ∨ p = 3 ∨ p = 4 := by omega
  rcases this with rfl | rfl | rfl <;> omega
 rw [Ug]
 clear Ug
 have hs0 : St w (w.heap.size + 1 + 1) ((w.alloc (.cells #[.int .i64 0, .slice none 0 0] 48)).alloc (.cells #[.int .i64 3, .slice none 0 0] 48)) [(w.heap.size, #[.int .i64 0, .slice none 0 0], 48), (w.heap.size + 1, #[.int .i64 3, .slice none 0 0], 48)] :=
  ((St.start w).alloc _ _ rfl).alloc _ _ (by simp)
 go_enter func260, ntmps260
 go_wp2_with fail
 go_loopw [4, 5] (fun i _ wr => ∃ (k c : Nat) (a : Option Addr), k ≤ N ∧ i = .int .i64 k ∧ Hid (St w (w.heap.size + 2) wr [(w.heap.size, #[.int .i64 0, .slice none 0 0], 48), (w.heap.size + 1, #[.int .i64 3, .slice a k c], 48)]) ∧
  Hid (Acc (w.heap.size + 2) wr.heap.size 2 wr (.slice a k c) (kV (ED p) p 3 k))) (fun i _ _ => N - (intOf i).toNat)
 case atStart =>
  refine ⟨0, 0, none, Nat.zero_le _, rfl, hs0, ?_⟩
  simpa [Hid, kV] using Acc.nil (α := Int) _ _ _ _
 obtain ⟨k, c, a, hk, rfl, hst, hacc⟩ := hrel
 have hS := hst.out.hi
 by_cases hlt : k < N
 rotate_left
 · obtain rfl : k = N := by omega
   obtain ⟨r0, r1⟩ := hst.out.c2 0 0 0 1
   have f0 := hst.out.aC 0 rfl 0
   have f1 := hst.out.aC 0 rfl 1
   obtain ⟨p0, p1⟩ := hst.out.c2 1 0 1 1
   go_wp2
   refine bodyPost_ret (v := .agg #[.int .i64 3, .slice a k c]) (by simp [results, results260, go_sem, r0, r1, f0, f1]) rfl ⟨_, rfl, hst.out.fin2 (by simp) (by simp) (by simp) hacc.out.fresh _ _ _ _⟩
 go_wp2_with (go_at_call 261; refine (zO p 3 k _ (by omega) (by omega) (by omega) (by omega) (by omega) (by omega)).mono ?_; rintro e w1 ⟨v1, rfl, Gy, hb1⟩)
 have hst1 := hst.out.step hb1
 have afI := hacc.out.mono hb1
 obtain ⟨a1, c1, rfl, h1⟩ := ah Gy.rd
 have hl1 : (eu p 3 (k : Int)).length = 3 := iH _ _ _
 rw [show Int.toNat 3 = 3 from rfl] at *
 obtain ⟨b0, o0, rfl, q0, _⟩ := eF h1 0 (by omega)
 obtain ⟨b1, o1, e1, q1, _⟩ := eF h1 1 (by omega)
 obtain ⟨b2, o2, e2, q2, _⟩ := eF h1 2 (by omega)
 simp only [Option.some.injEq, Addr.mk.injEq, and_true] at e1 e2
 obtain ⟨rfl, rfl⟩ := e1
 obtain ⟨rfl, rfl⟩ := e2
 rw [Nat.add_zero] at q0
 have hb0 := Gy.block (by intro h; rw [h] at hl1; cases hl1)
 have m0 := kK p (by omega) 3 k _ (uo (by omega : 0 < _))
 have m1 := kK p (by omega) 3 k _ (uo (by omega : 1 < _))
 have m2 := kK p (by omega) 3 k _ (uo (by omega : 2 < _))
 have hF := OD p (by omega) (eu p 3 k)
 have HA : Hid (ED p (eu p 3 k) = ((eu p 3 (k : Int)).getD 0 0 - (eu p 3 (k : Int)).getD 1 0 + (eu p 3 (k : Int)).getD 2 0) % p) := rfl
 rw [hl1]
 generalize hx : (eu p 3 (k : Int)).getD 0 0 = x at *
 generalize hy : (eu p 3 (k : Int)).getD 1 0 = y at *
 generalize hz : (eu p 3 (k : Int)).getD 2 0 = z at *
 generalize ht : ED p (eu p 3 (k : Int)) = t at *
 have HX := qH ht
 clear hx hy hz h1 ht hl1
 have q3 := hst1.c 1 1
 have HW := qH hst1
 have HQ := qH afI
 clear hst1 afI
 go_wp2
 refine BG (fun w' => cV w' (w.heap.size + 1) 1 (.slice a k c) ∧ cI w' b0 o0 x ∧ cI w' b0 (o0 + 1) y ∧ cI w' b0 (o0 + 2) z) [(0, 0), (1, 0), (2, 0), (3, 0), (4, 0), (5, 0), (6, 0), (7, 0), (8, 0), (9, 0), (10, 0), (11, 0), (12, 0), (13, 0), (14, 1), (15, 1), (16, 1), (17, 0), (18, 2)] ?_ ?_
 · exact ⟨q3, q0, q1, q2⟩
 refine nH ?_
 refine wU fun K hK => ?_
 go_wp2_with (go_at_call 262; refine (wV _ _ _ (by omega) (by omega)).mono ?_; rintro e w2 ⟨rfl, rfl⟩)
 refine ⟨⟨q3, q0, q1, q2⟩, ?_⟩
 refine nH ?_
 refine wU fun K hK => ?_
 go_wp2_with fail
 have BQ := (belowD w1).trans (aB w1.drew (.cells #[.int .i64 ((x - y + z) % p)] 2))
 have hst2 := HW.out.step BQ
 have al9 := HQ.out.mono BQ
 refine ⟨(jc BQ q3 q0 q1 q2:), ?_⟩
 refine wU fun K hK => ?_
 refine iq _ _ _ _ rfl eH rfl al9 (Jc (n := (x - y + z) % p) (jf _ (by rw [← HA.out]; omega) (by rw [← HA.out]; omega))) hS (Nat.le_trans hb1.size BQ.size) ⟨w1.heap.size, 0, none⟩ 1 rfl (World.news_of_block (cs := #[.int .i64 ((x - y + z) % p)]) (heap_alloc_new w1 _)) (by simp; omega) ?_
 intro a3 c3 w3 QL hb3 hkp
 simp only [zY] at QL ⊢
 have hst3 := hst2.qA hb3
 have q4 := hst3.c 1 1
 have f4 := hst3.aC 1 rfl 1
 have hkb := hkp b0 hb0.1 (Nat.lt_of_lt_of_le hb0.2 BQ.size)
 refine hK _ _ ⟨⟨q4, uw (qC BQ q0) hkb, uw (qC BQ q1) hkb, uw (qC BQ q2) hkb⟩, ?_⟩
 clear hK
 refine nH ?_
 refine XU fun K hK => ?_
 go_wp2
 refine elN ?_
 go_wp2
 go_roundw
 case rel =>
  refine ⟨k + 1, c3, a3, by omega, by go_num, (hst3.set (p := [_]) (by simp) 1 (.slice a3 (k + 1) c3)), ?_⟩
  have h6 := QL.setCell (a := ⟨w.heap.size + 1, 1, none⟩) (by simp) (.slice a3 (k + 1) c3)
  rw [← HA.out, ← HX.out, ← Du] at h6
  exact h6.up (by simp [World.setCell])
 simp [intOf]; omega
theorem QN {p : Int} (h : sW p = true) : Ey p (Me p) = true := by
 rcases lH h with rfl | rfl <;> decide
def kN (p : Int) (r : bH) : Bool := decide (0 < r.2.length) && kU p (Me p) r
theorem afJ {w : World} {v : Value} {k : Int} {tb : List Int} (hk : I64 k) (h : Rd w [v] tb) : Rd w [.int .i64 k, v] (k, tb) := ⟨[.int .i64 k], [v], rfl, ⟨rfl, hk⟩, h⟩
theorem QO (p : Int) (r : bH) (v0 v1 : Value) (w : World) (hr : Rd w [v0, v1] r) (hp : sW p = true) (hrk : fJ p r = true) :
 Calls prog 150 #[.int .i64 p, .agg #[v0, v1]] w fun e w' => e = .returned (.bool (kN p r)) ∧ Below w.heap.size w w' := by
 obtain ⟨ar, l⟩ := r
 have hp2 : p = 2 ∨ p = 3 := lH hp
 have hok := QN hp
 have hA : kN p (ar, l) = (decide (0 < l.length) && kU p (Me p) (ar, l)) := rfl
 have CA := fun (W : World) => UF p W (by omega) (by omega)
 unfold Me at hok hA
 generalize hT : kV (ED p) p 3 (p ^ 3).toNat = tb at *
 have vW := qH hok
 have HA := qH hA
 have CA := qH CA
 have Ti := qH hrk
 clear hT hok hA hp hrk
 have HR := qH hr
 have z60 := au rfl hr
 obtain ⟨rfl, ahq⟩ := aG z60.1
 obtain ⟨a, c, rfl, hRl⟩ := ah z60.2
 clear hr z60
 have hb0 := (aN hRl).2
 unfold maxLen at hb0
 clear hRl
 have Jd := (St.start w).alloc #[.int .i64 ar, .slice a l.length c] 118 (n := w.heap.size) (by simp)
 obtain ⟨aF, aH⟩ := Jd.c2 0 0 0 1
 go_enter func150, ntmps150
 by_cases hl : l.length = 0
 · have HD := qH (show decide (0 < l.length) = false by simp [hl])
   have H1 := qH (show kN p (ar, l) = false by rw [HA.out, HD.out, Bool.false_and])
   clear hl
   go_upto_region 1 with fail
   refine iT (fun w' => cI w' w.heap.size 0 ar ∧ cV w' w.heap.size 1 (.slice a l.length c)) (.z [0,1,2,3,4,5,6,8] (.hard 7 (.hard 9 (.z [10,11] .nil)))) ?_ ?_
   · exact (Jd.drew).c2 0 0 0 1
   have hs62 := Jd.drew
   clear aF aH
   have aov : w.heap.size + 1 ≤ ((w.alloc (.cells #[.int .i64 ar, .slice a l.length c] 118)).drew).heap.size := by simp
   generalize (w.alloc (.cells #[.int .i64 ar, .slice a l.length c] 118)).drew = axA at *
   refine aV ?_
   (try (rw [HD.out]; refine aV ?_))
   refine eG rfl (by rfl) ?_ ?_
   · exact hs62.c2 0 0 0 1
   (try simp only [Act.put, sI, sZ, sS])
   refine aV ?_
   (try (rw [HD.out]; refine aV ?_))
   refine eG rfl (by rfl) ?_ ?_
   · exact hs62.c2 0 0 0 1
   (try simp only [Act.put, sI, sZ, sS])
   refine aV ?_
   (try (rw [HD.out]; refine aV ?_))
   obtain ⟨aF, aH⟩ := hs62.c2 0 0 0 1
   refine iF ?_
   go_wp2_with fail
   go_ret
   exact ⟨ak H1.out.symm, hs62.bel⟩
 have HD := qH (show decide (0 < l.length) = true by simp; omega)
 have H1 := qH (show kN p (ar, l) = kU p (3, tb) (ar, l) by rw [HA.out, HD.out, Bool.true_and])
 clear hl
 go_upto_region 1 with fail
 refine iT (fun w' => cI w' w.heap.size 0 ar ∧ cV w' w.heap.size 1 (.slice a l.length c)) (.z [0,1,2,3,4,5,6,8] (.hard 7 (.hard 9 (.z [10,11] .nil)))) ?_ ?_
 · exact (Jd.drew).c2 0 0 0 1
 have Yx := Jd.drew
 clear aF aH
 have aow : w.heap.size + 1 ≤ ((w.alloc (.cells #[.int .i64 ar, .slice a l.length c] 118)).drew).heap.size := by simp
 generalize (w.alloc (.cells #[.int .i64 ar, .slice a l.length c] 118)).drew = aq6 at *
 refine aV ?_
 (try (rw [HD.out]; refine aV ?_))
 refine gX fun K hK => ?_
 go_wp2_with (go_at_call 271; refine (CA.out _).mono ?_; rintro e w66 ⟨v3, rfl, fr3, afK⟩)
 have aq7 : aq6.heap.size ≤ w66.heap.size := hZ afK
 have QS := Yx.step afK
 obtain ⟨a3, c3, rfl, _⟩ := ah fr3.rd
 have D8 := qH (afJ (k := 3) ⟨by decide, by decide⟩ fr3.rd)
 clear fr3
 refine ⟨(QS.c2 0 0 0 1), ?_⟩
 refine aV ?_
 (try (rw [HD.out]; refine aV ?_))
 refine gX fun K hK => ?_
 go_wp2_with (go_at_call 270; refine (ad8 p (3, tb) (ar, l) _ _ _ _ _ D8.out (Rd.mono HR.out QS.bel) vW.out Ti.out).mono ?_; rintro e w68 ⟨rfl, afL⟩)
 have aq8 : w66.heap.size ≤ w68.heap.size := hZ afL
 have ahU := QS.step afL
 clear D8
 refine ⟨(ahU.c2 0 0 0 1), ?_⟩
 refine aV ?_
 (try (rw [HD.out]; refine aV ?_))
 obtain ⟨aF, aH⟩ := ahU.c2 0 0 0 1
 refine iF ?_
 go_wp2_with fail
 go_ret
 exact ⟨ak H1.out.symm, ahU.bel⟩
theorem aec (p : Int) (r : bH) (pb po : Nat) (v0 v1 : Value) (w : World) (hr : Rd w [v0, v1] r) (d0 : w.cell? ⟨pb, po, none⟩ = some v0) (d1 : w.cell? ⟨pb, po + 1, none⟩ = some v1) (hp : sW p = true) (hrk : fJ p r = true) :
 Calls prog 140 #[.int .i64 p, .pointer (some ⟨pb, po, none⟩)] w fun e w' => e = .returned (.bool (kN p r)) ∧ Below w.heap.size w w' := by
 obtain ⟨ar, l⟩ := r
 have hp2 : p = 2 ∨ p = 3 := lH hp
 have hok := QN hp
 have hA : kN p (ar, l) = (decide (0 < l.length) && kU p (Me p) (ar, l)) := rfl
 have CA := fun (W : World) => QM p W (by omega) (by omega)
 unfold Me at hok hA
 generalize hT : kV (ED p) p 3 (p ^ 3).toNat = tb at *
 have vW := qH hok
 have HA := qH hA
 have CA := qH CA
 have Ti := qH hrk
 have HD0 := qH d0
 clear hT hok hA hp hrk d0
 have HR := qH hr
 have z71 := au rfl hr
 obtain ⟨rfl, ahq⟩ := aG z71.1
 obtain ⟨a, c, rfl, hRl⟩ := ah z71.2
 clear hr z71
 have hb0 := (aN hRl).2
 unfold maxLen at hb0
 clear hRl
 have QK := qC (St.start w).bel d1
 go_enter func140, ntmps140
 go_wp2_with fail
 refine (CA.out _).mono ?_
 rintro e w72 ⟨v3, rfl, fr3, afM⟩
 have ara : w.heap.size ≤ w72.heap.size := hZ afM
 have arb := (St.start w).step afM
 clear QK
 obtain ⟨a3, c3, rfl, _⟩ := ah fr3.rd
 have D8 := qH (afJ (k := 3) ⟨by decide, by decide⟩ fr3.rd)
 clear fr3
 have EC := arb.alloc #[.int .i64 3, .slice a3 tb.length c3] 48 (n := w72.heap.size) (by simp)
 have aaL := qH (Rd.mono D8.out (aB _ (.cells #[.int .i64 3, .slice a3 tb.length c3] 48)))
 clear D8
 obtain ⟨aF, aH⟩ := EC.c2 0 0 0 1
 have QK := qC EC.bel d1
 by_cases hl : l.length = 0
 · have hd : ¬ ((0 : Int) < l.length) := by omega
   have H1 := qH (show kN p (ar, l) = false by rw [HA.out, decide_eq_false (by omega), Bool.false_and])
   have hl0 : l.length = 0 := hl
   clear hl
   go_wp2_with fail
   go_ret
   exact ⟨ak H1.out.symm, EC.bel⟩
 have hd : (0 : Int) < l.length := by omega
 have H1 := qH (show kN p (ar, l) = kU p (3, tb) (ar, l) by rw [HA.out, decide_eq_true (by omega), Bool.true_and])
 clear hl
 go_wp2_with fail
 refine (UE p (3, tb) (ar, l) _ _ pb po _ _ _ _ _ aaL.out (EC.c 0 0) (EC.c 0 1) (Rd.mono HR.out EC.bel) (qC EC.bel HD0.out) (qC EC.bel d1) vW.out Ti.out).mono ?_
 rintro e w76 ⟨rfl, afN⟩
 have ard : w72.heap.size + 1 ≤ w76.heap.size := hZ afN
 have ahV := EC.step afN
 clear aaL
 clear aF aH QK
 obtain ⟨aF, aH⟩ := ahV.c2 0 0 0 1
 have QK := qC ahV.bel d1
 go_wp2_with fail
 go_ret
 exact ⟨ak H1.out.symm, ahV.bel⟩
end Go.Proofs.YtoblfnoaepbhfaaGreat
