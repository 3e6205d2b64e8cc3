import Derived.Test.YtpkdiiagnplpkaaGreatTmplBQm
import Derived.Test.YtpkdiiagnplpkaaGreatRowsBQm
import Derived.Lib.BufferMore
import Derived.Test.YtpkdiiagnplpkaaGreatRowBQm
import Derived.Shelf.Abstract
import Derived.Deep.RegionHeld3
import Derived.Test.YtpkdiiagnplpkaaGreatBaseQm
set_option linter.unusedSimpArgs false
set_option linter.unusedVariables false
set_option maxHeartbeats 16000000
set_option maxRecDepth 100000
namespace Go.Proofs.YtpkdiiagnplpkaaGreat
open Go.RowKit Go.Shelf Go.IntWalk
open Rep (Rd Own sz)
theorem part_set {α : Type} {R : List α} {d : α} {p : Nat} (h : p < R.length) : (R.take p ++ List.replicate (R.length - p) d).set p R[p] = R.take (p + 1) ++ List.replicate (R.length - (p + 1)) d := by
 rw [List.set_append_right _ _ (by simp; omega), show p - (R.take p).length = 0 by simp; omega, show R.length - p = (R.length - (p + 1)) + 1 by omega, List.replicate_succ, sZ, List.take_succ_eq_append_getElem h, List.append_assoc]
 rfl
theorem rd_hdrs {w : World} {a : Option Addr} {c : Nat} {l : List (List Int)} (h : RdSl w a c l) (h0 : 0 < l.length) : ∃ (b o : Nat) (vh : Nat → Value), a = some ⟨b, o, none⟩ ∧ ∀ q (hq : q < l.length), w.cell? ⟨b, o + q, none⟩ = some (vh q) ∧ Rd w [vh q] l[q] := by
 obtain ⟨b, o, u, rfl, _, _⟩ := rdSl_one rfl h 0 h0
 have key : ∀ q, ∃ v, ∀ hq : q < l.length, w.cell? ⟨b, o + q, none⟩ = some v ∧ Rd w [v] l[q] := by
  intro q
  by_cases hq : q < l.length
  · obtain ⟨b', o', v, e, hc, hr⟩ := rdSl_one rfl h q hq
    simp only [Option.some.injEq, Addr.mk.injEq, and_true] at e
    obtain ⟨rfl, rfl⟩ := e
    exact ⟨v, fun _ => ⟨hc, hr⟩⟩
  · exact ⟨.bool false, fun h => absurd h hq⟩
 exact ⟨b, o, fun q => (key q).choose, rfl, fun q hq => (key q).choose_spec hq⟩
theorem rd_of_row1 {w : World} {e : TypeId} {g n c : Nat} {xs : List Value} {l : List (List Int)} (h : w.ownsRow 0 e 1 (.slice (some ⟨g, 0, none⟩) n c) n xs) (hn : n = l.length) (hel : ∀ i (hi : i < l.length), ∃ v, xs[i]? = some v ∧ Rd w [v] l[i]) : Rd w [.slice (some ⟨g, 0, none⟩) n c] l := by
 subst hn
 rcases h.2 with ⟨e0, _⟩ | ⟨g', cap, cur, e1, _, hh, hc, hm, hs, ht⟩
 · cases e0
 simp only [Value.slice.injEq, Option.some.injEq, Addr.mk.injEq, and_true, true_and] at e1
 obtain ⟨rfl, rfl⟩ := e1
 refine ⟨_, _, rfl, hc, hm, fun i hi => ?_⟩
 obtain ⟨v, hv, hr⟩ := hel i hi
 refine ⟨g, 0, [v], rfl, hr, fun k hk => ?_⟩
 obtain rfl : k = 0 := by simpa using hk
 rw [cell_at_block hh]
 rw [← ht] at hv
 have : i < l.length * 1 := by omega
 simp only [List.getElem?_take, if_pos this] at hv
 simpa [sz] using hv
theorem ownSl_bool {g : Nat} {w : World} {v : Value} {l : List Bool} (h : OwnSl [g] w v l) (i : Nat) (hi : i < l.length) :
 ∃ o c, v = .slice (some ⟨g, o, none⟩) l.length c ∧ w.cell? ⟨g, o + i, none⟩ = some (.bool l[i]) ∧ w.frozen? ⟨g, o + i, none⟩ = false ∧
  ∀ x, OwnSl [g] (w.setCell ⟨g, o + i, none⟩ (.bool x)) v (l.set i x) := by
 obtain ⟨g', o, c, cur, e, p, vs, hv, hg, hO, hc, hgp, hgn, hpn, hpp, hput⟩ := own_elem h (by simp) i hi
 obtain rfl : g' = g := by simpa using hgp
 obtain ⟨rfl, rfl⟩ := hO
 have hci := hc 0 (by simp)
 simp at hci
 refine ⟨o, c, hv, by rw [cell_at_block hg]; exact hci, free_at_block hg, fun x => ?_⟩
 refine hput _ [.bool x] x ?_ ⟨rfl, rfl⟩ (fun z hz _ hzg => ?_)
 · rw [heap_setCell_at _ _ _ _ _ _ _ hg]; simp [putArr, sz]
 · exact Below.heap_setCell _ _ _ _ hzg
theorem made_c (size : Int) (f : OpT) (ts : List (List Int)) (ar : Nat) (v0 v1 vt : Value) (w : World) (hf : Rd w [v0, v1] f) (ht : Rd w [vt] ts) (hok : opOk size f = true) (hlen : (ts.length : Int) = f.1) (hv : ∀ t, t ∈ ts → t.length = ar ∧ Val size t) (har : ar ≤ 1000) :
 Calls Tryz.prog 208 #[.int .i64 size, .agg #[v0, v1], vt] w fun e w' => ∃ v, e = .returned v ∧ Fresh w.heap.size w' [v] (makeT size f ts ar) ∧ Below w.heap.size w w' := by
 have hs := (opOk_get hok).1
 have hfa := (opOk_get hok).2.1
 have hR : (makeT size f ts ar).length = ar := by simp [makeT]
 have HRP := qH (fun (p : Nat) (hp : p < (makeT size f ts ar).length) => show (makeT size f ts ar)[p] = valOf size f (ts.map (fun t => t.getD p 0)) by simp [makeT])
 have HMV := qH (make_val hok hlen hv).2.2
 generalize hRR : makeT size f ts ar = R at *
 clear hRR
 have HOK := qH hok
 have HLEN := qH hlen
 have HV := qH hv
 have zf := rd_cons rfl hf
 obtain ⟨rfl, _⟩ := rd_i1 zf.1
 obtain ⟨af, cf, rfl, _⟩ := rd_list zf.2
 have HFT := qH zf.2
 obtain ⟨a, c, rfl, htr⟩ := rd_list ht
 have HT := qH htr
 have hl3 : ts.length ≤ 3 := by omega
 have hl0 : 0 < ts.length := by omega
 obtain ⟨b, o, u0, rfl, q0, hx0⟩ := rdSl_one rfl htr 0 hl0
 obtain ⟨a0, c0, rfl, _⟩ := rd_list hx0
 have hA0 := (hv _ (List.getElem_mem hl0)).1
 rw [hA0, Nat.add_zero] at q0
 clear hok hf ht htr zf hx0 hv hlen
 have q0_ := qC (St.start w).bel q0
 have hs1 := (St.start w).alloc #[.int .i64 f.1, .slice af f.2.length cf] 48 (n := w.heap.size) (by simp)
 clear q0_
 obtain ⟨k0_0, k0_1⟩ := hs1.c2 0 0 0 1
 have q0_ := qC hs1.bel q0
 have HS0 := qH hs1
 go_enter Tryz.func208, Tryz.ntmps208
 go_wp2_with (at_make; refine wpList_make_rep _ rfl _ _ 28 rfl E_ints (0 : Int) own0_int ar (by omega) rfl rfl ?_; intro w1 hown hb1 hs1)
 rw [show (w.alloc (.cells #[.int .i64 f.1, .slice af f.2.length cf] 48)).heap.size = w.heap.size + 1 by simp] at hown hb1 hs1
 have HO := qH hown
 have hst1 := HS0.out.step (w1 := w1) (by simpa using hb1)
 have HST := qH hst1
 have hsz1 : w.heap.size + 2 ≤ w1.heap.size := by omega
 clear hown hb1 hs1 hst1 k0_0 k0_1 q0_ HS0
 go_wp2_with fail
 go_loopw [19] (fun i wr => ∃ p : Nat, p ≤ ar ∧ i = .int .i64 p ∧ Hid (OnlyAt [w.heap.size + 1] w1 wr) ∧ Hid (OwnSl [w.heap.size + 1] wr (.slice (some ⟨w.heap.size + 1, 0, none⟩) ar ar) (R.take p ++ List.replicate (ar - p) 0))) (fun i _ => ar - (intOf i).toNat)
 case atStart => exact ⟨0, Nat.zero_le _, rfl, OnlyAt.refl _ _, by simpa [Hid] using HO.out⟩
 case round =>
  clear HO
  obtain ⟨p, hp, rfl, ho, hw⟩ := hrel
  have hst2 := HST.out.butIv (OnlyAt.but ho.out) (fun z hz => by simp at hz; omega) (fun x hx hz => by simp at hx hz; subst hx; simp at hz)
  obtain ⟨k0_0, k0_1⟩ := hst2.c2 0 0 0 1
  have q0_ := qC hst2.bel q0
  by_cases hlt : p < ar
  · have hltI : (p : Int) < ar := by omega
    have HAV := qH (show ∀ a, a ∈ ts.map (fun t => t.getD p 0) → 0 ≤ a ∧ a ≤ size - 1 from HMV.out p hlt)
    obtain ⟨K, hK, e1, e2, -, -, e5, e6⟩ := valOf_at (args := ts.map (fun t => t.getD p 0)) HOK.out (by simpa using HLEN.out) HAV.out
    have HCK := qH e1
    have HVK := qH (show ∀ h : p < R.length, R[p] = f.2[K] from fun h => by rw [HRP.out p h, e2])
    obtain ⟨bf, of, ef, qf, hIf⟩ := rd_int_at (Rd.mono HFT.out hst2.bel) K hK
    have HIF := qH hIf
    have HP6 := qH e6
    clear e1 e2 e6 hIf
    subst ef
    go_wp2_with fail
    go_loop [9, 24] (fun q i => ∃ (k : Nat) (Q : Int), k ≤ ts.length ∧ i = .int .i64 k ∧ q = .int .i64 Q ∧ Hid (Q = codeL size ((ts.map (fun t => t.getD p 0)).take k))) (fun _ i => ts.length - (intOf i).toNat)
    case atStart => exact ⟨0, 0, Nat.zero_le _, rfl, rfl, rfl⟩
    case round =>
     obtain ⟨k, Q, hk, rfl, rfl, hq⟩ := hrel
     by_cases hklt : k < ts.length
     · have hkl : (k : Int) < ts.length := by omega
       obtain ⟨b2, o2, u2, e3, q2, hx2⟩ := rdSl_one rfl (rdSl_mono hst2.bel HT.out) k hklt
       simp only [Option.some.injEq, Addr.mk.injEq, and_true] at e3
       obtain ⟨rfl, rfl⟩ := e3
       have hTL := HV.out _ (List.getElem_mem hklt)
       obtain ⟨a2, c2, rfl, _⟩ := rd_list hx2
       obtain ⟨b4, o4, rfl, q4, _⟩ := rd_int_at hx2 p (by rw [hTL.1]; exact hlt)
       rw [hTL.1] at q2
       have hst := codeL_step hs.1 HAV.out (by have := HP6.out; omega) (k := k) (by simpa using hklt)
       have HCT := qH (codeL_take (size := size) (l := ts.map (fun t => t.getD p 0)) (k := k) (by simpa using hklt))
       have he : (ts.map (fun t => t.getD p 0))[k]'(by simpa using hklt) = ts[k][p]'(by rw [hTL.1]; exact hlt) := by simp [List.getD, hTL.1, hlt]
       rw [he, ← hq.out] at hst
       have HQ2 := qH (show Q * size + ts[k][p]'(by rw [hTL.1]; exact hlt) = codeL size ((ts.map (fun t => t.getD p 0)).take (k + 1)) by rw [HCT.out, he, hq.out])
       clear HCT he hx2
       generalize ts[k][p]'(by rw [hTL.1]; exact hlt) = Y at *
       obtain ⟨g1, g2, g3, g4, g5⟩ := hst
       go_wp2_with fail
       go_round
       case rel => exact ⟨k + 1, Q * size + Y, by omega, by go_num, rfl, HQ2.out⟩
       case measure => simp [intOf]; omega
     · obtain rfl : k = ts.length := by omega
       have hQK : Q = (K : Int) := by rw [hq.out, ← HCK.out, List.take_of_length_le (by simp)]
       subst hQK
       have hKl : (K : Int) < f.2.length := by omega
       obtain ⟨g9, o9, c9, hv9, hps9, hcd9, hf9, hset9⟩ := ownSl_int hw.out p (by simp; omega)
       simp only [Value.slice.injEq, Option.some.injEq, Addr.mk.injEq] at hv9
       obtain ⟨⟨rfl, rfl, -⟩, -, rfl⟩ := hv9
       rw [Nat.zero_add] at hcd9 hf9
       generalize (R.take p ++ List.replicate (ar - p) 0).getD p 0 = Z9 at hcd9
       have HR9 := qH hR
       clear hR
       have HS9 := qH (hset9 (f.2[K]) HIF.out)
       rw [Nat.zero_add] at HS9
       have HPS := qH (part_set (R := R) (d := (0 : Int)) (p := p) (by have := HR9.out; omega))
       have HO9 := qH (ho.out.setCell (p := ⟨w.heap.size + 1, p, none⟩) (by simp) (.int .i64 f.2[K]))
       clear hset9 hps9
       go_wp2_with fail
       go_roundw
       case rel =>
        refine ⟨p + 1, by omega, by go_num, HO9.out, ?_⟩
        have h5 := HS9.out
        have h6 := HPS.out
        rw [HVK.out (by have := HR9.out; omega)] at h6
        rw [HR9.out] at h6
        rw [h6] at h5
        exact h5
       case measure => simp [intOf]; omega
  · obtain rfl : p = ar := by omega
    have hnl : ¬ ((p : Int) < p) := by omega
    go_wp2_with fail
    go_ret
    refine ⟨_, rfl, ⟨[w.heap.size + 1], ⟨_, rfl, ?_⟩, by simp, by simp⟩, hst2.bel⟩
    have h5 := hw.out
    rw [List.take_of_length_le (by omega), Nat.sub_self, List.replicate_zero, List.append_nil] at h5
    exact h5
theorem broken_c (size : Int) (f : OpT) (r : RelT) (f0 f1 r0 r1 : Value) (w : World) (hf : Rd w [f0, f1] f) (hr : Rd w [r0, r1] r) (hok : opOk size f = true) (hrk : relOk size r = true) :
 Calls Tryz.prog 194 #[.int .i64 size, .agg #[f0, f1], .agg #[r0, r1]] w fun e w' => ∃ (vl : Value) (ao : Option Addr) (n c : Nat), e = .returned (.tuple #[vl, .slice ao n c]) ∧ ao.isNone = keepsP size f r ∧ (ao = none → n = 0 ∧ c = 0) ∧ Below w.heap.size w w' := by
 obtain ⟨far, ftb⟩ := f
 obtain ⟨rar, ts⟩ := r
 have hs := (opOk_get hok).1
 have hfa := (opOk_get hok).2.1
 have hra := (relOk_get hrk).2.1
 have hcnt := relOk_count hrk
 have hp256 := pow256 hs hra
 simp only at hfa hra hcnt hp256
 have HVAL := qH (relOk_val hrk)
 have HOK := qH hok
 have HRK := qH hrk
 have HF := qH hf
 have zf := rd_cons rfl hf
 obtain ⟨rfl, _⟩ := rd_i1 zf.1
 obtain ⟨af, cf, rfl, _⟩ := rd_list zf.2
 have zr := rd_cons rfl hr
 obtain ⟨rfl, _⟩ := rd_i1 zr.1
 obtain ⟨a, c, rfl, htr⟩ := rd_list zr.2
 have hb0 := (rdSl_len htr).2
 unfold maxLen at hb0
 have HTR := qH htr
 clear hf hr zf zr hok hrk htr
 have hs2 := (St.start w).alloc #[.int .i64 far, .slice af ftb.length cf] 48 (n := w.heap.size) (by simp)
 obtain ⟨k0_0, k0_1⟩ := hs2.c2 0 0 0 1
 have hs3 := hs2.alloc #[.int .i64 rar, .slice a ts.length c] 87 (n := w.heap.size + 1) (by simp)
 clear k0_0 k0_1
 obtain ⟨k0_0, k0_1, k1_0, k1_1⟩ := hs3.c4 0 0 0 1 1 0 1 1
 obtain ⟨AR, rfl⟩ : ∃ x : Nat, rar = x := ⟨rar.toNat, by omega⟩
 obtain ⟨FA, rfl⟩ : ∃ x : Nat, far = x := ⟨far.toNat, by omega⟩
 simp only [Int.toNat_natCast] at hcnt hp256
 obtain ⟨PN, hPN⟩ : ∃ x : Nat, size ^ AR = (x : Int) := ⟨(size ^ AR).toNat, by omega⟩
 have HPN := qH hPN
 rw [hPN] at hcnt hp256
 clear hPN
 have HS0 := qH hs3
 go_enter Tryz.func194, Tryz.ntmps194
 go_wp2_with fail
 refine (power_c size AR _ (by omega) (by omega) (by omega) (by rw [Int.toNat_natCast, HPN.out]; omega)).mono ?_
 rintro e w4 ⟨rfl, rfl, rfl⟩
 rw [Int.toNat_natCast, HPN.out]
 by_cases hfull : ts.length = PN
 · have HK := qH (keeps_full HOK.out HRK.out (show ((ts.length : Nat) : Int) = size ^ ((AR : Int)).toNat by rw [Int.toNat_natCast, HPN.out, hfull]))
   have hfb : ((ts.length : Int) == (PN : Int)) = true := by simp [hfull]
   clear hfull
   go_wp2_with fail
   refine bodyPost_ret (v := .tuple #[.slice none 0 0, .slice none 0 0]) (by simp [results, Tryz.results194, go_sem]) rfl ⟨_, none, 0, 0, rfl, by rw [HK.out]; rfl, fun _ => ⟨rfl, rfl⟩, hs3.bel⟩
 · have hfb : ((ts.length : Int) == (PN : Int)) = false := by simp; omega
   clear hfull
   go_wp2_with fail
   refine (power_c size AR _ (by omega) (by omega) (by omega) (by rw [Int.toNat_natCast, HPN.out]; omega)).mono ?_
   rintro e w5 ⟨rfl, rfl, rfl⟩
   rw [Int.toNat_natCast, HPN.out]
   go_wp2_with (at_make; refine wpList_make_rep _ rfl _ _ 196 rfl E_bools false own0_bool PN (by omega) rfl rfl ?_; intro w1 hown hb1 hs1; have hst1 := hs3.step hb1; have p00 := hst1.c 0 0; have p01 := hst1.c 0 1; have p10 := hst1.c 1 0; have p11 := hst1.c 1 1)
   rw [show ((w.alloc (.cells #[.int .i64 FA, .slice af ftb.length cf] 48)).alloc (.cells #[.int .i64 AR, .slice a ts.length c] 87)).heap.size = w.heap.size + 1 + 1 by simp] at hown hs1
   have HO := qH hown
   have HST := qH hst1
   have hsz1 : w.heap.size + 1 + 1 + 1 ≤ w1.heap.size := by omega
   clear hown hb1 hs1 hst1 k0_0 k0_1 k1_0 k1_1 HS0 p00 p01 p10 p11
   go_wp2_with fail
   go_loopw [34] (fun i wl => ∃ k : Nat, k ≤ ts.length ∧ i = .int .i64 k ∧ Hid (OnlyAt [w.heap.size + 1 + 1] w1 wl) ∧ Hid (OwnSl [w.heap.size + 1 + 1] wl (.slice (some ⟨w.heap.size + 1 + 1, 0, none⟩) PN PN) (setTo size PN ts k))) (fun i _ => ts.length - (intOf i).toNat)
   case atStart => exact ⟨0, Nat.zero_le _, rfl, OnlyAt.refl _ _, HO.out⟩
   case round =>
    clear HO
    obtain ⟨k, hk, rfl, ho, hw⟩ := hrel
    have hst2 := HST.out.butIv (OnlyAt.but ho.out) (fun z hz => by simp at hz; omega) (fun x hx hz => by simp only [List.mem_singleton] at hz; simp at hx; rcases hx with rfl | rfl <;> (simp only at hz; omega))
    have hszr : w1.heap.size ≤ wr.heap.size := by rw [ho.out.size]; exact Nat.le_refl _
    have HSL := qH (setTo_len size PN ts k)
    obtain ⟨k0_0, k0_1, k1_0, k1_1⟩ := hst2.c4 0 0 0 1 1 0 1 1
    by_cases hlt : k < ts.length
    · have hltI : (k : Int) < ts.length := by omega
      obtain ⟨b, o, u0, rfl, q0, hx⟩ := rdSl_one rfl (rdSl_mono hst2.bel HTR.out) k hlt
      have HX := qH hx
      obtain ⟨a0, c0, rfl, _⟩ := rd_list hx
      have hvv := HVAL.out _ (List.getElem_mem hlt)
      have hcb := codeL_bd hs.1 ts[k] hvv.2
      rw [hvv.1, Int.toNat_natCast, HPN.out] at hcb
      have HVV := qH (show ∀ x, x ∈ ts[k] → 0 ≤ x ∧ x ≤ size - 1 from hvv.2)
      have HLN := qH hvv.1
      obtain ⟨C, hC⟩ : ∃ C : Nat, codeL size ts[k] = C := ⟨(codeL size ts[k]).toNat, by omega⟩
      have HC := qH hC
      rw [hC] at hcb
      have HSS := qH (show (setTo size PN ts k).set C true = setTo size PN ts (k + 1) by
       rw [setTo, show ts.getD k [] = ts[k] by simp [List.getD, hlt], HC.out, Int.toNat_natCast])
      clear hx hvv hC
      obtain ⟨o9, c9, hv9, hcd9, hf9, hset9⟩ := ownSl_bool hw.out C (by rw [HSL.out]; omega)
      simp only [Value.slice.injEq, Option.some.injEq, Addr.mk.injEq] at hv9
      obtain ⟨⟨-, rfl, -⟩, -, rfl⟩ := hv9
      rw [Nat.zero_add] at hcd9 hf9
      have HS9 := qH (hset9 true)
      rw [Nat.zero_add, HSS.out] at HS9
      have HO9 := qH (ho.out.setCell (p := ⟨w.heap.size + 1 + 1, C, none⟩) (by simp) (.bool true))
      have hCl : (C : Int) < PN := by omega
      generalize (setTo size PN ts k)[C]'(by rw [HSL.out]; omega) = B9 at hcd9
      clear hset9
      go_wp2_with fail
      refine (indexOf_c size ts[k] _ _ HX.out hs.1 HVV.out (by rw [HLN.out, Int.toNat_natCast, HPN.out]; omega)).mono ?_
      rintro e w3 ⟨rfl, rfl⟩
      rw [HC.out]
      go_wp2_with fail
      go_roundw
      case rel => exact ⟨k + 1, by omega, by go_num, HO9.out, HS9.out⟩
      case measure => simp [intOf]; omega
    · obtain rfl : k = ts.length := by omega
      have hnl : ¬ ((ts.length : Int) < ts.length) := by omega
      have hTOT : ts.length ^ FA ≤ 256 ^ 3 := Nat.le_trans (Nat.pow_le_pow_left hcnt.2 FA) (Nat.pow_le_pow_right (by omega) (by omega))
      have HTOT := qH (show ((ts.length : Int)) ^ FA = ((ts.length ^ FA : Nat) : Int) by simp)
      have HKP := qH (show keepsP size ((FA : Int), ftb) ((AR : Int), ts) = (List.range (ts.length ^ FA)).all (fun i => keepAt size ((FA : Int), ftb) ((AR : Int), ts) i) by unfold keepsP; simp)
      have HSM := qH (fun (t : List Int) (hl : t.length = AR) (ht : Val size t) => setTo_mem hs.1 (ar := AR) HPN.out.symm (x := ts) (fun t h => by have := HVAL.out t h; rw [Int.toNat_natCast] at this; exact this) hl ht)
      have HLS := qH (setTo_len size PN ts ts.length)
      have hFA0 : 0 < FA := by omega
      have HZ := qH (show ts.length = 0 → ts.length ^ FA = 0 from fun h => by rw [h]; exact Nat.zero_pow hFA0)
      generalize hTT : ts.length ^ FA = TOT at *
      clear hTT
      have HOW := qH hw.out
      go_wp2_with fail
      refine (power_c ts.length FA _ (by omega) (by omega) (by omega) (by rw [Int.toNat_natCast, HTOT.out]; omega)).mono ?_
      rintro e w6 ⟨rfl, rfl, rfl⟩
      rw [Int.toNat_natCast, HTOT.out]
      obtain ⟨wA, rfl⟩ : ∃ x, x = wr := ⟨_, rfl⟩
      go_wp2_with fail
      go_loopw [48] (fun i wl => ∃ k : Nat, k ≤ TOT ∧ i = .int .i64 k ∧ Hid (Below wA.heap.size wA wl) ∧ Hid (∀ j, j < k → keepAt size ((FA : Int), ftb) ((AR : Int), ts) j = true)) (fun i _ => TOT - (intOf i).toNat)
      case atStart => exact ⟨0, Nat.zero_le _, rfl, Below.refl _ _, fun j hj => absurd hj (Nat.not_lt_zero _)⟩
      case round =>
       obtain ⟨k, hk2, rfl, hbl, hr⟩ := hrel
       have hst3 := hst2.step hbl.out
       have HOB := qH (ownSl_mono HOW.out hbl.out)
       have hszB := hbl.out.size
       obtain ⟨k0_0, k0_1, k1_0, k1_1⟩ := hst3.c4 0 0 0 1 1 0 1 1
       by_cases hklt : k < TOT
       · have hkI : (k : Int) < TOT := by omega
         have hts0 : 0 < ts.length := by
          rcases Nat.eq_zero_or_pos ts.length with h | h
          · have := HZ.out h; omega
          · exact h
         have hstE := hst3.step (belowA wr (.cells #[] 28))
         obtain ⟨e00, e01, e10, e11⟩ := hstE.c4 0 0 0 1 1 0 1 1
         go_wp2_with fail
         refine (listOf_c ts.length FA k _ (by omega) (by omega) (by omega) (by omega) (by omega) (by omega)).mono ?_
         rintro e w3 ⟨vv, rfl, fr, hb3⟩
         rw [Int.toNat_natCast] at fr
         obtain ⟨av, cv, rfl, _⟩ := rd_list fr.rd
         have hAL := digs_length ts.length FA k
         have HAM := qH (digs_mem ts.length (by omega) FA k)
         have HKA := qH (show keepAt size ((FA : Int), ftb) ((AR : Int), ts) k = hasT ts (makeT size ((FA : Int), ftb) (pickT ts (digs ts.length FA k)) AR) by unfold keepAt; simp)
         generalize hAT : digs ts.length FA k = AT at *
         clear hAT
         rw [hAL] at fr
         have HAL := qH hAL
         have hbb := (belowA wr (.cells #[] 28)).trans (hb3.mono (by simp))
         have hz3 : wr.heap.size + 1 ≤ w3.heap.size := by have := hb3.size; simpa using this
         have HB3 := qH hbb
         have HROW := qH (ownsRow_below (row_made (size := 1) wr 28) hb3)
         have HAI := qH (show Ip (fun z => wr.heap.size + 1 ≤ z ∧ z < w3.heap.size) w3 [.slice av FA cv] AT from fr.ip.wk (fun z hz => by simpa using hz))
         have HOB3 := qH (ownSl_mono HOB.out hbb)
         have hst4 := hst3.step hbb
         obtain ⟨bT, oT, vh, rfl, HVH⟩ := rd_hdrs HTR.out hts0
         have HVH := qH HVH
         obtain ⟨wo, rfl⟩ : ∃ x, x = wr := ⟨_, rfl⟩
         rw [hAL]
         clear fr hb3 hbb hAL hstE e00 e01 e10 e11 k0_0 k0_1 k1_0 k1_1
         obtain ⟨k0_0, k0_1, k1_0, k1_1⟩ := hst4.c4 0 0 0 1 1 0 1 1
         go_wp2_with fail
         go_loopw [13, 58] (fun ll i wl => ∃ (q g' c' : Nat), q ≤ FA ∧ i = .int .i64 q ∧ ll = .slice (some ⟨g', 0, none⟩) q c' ∧ Hid (g' = wo.heap.size ∨ w3.heap.size ≤ g') ∧ Hid (ButP (fun z => z = wo.heap.size ∨ w3.heap.size ≤ z) w3 wl) ∧ Hid (wl.ownsRow 0 28 1 (.slice (some ⟨g', 0, none⟩) q c') q ((AT.take q).map (fun x => vh x.toNat)))) (fun _ i _ => FA - (intOf i).toNat)
         case atStart => exact ⟨0, wo.heap.size, 0, Nat.zero_le _, rfl, rfl, .inl rfl, ButP.refl _ _, by simpa [Hid] using HROW.out⟩
         case round =>
          clear HROW
          obtain ⟨q, g', c', hq, rfl, rfl, hg', hbp, hrow⟩ := hrel
          have hst5 := hst4.butP hbp.out (fun z hz => by omega) (fun x hx hz => by simp at hx; rcases hx with rfl | rfl <;> (simp only at hz; omega))
          have HAI5 := qH (Ip.butP HAI.out hbp.out (fun z hz hz2 => by omega))
          have hszC := hbp.out.size
          obtain ⟨k0_0, k0_1, k1_0, k1_1⟩ := hst5.c4 0 0 0 1 1 0 1 1
          by_cases hqlt : q < FA
          · have hqI : (q : Int) < FA := by omega
            obtain ⟨ba, oa, rfl, qa, _⟩ := rd_int_at HAI5.out.rd q (by rw [HAL.out]; exact hqlt)
            have hA := HAM.out _ (List.getElem_mem (show q < AT.length by rw [HAL.out]; exact hqlt))
            obtain ⟨n, hn⟩ : ∃ n : Nat, AT[q]'(by rw [HAL.out]; exact hqlt) = (n : Int) := ⟨(AT[q]'(by rw [HAL.out]; exact hqlt)).toNat, by omega⟩
            rw [hn] at hA qa
            have hnl : n < ts.length := by omega
            have hnI : (n : Int) < ts.length := by omega
            obtain ⟨hcn, hrn⟩ := HVH.out n hnl
            have hcn2 := qC hst5.bel hcn
            obtain ⟨ax, cx, hvx, _⟩ := rd_list hrn
            rw [hvx] at hcn2
            have HXS := qH (show (AT.take (q + 1)).map (fun x => vh x.toNat) = (AT.take q).map (fun x => vh x.toNat) ++ [.slice ax ts[n].length cx] by
             rw [List.take_succ_eq_append_getElem (show q < AT.length by rw [HAL.out]; exact hqlt), List.map_append, hn]
             simp [hvx])
            clear hcn hrn hvx hn
            go_wp2_with (at_builtin; refine wpList_append_row _ rfl _ _ _ rfl E_lists rfl (ownsRow_below hrow.out (belowA wr (.cells #[.slice ax ts[n].length cx] 28))) (v := .slice (some ⟨g', 0, none⟩) q c') (vs := [.slice ax ts[n].length cx]) rfl (fun u hu => by rw [List.mem_singleton] at hu; subst hu; rfl) ⟨wr.heap.size, 0, none⟩ 1 rfl (news1 (cell_at_block (heap_alloc_new _ _))) (by omega) ?_; intro g9 c9 w9 hg9 hrow9 hb9 hlt9)
            rw [← HXS.out] at hrow9
            have HR9 := qH hrow9
            have HG9 := qH (show g9 = wo.heap.size ∨ w3.heap.size ≤ g9 by
             rcases hg9 with h | h
             · simp only [Value.ownBlock, Option.some.injEq] at h
               subst h; exact hg'.out
             · simp at h; omega)
            have HB9 := qH ((hbp.out.trans (ButP.of (A := fun _ => False) (belowA wr (.cells #[.slice ax ts[n].length cx] 28))) (fun z h => h.elim)).trans (hb9.butP (A := fun z => z = g') (fun z hz => by simpa [Value.ownBlock] using hz)) (fun z hz => .inl (by subst hz; exact hg'.out)))
            clear hg9 hrow9 hb9 hlt9
            go_wp2_with fail
            go_roundw
            case rel => exact ⟨q + 1, g9, c9, by omega, by go_num, rfl, HG9.out, HB9.out, HR9.out⟩
            case measure => simp [intOf]; omega
          · obtain rfl : q = FA := by omega
            have hnq : ¬ ((q : Int) < q) := by omega
            have HPM := qH (pick_mem (x := ts) (l := AT) HAM.out)
            have HL := qH (show Rd wr [.slice (some ⟨g', 0, none⟩) q c'] (pickT ts AT) from rd_of_row1 hrow.out (by simp [pickT, HAL.out]) (fun i hi => by
             have hi2 : i < AT.length := by simpa [pickT] using hi
             have hA := HAM.out _ (List.getElem_mem hi2)
             have hnl : (AT[i]).toNat < ts.length := by omega
             refine ⟨vh (AT[i]).toNat, ?_, ?_⟩
             · rw [List.take_of_length_le (by rw [HAL.out]; exact Nat.le_refl _)]; simp [hi2]
             · rw [show (pickT ts AT)[i] = ts[(AT[i]).toNat] by simp [pickT, List.getD, hnl]]
               exact Rd.mono (HVH.out _ hnl).2 hst5.bel))
            have HOB5 := qH (own_list (Own.butP (vs := [Value.slice (some ⟨w.heap.size + 1 + 1, 0, none⟩) PN PN]) ⟨_, rfl, HOB3.out⟩ hbp.out (fun z hz hz2 => by rw [List.mem_singleton] at hz; omega)))
            have HTV := qH (show ∀ t, t ∈ pickT ts AT → t.length = AR ∧ Val size t from fun t ht => by have := HVAL.out t (HPM.out t ht); rwa [Int.toNat_natCast] at this)
            have HPL := qH (show ((pickT ts AT).length : Int) = ((q : Int), ftb).1 by simp [pickT, HAL.out])
            go_wp2_with fail
            refine (made_c size ((q : Int), ftb) (pickT ts AT) AR _ _ _ _ (Rd.mono HF.out hst5.bel) HL.out HOK.out HPL.out HTV.out (by omega)).mono ?_
            rintro e w7 ⟨vo, rfl, fro, hbw7⟩
            have hz_w7 : wr.heap.size ≤ w7.heap.size := by have h9 := hbw7.size; (try simp at h9); omega
            have hs8 := hst5.step hbw7
            have HOB5_9 := qH (ownSl_mono HOB5.out hbw7)
            clear HOB5
            clear k0_0 k0_1 k1_0 k1_1
            obtain ⟨k0_0, k0_1, k1_0, k1_1⟩ := hs8.c4 0 0 0 1 1 0 1 1
            have HMK := qH (make_val HOK.out HPL.out HTV.out)
            obtain ⟨ao, co, rfl, hmr⟩ := rd_list fro.rd
            have HFO := qH fro.rd
            clear fro
            generalize hMT : makeT size ((q : Int), ftb) (pickT ts AT) AR = MT at *
            clear hMT
            have hML := HMK.out.1
            obtain ⟨bo, oo, rfl, -, -⟩ := rd_int_at HFO.out 0 (by rw [hML]; omega)
            have hcb := codeL_bd hs.1 MT HMK.out.2.1
            rw [hML, HPN.out] at hcb
            obtain ⟨C, hC⟩ : ∃ C : Nat, codeL size MT = C := ⟨(codeL size MT).toNat, by omega⟩
            have HC := qH hC
            rw [hC] at hcb
            have HML := qH hML
            have hCl : C < (setTo size PN ts ts.length).length := by rw [HLS.out]; omega
            obtain ⟨o9, c9, hv9, hcd9, -, -⟩ := ownSl_bool HOB5_9.out C hCl
            simp only [Value.slice.injEq, Option.some.injEq, Addr.mk.injEq] at hv9
            obtain ⟨⟨-, rfl, -⟩, -, -⟩ := hv9
            rw [Nat.zero_add] at hcd9
            have HHT := qH (show (setTo size PN ts ts.length)[C] = hasT ts MT by
             have h := HSM.out MT HML.out HMK.out.2.1
             rw [HC.out, Int.toNat_natCast] at h
             rw [← h]; simp [List.getD, hCl])
            rw [HHT.out] at hcd9
            have hCI : (C : Int) < PN := by omega
            clear hC hML hmr
            go_wp2_with fail
            refine (indexOf_c size MT _ _ HFO.out hs.1 HMK.out.2.1 (by rw [HML.out, HPN.out]; omega)).mono ?_
            rintro e w7 ⟨rfl, rfl⟩
            rw [HC.out]
            cases hh : hasT ts MT with
            | true =>
             rw [hh] at hcd9
             have HQ := qH (show keepAt size ((q : Int), ftb) ((AR : Int), ts) k = true by rw [HKA.out, hh])
             have HBL := qH ((hbl.out.trans (HB3.out.mono hbl.out.size)).trans ((hbp.out.below (B := wo.heap.size) (fun z hz => by omega) (by omega)).mono hbl.out.size) |>.trans (hbw7.mono (by omega)))
             clear hh
             go_wp2_with fail
             go_roundw
             case rel =>
              refine ⟨k + 1, by omega, by go_num, HBL.out, fun j hj => ?_⟩
              rcases Nat.lt_or_ge j k with h | h
              · exact hr.out j h
              · obtain rfl : j = k := by omega
                exact HQ.out
             case measure => simp [intOf]; omega
            | false =>
             rw [hh] at hcd9
             have HQ := qH (show keepsP size ((q : Int), ftb) ((AR : Int), ts) = false by
              rw [HKP.out, List.all_eq_false]
              exact ⟨k, List.mem_range.2 hklt, by rw [HKA.out, hh]; decide⟩)
             clear hh
             go_wp2_with fail
             refine bodyPost_ret (v := .tuple #[.slice (some ⟨g', 0, none⟩) q c', .slice (some ⟨bo, oo, none⟩) MT.length co]) (by simp [results, Tryz.results194, go_sem]) rfl ⟨_, some ⟨bo, oo, none⟩, MT.length, co, rfl, by rw [HQ.out]; rfl, fun h => by (cases h), hs8.bel⟩
       · obtain rfl : k = TOT := by omega
         have hnk : ¬ ((k : Int) < k) := by omega
         have HQ := qH (show keepsP size ((FA : Int), ftb) ((AR : Int), ts) = true by
          rw [HKP.out, List.all_eq_true]
          exact fun j hj => hr.out j (List.mem_range.1 hj))
         go_wp2_with fail
         refine bodyPost_ret (v := .tuple #[.slice none 0 0, .slice none 0 0]) (by simp [results, Tryz.results194, go_sem]) rfl ⟨_, none, 0, 0, rfl, by rw [HQ.out]; rfl, fun _ => ⟨rfl, rfl⟩, hst3.bel⟩
theorem keeps_c (size : Int) (f : OpT) (r : RelT) (f0 f1 r0 r1 : Value) (w : World) (hf : Rd w [f0, f1] f) (hr : Rd w [r0, r1] r) (hok : opOk size f = true) (hrk : relOk size r = true) :
 Calls Tryz.prog 176 #[.int .i64 size, .agg #[f0, f1], .agg #[r0, r1]] w fun e w' => e = .returned (.bool (keepsP size f r)) ∧ Below w.heap.size w w' := by
 obtain ⟨far, ftb⟩ := f
 obtain ⟨rar, ts⟩ := r
 have HF := qH hf
 have HR := qH hr
 have zf := rd_cons rfl hf
 obtain ⟨rfl, _⟩ := rd_i1 zf.1
 obtain ⟨af, cf, rfl, _⟩ := rd_list zf.2
 have zr := rd_cons rfl hr
 obtain ⟨rfl, _⟩ := rd_i1 zr.1
 obtain ⟨a, c, rfl, _⟩ := rd_list zr.2
 clear hf hr zf zr
 have hs10 := (St.start w).alloc #[.int .i64 far, .slice af ftb.length cf] 48 (n := w.heap.size) (by simp)
 obtain ⟨k0_0, k0_1⟩ := hs10.c2 0 0 0 1
 have hs11 := hs10.alloc #[.int .i64 rar, .slice a ts.length c] 87 (n := w.heap.size + 1) (by simp)
 clear k0_0 k0_1
 obtain ⟨k0_0, k0_1, k1_0, k1_1⟩ := hs11.c4 0 0 0 1 1 0 1 1
 go_enter Tryz.func176, Tryz.ntmps176
 go_wp2_with fail
 refine (broken_c size (far, ftb) (rar, ts) _ _ _ _ _ (Rd.mono HF.out hs11.bel) (Rd.mono HR.out hs11.bel) hok hrk).mono ?_
 rintro e w1 ⟨vl, ao, n, k, rfl, hiso, hnil, hb1⟩
 have HI := qH hiso
 have HB := qH (hs11.bel.trans (hb1.mono hs11.bel.size))
 clear hiso hb1
 cases ao with
 | none =>
  obtain ⟨rfl, rfl⟩ := hnil rfl
  have hnl : ∀ W, (binOp .eql 28 (.slice none 0 0) (.slice none 0 0)).run Tryz.prog W = .ok (.bool true) W := fun W => Lib.run_eql_slice_nil_nil W _ _ Tryz.underlying28
  go_wp2_with fail
  go_ret
  exact ⟨ret_bool (by rw [← HI.out]; rfl), HB.out⟩
 | some ad =>
  have hnl : ∀ W, (binOp .eql 28 (.slice (some ad) n k) (.slice none 0 0)).run Tryz.prog W = .ok (.bool false) W := fun W => Lib.run_eql_slice_some_nil W _ _ _ Tryz.underlying28
  go_wp2_with fail
  go_ret
  exact ⟨ret_bool (by rw [← HI.out]; rfl), HB.out⟩
end Go.Proofs.YtpkdiiagnplpkaaGreat
namespace Go.Proofs.YtpkdiiagnplpkaaGreat
open Go.RowKit Go.Shelf Go.IntWalk
open Rep (Rd Own sz)
theorem l01Empty_c (size ar : Int) (PN : Nat) (w : World) (hs : 1 ≤ size) (ha : 0 ≤ ar) (ha2 : ar ≤ 1000) (hp : size ^ ar.toNat = (PN : Int)) (hp2 : PN ≤ 1000000) :
 Calls Tryz.prog 196 #[.int .i64 size, .int .i64 ar] w fun e w' => e = .returned (.pointer (some ⟨w.heap.size + 1, 0, none⟩)) ∧ w'.heap[w.heap.size + 1]? = some (.cells #[.int .i64 size, .int .i64 ar, .slice (some ⟨w.heap.size, 0, none⟩) PN PN] 198 (0, 0)) ∧
  OwnSl [w.heap.size] w' (.slice (some ⟨w.heap.size, 0, none⟩) PN PN) (List.replicate PN false) ∧ w'.heap.size = w.heap.size + 2 ∧ Below w.heap.size w w' := by
 have HP := qH hp
 clear hp
 go_enter Tryz.func196, Tryz.ntmps196
 go_wp2_with fail
 refine (l01Power_c size ar _ (by omega) ha (by omega) (by rw [HP.out]; omega)).mono ?_
 rintro e w1 ⟨rfl, rfl⟩
 rw [HP.out]
 go_wp2_with (at_make; refine wpList_make_rep _ rfl _ _ 196 rfl E_bools false own0_bool PN (by omega) rfl rfl ?_; intro w1 hown hb1 hs1)
 go_ret
 refine ⟨rfl, ?_, ownSl_mono hown (belowA _ _), by simp; omega, hb1.trans ((belowA _ _).mono (by omega))⟩
 exact heap_alloc_at w1 _ hs1
theorem l01SetOf_c (size : Int) (r : RelT) (pb po : Nat) (r0 r1 : Value) (PN : Nat) (w : World) (hr : Rd w [r0, r1] r) (c0 : w.cell? ⟨pb, po, none⟩ = some r0) (c1 : w.cell? ⟨pb, po + 1, none⟩ = some r1) (hrk : relOk size r = true) (hp : size ^ r.1.toNat = (PN : Int)) :
 Calls Tryz.prog 187 #[.int .i64 size, .pointer (some ⟨pb, po, none⟩)] w fun e w' => e = .returned (.pointer (some ⟨w.heap.size + 1, 0, none⟩)) ∧ w'.heap[w.heap.size + 1]? = some (.cells #[.int .i64 size, .int .i64 r.1, .slice (some ⟨w.heap.size, 0, none⟩) PN PN] 198 (0, 0)) ∧
  OwnSl [w.heap.size] w' (.slice (some ⟨w.heap.size, 0, none⟩) PN PN) (setTo size PN r.2 r.2.length) ∧ w.heap.size + 2 ≤ w'.heap.size ∧ Below w.heap.size w w' := by
 obtain ⟨rar, ts⟩ := r
 have hs := (relOk_get hrk).1
 have hra := (relOk_get hrk).2.1
 have hp256 := pow256 hs hra
 simp only at hra hp256 hp
 rw [hp] at hp256
 have HPN := qH hp
 have HVAL := qH (relOk_val hrk)
 have zr := rd_cons rfl hr
 obtain ⟨rfl, _⟩ := rd_i1 zr.1
 obtain ⟨a, c, rfl, htr⟩ := rd_list zr.2
 have hb0 := (rdSl_len htr).2
 unfold maxLen at hb0
 have HTR := qH htr
 clear hr zr hrk htr hp
 obtain ⟨AR, rfl⟩ : ∃ x : Nat, rar = x := ⟨rar.toNat, by omega⟩
 have c0_ := qC (St.start w).bel c0
 clear c0_
 obtain ⟨c0_, c1_⟩ := cL2 (St.start w).bel c0 c1
 go_enter Tryz.func187, Tryz.ntmps187
 go_wp2_with fail
 refine (l01Empty_c size AR PN _ hs.1 (by omega) (by omega) HPN.out (by omega)).mono ?_
 rintro e w1 ⟨rfl, hh1, hown, hsz, hb1⟩
 have HH := qH hh1
 have HO := qH hown
 have hsz1 : w.heap.size + 2 ≤ w1.heap.size := by omega
 have HB1 := qH hb1
 clear hh1 hown hsz hb1
 go_wp2_with fail
 go_loopw [6] (fun i wl => ∃ k : Nat, k ≤ ts.length ∧ i = .int .i64 k ∧ Hid (But [w.heap.size] w1 wl) ∧ Hid (OwnSl [w.heap.size] wl (.slice (some ⟨w.heap.size, 0, none⟩) PN PN) (setTo size PN ts k))) (fun i _ => ts.length - (intOf i).toNat)
 case atStart => exact ⟨0, Nat.zero_le _, rfl, But.refl _ _, HO.out⟩
 case round =>
  clear HO
  obtain ⟨k, hk, rfl, ho, hw⟩ := hrel
  have hszr := ho.out.size
  have HHR := qH (show wr.heap[w.heap.size + 1]? = _ from (ho.out.block _ (by omega) (by simp)).trans HH.out)
  have hsr := (St.start w).stepB (HB1.out.trans (ho.out.below (B := w.heap.size) (by simp) (by omega)))
  have s2 : wr.cell? ⟨w.heap.size + 1, 2, none⟩ = some (.slice (some ⟨w.heap.size, 0, none⟩) PN PN) := by rw [cell_at_block HHR.out]; rfl
  have HSL := qH (setTo_len size PN ts k)
  obtain ⟨c0_, c1_⟩ := cL2 hsr.bel c0 c1
  have HBW := qH (Below.refl wr.heap.size wr)
  have HOW := hw
  by_cases hlt : k < ts.length
  · have hltI : (k : Int) < ts.length := by omega
    obtain ⟨b, o, u0, rfl, q0, hx⟩ := rdSl_one rfl HTR.out k hlt
    have HX := qH hx
    obtain ⟨a0, cc0, rfl, _⟩ := rd_list hx
    have hvv := HVAL.out _ (List.getElem_mem hlt)
    have hcb := codeL_bd hs.1 ts[k] hvv.2
    rw [hvv.1] at hcb
    simp only [Int.toNat_natCast] at hcb
    have HPN2 := qH (show size ^ AR = (PN : Int) from by simpa using HPN.out)
    rw [HPN2.out] at hcb
    have HVV := qH (show ∀ x, x ∈ ts[k] → 0 ≤ x ∧ x ≤ size - 1 from hvv.2)
    have HLN := qH (show ts[k].length = AR by have := hvv.1; simpa using this)
    obtain ⟨C, hC⟩ : ∃ C : Nat, codeL size ts[k] = C := ⟨(codeL size ts[k]).toNat, by omega⟩
    have HC := qH hC
    rw [hC] at hcb
    have HSS := qH (show (setTo size PN ts k).set C true = setTo size PN ts (k + 1) by
     rw [setTo, show ts.getD k [] = ts[k] by simp [List.getD, hlt], HC.out, Int.toNat_natCast])
    have hCl : (C : Int) < PN := by omega
    have ejw : IntKind.i64.wrap (C : Int) = (C : Int) := i64_in _ (by omega)
    clear hx hvv hC
    clear c0_ c1_
    obtain ⟨c0_, c1_, q0_⟩ := cL3 hsr.bel c0 c1 q0
    clear c0_ c1_ q0_
    obtain ⟨c0_, c1_, q0_⟩ := cL3 hsr.bel c0 c1 q0
    go_upto_region 5 with fail
    refine t4R (fun w' => w'.cell? ⟨pb, po, none⟩ = some (.int .i64 AR) ∧ w'.cell? ⟨pb, po + 1, none⟩ = some (.slice (some ⟨b, o, none⟩) ts.length c) ∧ w'.cell? ⟨w.heap.size + 1, 2, none⟩ = some (.slice (some ⟨w.heap.size, 0, none⟩) PN PN) ∧ w'.cell? ⟨b, o + k, none⟩ = some (.slice a0 ts[k].length cc0)) (.float 0 (.float 1 (.float 2 (.float 3 (.float 4 (.float 5 (.float 6 (.float 7 (.float 8 (.float 9 (.float 10 (.float 11 (.hard 12 (.float 13 (.last 14 .nil))))))))))))))) ?_ ?_
    · exact ⟨qC (hsr.drew).bel c0, qC (hsr.drew).bel c1, qC (belowD _) s2, qC (hsr.drew).bel q0⟩
    have hs12 := hsr.drew
    have s2_13 := qC (belowD _) s2
    clear s2
    have HBW_14 := qH (HBW.out.trans (((belowD _)).mono HBW.out.size))
    clear HBW
    have HOW_15 := qH (ownSl_mono HOW.out (belowD _))
    clear HOW
    clear c0_ c1_ q0_
    have hz_wd16 : wr.heap.size ≤ (wr.drew).heap.size := by simp
    generalize hgen_wd16 : wr.drew = wd16 at *
    clear hgen_wd16
    refine t4F ?_
    refine t4_hard rfl (by rfl) (fun K hK => ?_)
    go_wp2_with (go_at_call 186; refine (l01Code_c size ts[k] _ _ (Rd.mono HX.out hs12.bel) hs.1 HVV.out (by rw [HLN.out, HPN2.out]; omega)).mono ?_; rintro e w17 ⟨rfl, rfl, rfl⟩)
    rw [HC.out]
    refine ⟨⟨qC hs12.bel c0, qC hs12.bel c1, s2_13, qC hs12.bel q0⟩, ?_⟩
    refine t4F ?_
    refine t4_last rfl (by rfl) (fun K hK => ?_)
    obtain ⟨c0_, c1_, q0_⟩ := cL3 hs12.bel c0 c1 q0
    obtain ⟨o9, c9, hv9, hcd9, hf9, hset9⟩ := ownSl_bool HOW_15.out C (by rw [HSL.out]; omega)
    simp only [Value.slice.injEq, Option.some.injEq, Addr.mk.injEq] at hv9
    obtain ⟨⟨-, rfl, -⟩, -, rfl⟩ := hv9
    rw [Nat.zero_add] at hcd9 hf9
    have HS9 := qH (hset9 true)
    rw [Nat.zero_add, HSS.out] at HS9
    have HO9 := qH ((ho.out.trans (but_of HBW_14.out)).trans (OnlyAt.but ((OnlyAt.refl [w.heap.size] wd16).setCell (p := ⟨w.heap.size, C, none⟩) (by simp) (.bool true))))
    generalize (setTo size PN ts k)[C]'(by rw [HSL.out]; omega) = B9 at hcd9
    clear hset9
    go_wp2_with fail
    refine t4_nil (NoPanic.normal ?_)
    go_wp2_with fail
    go_roundw
    case rel => exact ⟨k + 1, by omega, by go_num, HO9.out, HS9.out⟩
    case measure => simp [intOf]; omega
  · obtain rfl : k = ts.length := by omega
    have hnl : ¬ ((ts.length : Int) < ts.length) := by omega
    go_wp2_with fail
    go_ret
    exact ⟨rfl, HHR.out, hw.out, by omega, hsr.bel⟩
theorem l02Make_c (size : Int) (f : OpT) (ts : List (List Int)) (ar : Nat) (pb po : Nat) (v0 v1 vt : Value) (w : World) (hf : Rd w [v0, v1] f) (hc1 : w.cell? ⟨pb, po + 1, none⟩ = some v1) (ht : Rd w [vt] ts) (hok : opOk size f = true) (hlen : (ts.length : Int) = f.1) (hv : ∀ t, t ∈ ts → t.length = ar ∧ Val size t) (har : ar ≤ 1000) :
 Calls Tryz.prog 188 #[.int .i64 size, .pointer (some ⟨pb, po, none⟩), vt] w fun e w' => ∃ v, e = .returned v ∧ Acc w.heap.size w'.heap.size 2 w' v (makeT size f ts ar) ∧ Below w.heap.size w w' := by
 have hs := (opOk_get hok).1
 have hfa := (opOk_get hok).2.1
 have hR : (makeT size f ts ar).length = ar := by simp [makeT]
 have HRP := qH (fun (p : Nat) (hp : p < (makeT size f ts ar).length) => show (makeT size f ts ar)[p] = valOf size f (ts.map (fun t => t.getD p 0)) by simp [makeT])
 have HMR := qH (make_val hok hlen hv).2.2
 generalize hRR : makeT size f ts ar = R at *
 clear hRR
 have HOK := qH hok
 have HF := qH hf
 have HC1 := qH hc1
 have HLEN := qH hlen
 have HV := qH hv
 obtain ⟨a, c, rfl, htr⟩ := rd_list ht
 have HT := qH htr
 have hl3 : ts.length ≤ 3 := by omega
 have hl0 : 0 < ts.length := by omega
 obtain ⟨b, o, u0, rfl, q0, hx0⟩ := rdSl_one rfl htr 0 hl0
 obtain ⟨a0, c0, rfl, _⟩ := rd_list hx0
 have hA0 := (hv _ (List.getElem_mem hl0)).1
 rw [hA0, Nat.add_zero] at q0
 have HR := qH hR
 have HM := qH (acc_made (α := Int) w 2)
 clear hok hf ht htr hx0 hv hlen hc1 hR
 have q0_ := qC (St.start w).bel q0
 go_enter Tryz.func188, Tryz.ntmps188
 go_wp2_with fail
 go_loopw [7, 8] (fun oo i wl => ∃ (p : Nat) (ao : Option Addr) (co : Nat), p ≤ ar ∧ i = .int .i64 p ∧ oo = .slice ao p co ∧ Hid (Below w.heap.size w wl) ∧ Hid (Acc w.heap.size wl.heap.size 2 wl (.slice ao p co) (R.take p))) (fun _ i _ => ar - (intOf i).toNat)
 case atStart => exact ⟨0, _, _, Nat.zero_le _, rfl, rfl, belowA _ _, by simpa [Hid] using HM.out⟩
 case round =>
  clear HM
  obtain ⟨p, ao, co, hp, rfl, rfl, hbl0, hac⟩ := hrel
  have hb0 := hbl0.out.size
  have hs0 := (St.start w).step hbl0.out
  have q0_ := qC hs0.bel q0
  by_cases hlt : p < ar
  · have hltI : (p : Int) < ar := by omega
    have HAV := qH (show ∀ a, a ∈ ts.map (fun t => t.getD p 0) → 0 ≤ a ∧ a ≤ size - 1 from HMR.out p hlt)
    have HAL := qH (show (ts.map (fun t => t.getD p 0)).length = ts.length by simp)
    obtain ⟨K, hK, e1, e2, e3, e4, e5, e6⟩ := valOf_at (args := ts.map (fun t => t.getD p 0)) HOK.out (by simpa using HLEN.out) HAV.out
    have HVB := qH (And.intro e3 e4)
    have HTK := qH (show R.take p ++ [valOf size f (ts.map (fun t => t.getD p 0))] = R.take (p + 1) by
     rw [List.take_succ_eq_append_getElem (show p < R.length by rw [HR.out]; exact hlt), HRP.out p (by rw [HR.out]; exact hlt)])
    have HAG := qH (fun (q : Nat) (hq : q < ts.length) => show (ts.map (fun t => t.getD p 0)).getD q 0 = ts[q].getD p 0 by simp [List.getD, hq])
    clear e1 e2 e3 e4 e5 e6 hK
    generalize hAA : ts.map (fun t => t.getD p 0) = A at *
    clear hAA
    obtain ⟨w1, rfl⟩ : ∃ x, x = wr := ⟨_, rfl⟩
    have HM1 := qH (acc_made (α := Int) w1 2)
    go_wp2_with fail
    go_loopw [9, 10] (fun oi i wl => ∃ (q : Nat) (ai : Option Addr) (ci : Nat), q ≤ ts.length ∧ i = .int .i64 q ∧ oi = .slice ai q ci ∧ Hid (Below w1.heap.size w1 wl) ∧ Hid (Acc w1.heap.size wl.heap.size 2 wl (.slice ai q ci) (A.take q))) (fun _ i _ => ts.length - (intOf i).toNat)
    case atStart => exact ⟨0, _, _, Nat.zero_le _, rfl, rfl, belowA _ _, by simpa [Hid] using HM1.out⟩
    case round =>
     clear HM1
     obtain ⟨q, ai, ci, hq, rfl, rfl, hbl1, hai⟩ := hrel
     have hb1 := hbl1.out.size
     have HAC := qH (Acc.mono hac.out hbl1.out)
     have HAI := hai
     have hs1 := hs0.step hbl1.out
     have q0_ := qC hs1.bel q0
     by_cases hqlt : q < ts.length
     · have hqI : (q : Int) < ts.length := by omega
       obtain ⟨b2, o2, u2, e3, q2, hx2⟩ := rdSl_one rfl (rdSl_mono hs1.bel HT.out) q hqlt
       simp only [Option.some.injEq, Addr.mk.injEq, and_true] at e3
       obtain ⟨rfl, rfl⟩ := e3
       have hTL := HV.out _ (List.getElem_mem hqlt)
       obtain ⟨a2, c2, rfl, _⟩ := rd_list hx2
       have hlp : p < ts[q].length := by rw [hTL.1]; exact hlt
       obtain ⟨b4, o4, rfl, q4, hY⟩ := rd_int_at hx2 p hlp
       rw [hTL.1] at q2
       have HYI := qH hY
       have HA1 := qH (show A.take q ++ [ts[q][p]] = A.take (q + 1) by
        have h1 := HAG.out q hqlt
        have hq' : q < A.length := by rw [HAL.out]; exact hqlt
        rw [show A.getD q 0 = A[q] by simp [List.getD, hq']] at h1
        rw [List.take_succ_eq_append_getElem hq', h1]
        simp [List.getD, hlp])
       have HAK := qH (show (A.take q).length = q by rw [List.length_take, HAL.out]; omega)
       clear hx2 hY hTL
       generalize ts[q][p] = Y at *
       clear hlp
       go_wp2_with (at_builtin; go_loud (refine wpList_append_ints _ rfl _ _ _ rfl E_ints rfl (Acc.mono HAI.out (belowA _ (.cells #[.int .i64 Y] 2))) (by omega) (by simp) ⟨wr.heap.size, 0, none⟩ 1 rfl (ns := [Y]) (news1 (cell_at_block (heap_alloc_new _ _))) (fun b hb => by simp at hb; subst hb; exact HYI.out) (by rw [HAK.out]; simp; omega) ?_); simp only [HAK.out, HA1.out]; intro a9 c9 w9 hA9 hB9 hK9)
       have HA9 := qH hA9
       have HB9 := qH (hbl1.out.trans ((belowA wr (.cells #[.int .i64 Y] 2)).mono hbl1.out.size) |>.trans hB9)
       clear hA9 hB9 hK9
       go_wp2_with fail
       go_roundw
       case rel => exact ⟨q + 1, a9, c9, hqlt, by go_num, rfl, HB9.out, HA9.out⟩
       case measure => simp [intOf]; omega
     · obtain rfl : q = ts.length := by omega
       have hnq : ¬ ((ts.length : Int) < ts.length) := by omega
       have HAT := qH (show A.take ts.length = A from List.take_of_length_le (by rw [HAL.out]; exact Nat.le_refl _))
       have HRDA := qH (show Rd wr [.slice ai ts.length ci] A by have h := HAI.out.rd; rwa [HAT.out] at h)
       have HPL := qH (show (A.length : Int) = f.1 by rw [HAL.out]; exact HLEN.out)
       have HPK := qH (show (R.take p).length = p by rw [List.length_take, HR.out]; omega)
       clear HAI
       clear hai
       go_wp2_with fail
       refine (l02Value_c size f A pb po _ _ _ _ (Rd.mono HF.out hs1.bel) (qC hs1.bel HC1.out) HRDA.out HOK.out HPL.out HAV.out).mono ?_
       rintro e w18 ⟨rfl, hbw18⟩
       have hz_w18 : wr.heap.size ≤ w18.heap.size := by have h9 := hbw18.size; (try simp at h9); omega
       have hs19 := hs1.step hbw18
       have HAC_20 := qH (Acc.mono HAC.out hbw18)
       clear HAC
       clear q0_
       have q0_ := qC hs19.bel q0
       generalize valOf size f A = Y at *
       go_wp2_with (at_builtin; go_loud (refine wpList_append_ints _ rfl _ _ _ rfl E_ints rfl (Acc.mono HAC_20.out (belowA _ (.cells #[.int .i64 Y] 2))) (by omega) (by simp; omega) ⟨w18.heap.size, 0, none⟩ 1 rfl (ns := [Y]) (news1 (cell_at_block (heap_alloc_new _ _))) (fun b hb => by simp at hb; subst hb; have := HVB.out; exact ⟨by omega, by omega⟩) (by rw [HPK.out]; simp; omega) ?_); simp only [HPK.out, HTK.out]; intro a9 c9 w9 hA9 hB9 hK9)
       have HA9 := qH hA9
       have HB9 := qH (((hs19.bel).trans ((belowA w18 (.cells #[.int .i64 Y] 2)).mono (hs19.bel).size)).trans hB9)
       clear hA9 hB9 hK9
       go_wp2_with fail
       go_roundw
       case rel => exact ⟨p + 1, a9, c9, hlt, by go_num, rfl, HB9.out, HA9.out⟩
       case measure => simp [intOf]; omega
  · obtain rfl : p = ar := by omega
    have hnl : ¬ ((p : Int) < p) := by omega
    have HBF := qH hbl0.out
    have HAF := qH (show Acc w.heap.size wr.heap.size 2 wr (.slice ao p co) R by have h := hac.out; rwa [List.take_of_length_le (by rw [HR.out]; exact Nat.le_refl _)] at h)
    go_wp2_with fail
    go_ret
    exact ⟨_, rfl, HAF.out, HBF.out⟩
theorem l02Breaks_c (size : Int) (f : OpT) (r : RelT) (pb po rb ro : Nat) (v0 v1 r0 r1 : Value) (w : World) (hf : Rd w [v0, v1] f) (c0 : w.cell? ⟨pb, po, none⟩ = some v0) (c1 : w.cell? ⟨pb, po + 1, none⟩ = some v1) (hr : Rd w [r0, r1] r) (d0 : w.cell? ⟨rb, ro, none⟩ = some r0) (d1 : w.cell? ⟨rb, ro + 1, none⟩ = some r1) (hok : opOk size f = true) (hrk : relOk size r = true) :
 Calls Tryz.prog 157 #[.int .i64 size, .pointer (some ⟨pb, po, none⟩), .pointer (some ⟨rb, ro, none⟩)] w fun e w' => ∃ x y, e = .returned (.tuple #[x, y, .bool (!keepsP size f r)]) ∧ Below w.heap.size w w' := by
 obtain ⟨far, ftb⟩ := f
 obtain ⟨rar, ts⟩ := r
 have hs := (opOk_get hok).1
 have hfa := (opOk_get hok).2.1
 have hra := (relOk_get hrk).2.1
 have hcnt := relOk_count hrk
 have hp256 := pow256 hs hra
 simp only at hfa hra hcnt hp256
 have HVAL := qH (relOk_val hrk)
 have HOK := qH hok
 have HRK := qH hrk
 have HF := qH hf
 have HR := qH hr
 have zf := rd_cons rfl hf
 obtain ⟨rfl, _⟩ := rd_i1 zf.1
 obtain ⟨af, cf, rfl, _⟩ := rd_list zf.2
 have zr := rd_cons rfl hr
 obtain ⟨rfl, _⟩ := rd_i1 zr.1
 obtain ⟨a, c, rfl, htr⟩ := rd_list zr.2
 have hb0 := (rdSl_len htr).2
 unfold maxLen at hb0
 have HTR := qH htr
 have HC1 := qH c1
 have HD0 := qH d0
 clear hf hr zf zr hok hrk htr c1 d0
 obtain ⟨AR, rfl⟩ : ∃ x : Nat, rar = x := ⟨rar.toNat, by omega⟩
 obtain ⟨FA, rfl⟩ : ∃ x : Nat, far = x := ⟨far.toNat, by omega⟩
 simp only [Int.toNat_natCast] at hcnt hp256
 obtain ⟨PN, hPN⟩ : ∃ x : Nat, size ^ AR = (x : Int) := ⟨(size ^ AR).toNat, by omega⟩
 have HPN := qH hPN
 rw [hPN] at hcnt hp256
 clear hPN
 have hTOT : ts.length ^ FA ≤ 256 ^ 3 := Nat.le_trans (Nat.pow_le_pow_left hcnt.2 FA) (Nat.pow_le_pow_right (by omega) (by omega))
 have HTOT := qH (show ((ts.length : Int)) ^ FA = ((ts.length ^ FA : Nat) : Int) by simp)
 have HKP := qH (show keepsP size ((FA : Int), ftb) ((AR : Int), ts) = (List.range (ts.length ^ FA)).all (fun i => keepAt size ((FA : Int), ftb) ((AR : Int), ts) i) by unfold keepsP; simp)
 have HSM := qH (fun (t : List Int) (hl : t.length = AR) (ht : Val size t) => setTo_mem hs.1 (ar := AR) HPN.out.symm (x := ts) (fun t h => by have := HVAL.out t h; rw [Int.toNat_natCast] at this; exact this) hl ht)
 have HLS := qH (setTo_len size PN ts ts.length)
 have hFA0 : 0 < FA := by omega
 have HZ := qH (show ts.length = 0 → ts.length ^ FA = 0 from fun h => by rw [h]; exact Nat.zero_pow hFA0)
 generalize hTT : ts.length ^ FA = TOT at *
 clear hTT
 have c0_ := qC (St.start w).bel c0
 clear c0_
 obtain ⟨c0_, d1_⟩ := cL2 (St.start w).bel c0 d1
 go_enter Tryz.func157, Tryz.ntmps157
 go_wp2_with fail
 refine (l01SetOf_c size ((AR : Int), ts) rb ro _ _ PN _ (Rd.mono HR.out (St.start w).bel) (qC (St.start w).bel HD0.out) (qC (St.start w).bel d1) HRK.out (by rw [Int.toNat_natCast]; exact HPN.out)).mono ?_
 rintro e w1 ⟨rfl, hh1, hown, hsz1, hb1⟩
 have HOW := qH hown
 have HS2 := qH (show w1.cell? ⟨w.heap.size + 1, 2, none⟩ = some (.slice (some ⟨w.heap.size, 0, none⟩) PN PN) by rw [cell_at_block hh1]; rfl)
 have hst1 := (St.start w).step hb1
 generalize setTo size PN ts ts.length = BS at *
 clear hh1 hown hb1
 obtain ⟨c0_, d1_⟩ := cL2 hst1.bel c0 d1
 go_wp2_with fail
 refine (l01Power_c ts.length FA _ (by omega) (by omega) (by omega) (by rw [Int.toNat_natCast, HTOT.out]; omega)).mono ?_
 rintro e w21 ⟨rfl, rfl⟩
 rw [Int.toNat_natCast, HTOT.out]
 go_wp2_with fail
 go_loopw [12] (fun i wl => ∃ k : Nat, k ≤ TOT ∧ i = .int .i64 k ∧ Hid (Below w1.heap.size w1 wl) ∧ Hid (∀ j, j < k → keepAt size ((FA : Int), ftb) ((AR : Int), ts) j = true)) (fun i _ => TOT - (intOf i).toNat)
 case atStart => exact ⟨0, Nat.zero_le _, rfl, Below.refl _ _, fun j hj => absurd hj (Nat.not_lt_zero _)⟩
 case round =>
  obtain ⟨k, hk2, rfl, hbl, hr⟩ := hrel
  have hst3 := hst1.step hbl.out
  have HOB := qH (ownSl_mono HOW.out hbl.out)
  have hszB := hbl.out.size
  obtain ⟨c0_, d1_⟩ := cL2 hst3.bel c0 d1
  by_cases hklt : k < TOT
  · have hkI : (k : Int) < TOT := by omega
    have hts0 : 0 < ts.length := by
     rcases Nat.eq_zero_or_pos ts.length with h | h
     · have := HZ.out h; omega
     · exact h
    go_wp2_with fail
    refine (l01Digits_c ts.length FA k _ (by omega) (by omega) (by omega) (by omega) (by omega) (by omega)).mono ?_
    rintro e w3 ⟨vv, rfl, fr, hb3⟩
    rw [Int.toNat_natCast] at fr
    obtain ⟨av, cv, rfl, _⟩ := rd_list fr.rd
    have hAL := digs_length ts.length FA k
    have HAM := qH (digs_mem ts.length (by omega) FA k)
    have HKA := qH (show keepAt size ((FA : Int), ftb) ((AR : Int), ts) k = hasT ts (makeT size ((FA : Int), ftb) (pickT ts (digs ts.length FA k)) AR) by unfold keepAt; simp)
    generalize hAT : digs ts.length FA k = AT at *
    clear hAT
    rw [hAL] at fr
    have HAL := qH hAL
    have hz3 : wr.heap.size ≤ w3.heap.size := hb3.size
    have HB3 := qH hb3
    have HROW := qH (row_made (size := 1) w3 28)
    have HAI := qH fr.ip
    have HOB3 := qH (ownSl_mono HOB.out hb3)
    have HS23 := qH (qC hb3 (qC hbl.out HS2.out))
    have hst4 := hst3.step hb3
    obtain ⟨bT, oT, vh, rfl, HVH⟩ := rd_hdrs HTR.out hts0
    have HVH := qH HVH
    obtain ⟨wo, rfl⟩ : ∃ x, x = wr := ⟨_, rfl⟩
    rw [hAL]
    clear fr hb3 hAL
    obtain ⟨c0_, d1_⟩ := cL2 hst4.bel c0 d1
    go_wp2_with fail
    go_loopw [14, 15] (fun ll i wl => ∃ (q g' c' : Nat), q ≤ FA ∧ i = .int .i64 q ∧ ll = .slice (some ⟨g', 0, none⟩) q c' ∧ Hid (w3.heap.size ≤ g' ∧ g' < wl.heap.size) ∧ Hid (Below w3.heap.size w3 wl) ∧ Hid (wl.ownsRow 0 28 1 (.slice (some ⟨g', 0, none⟩) q c') q ((AT.take q).map (fun x => vh x.toNat)))) (fun _ i _ => FA - (intOf i).toNat)
    case atStart => exact ⟨0, w3.heap.size, 0, Nat.zero_le _, rfl, rfl, ⟨Nat.le_refl _, by simp⟩, belowA _ _, by simpa [Hid] using HROW.out⟩
    case round =>
     clear HROW
     obtain ⟨q, g', c', hq, rfl, rfl, hg', hbp, hrow⟩ := hrel
     have hst5 := hst4.step hbp.out
     have hszC := hbp.out.size
     obtain ⟨c0_, d1_⟩ := cL2 hst5.bel c0 d1
     by_cases hqlt : q < FA
     · have hqI : (q : Int) < FA := by omega
       obtain ⟨ba, oa, rfl, qa0, _⟩ := rd_int_at HAI.out.rd q (by rw [HAL.out]; exact hqlt)
       have hba : ba < w3.heap.size := World.block_lt_of_cell? w3 _ qa0
       have qa := qC hbp.out qa0
       clear qa0
       have hA := HAM.out _ (List.getElem_mem (show q < AT.length by rw [HAL.out]; exact hqlt))
       obtain ⟨n, hn⟩ : ∃ n : Nat, AT[q]'(by rw [HAL.out]; exact hqlt) = (n : Int) := ⟨(AT[q]'(by rw [HAL.out]; exact hqlt)).toNat, by omega⟩
       rw [hn] at hA qa
       have hnl : n < ts.length := by omega
       have hnI : (n : Int) < ts.length := by omega
       obtain ⟨hcn, hrn⟩ := HVH.out n hnl
       have hcn2 := qC hst5.bel hcn
       have hbT : bT < w.heap.size := World.block_lt_of_cell? w _ hcn
       obtain ⟨ax, cx, hvx, _⟩ := rd_list hrn
       rw [hvx] at hcn2
       have HXS := qH (show (AT.take (q + 1)).map (fun x => vh x.toNat) = (AT.take q).map (fun x => vh x.toNat) ++ [.slice ax ts[n].length cx] by
        rw [List.take_succ_eq_append_getElem (show q < AT.length by rw [HAL.out]; exact hqlt), List.map_append, hn]
        simp [hvx])
       have HBL := hbp
       have HRW := hrow
       clear hcn hrn hvx hn
       go_upto_region 12 with fail
       refine t4R (fun w' => w'.cell? ⟨pb, po, none⟩ = some (.int .i64 FA) ∧ w'.cell? ⟨rb, ro + 1, none⟩ = some (.slice (some ⟨bT, oT, none⟩) ts.length c) ∧ w'.cell? ⟨ba, oa + q, none⟩ = some (.int .i64 n) ∧ w'.cell? ⟨bT, oT + n, none⟩ = some (.slice ax ts[n].length cx)) (.float 0 (.float 1 (.float 2 (.float 3 (.float 4 (.float 5 (.float 6 (.float 7 (.float 8 (.float 9 (.float 10 (.hard 11 (.hard 12 (.float 13 .nil)))))))))))))) ?_ ?_
       · exact ⟨qC (hst5.drew).bel c0, qC (hst5.drew).bel d1, qC (belowD _) qa, qC (belowD _) hcn2⟩
       have hs22 := hst5.drew
       have qa_23 := qC (belowD _) qa
       clear qa
       have hcn2_24 := qC (belowD _) hcn2
       clear hcn2
       have HBL_25 := qH (HBL.out.trans (((belowD _)).mono HBL.out.size))
       clear HBL
       have HRW_26 := qH (ownsRow_below HRW.out (belowD _))
       clear HRW
       clear c0_ d1_
       have hz_wd27 : wr.heap.size ≤ (wr.drew).heap.size := by simp
       generalize hgen_wd27 : wr.drew = wd27 at *
       clear hgen_wd27
       refine t4F ?_
       refine t4_hard rfl (by rfl) (fun K hK => ?_)
       go_wp2_with fail
       have hs28 := hs22.alloc #[.slice ax ts[n].length cx] 28 (n := wd27.heap.size) (by simp)
       have qa_29 := qC (belowA _ (.cells #[.slice ax ts[n].length cx] 28)) qa_23
       clear qa_23
       have hcn2_30 := qC (belowA _ (.cells #[.slice ax ts[n].length cx] 28)) hcn2_24
       clear hcn2_24
       have HBL_31 := qH (HBL_25.out.trans (((belowA _ (.cells #[.slice ax ts[n].length cx] 28))).mono HBL_25.out.size))
       clear HBL_25
       have HRW_32 := qH (ownsRow_below HRW_26.out (belowA _ (.cells #[.slice ax ts[n].length cx] 28)))
       clear HRW_26
       refine ⟨⟨qC hs28.bel c0, qC hs28.bel d1, qa_29, hcn2_30⟩, ?_⟩
       refine t4F ?_
       refine t4_hard rfl (by rfl) (fun K hK => ?_)
       refine wp_append_row _ _ _ _ rfl E_lists (v := .slice (some ⟨g', 0, none⟩) q c') rfl HRW_32.out (vs := [.slice ax ts[n].length cx]) rfl (fun u hu => by rw [List.mem_singleton] at hu; subst hu; rfl) ⟨wd27.heap.size, 0, none⟩ 1 rfl (news1 (hs28.c 0 0)) (by omega) ?_
       intro gN cN wN hat hrowN hbutN hltN
       have hgv1 := hg'.out.1
       have hgv2 := hg'.out.2
       have hgN : w3.heap.size ≤ gN := by
        rcases hat with h | h
        · simp only [Value.ownBlock, Option.some.injEq] at h
          omega
        · simp at h; omega
       have hbutN : But [g'] (wd27.alloc (.cells #[.slice ax ts[n].length cx] 28)) wN := hbutN
       clear hat
       have hsN := hs28.butIv hbutN (fun k hk => by simp at hk; omega) (fun x hx => by simp at hx ⊢; subst hx; simp <;> omega)
       rw [← HXS.out] at hrowN
       have HRN := qH hrowN
       clear hrowN
       clear HRW_32
       have hz_wN : wd27.heap.size + 1 ≤ wN.heap.size := by have h9 := hbutN.size; (try simp at h9); omega
       have qa_33 := cellK qa_29 (hbutN.block _ (by (try simp) <;> omega) (by (try simp) <;> omega))
       clear qa_29
       have hcn2_34 := cellK hcn2_30 (hbutN.block _ (by (try simp) <;> omega) (by (try simp) <;> omega))
       clear hcn2_30
       have HBL_35 := qH (HBL_31.out.trans (hbutN.below (by (try simp) <;> omega) HBL_31.out.size))
       clear HBL_31
       refine hK _ _ ⟨⟨qC hsN.bel c0, qC hsN.bel d1, qa_33, hcn2_34⟩, ?_⟩
       refine t4F ?_
       have k0_0 := hsN.c 0 0
       obtain ⟨c0_, d1_⟩ := cL2 hsN.bel c0 d1
       refine t4_nil (NoPanic.normal ?_)
       go_wp2_with fail
       go_roundw
       case rel => exact ⟨q + 1, gN, cN, hqlt, by go_num, rfl, ⟨hgN, hltN⟩, HBL_35.out, HRN.out⟩
       case measure => simp [intOf]; omega
     · obtain rfl : q = FA := by omega
       have hnq : ¬ ((q : Int) < q) := by omega
       have HPM := qH (pick_mem (x := ts) (l := AT) HAM.out)
       have HL := qH (show Rd wr [.slice (some ⟨g', 0, none⟩) q c'] (pickT ts AT) from rd_of_row1 hrow.out (by simp [pickT, HAL.out]) (fun i hi => by
        have hi2 : i < AT.length := by simpa [pickT] using hi
        have hA := HAM.out _ (List.getElem_mem hi2)
        have hnl : (AT[i]).toNat < ts.length := by omega
        refine ⟨vh (AT[i]).toNat, ?_, ?_⟩
        · rw [List.take_of_length_le (by rw [HAL.out]; exact Nat.le_refl _)]; simp [hi2]
        · rw [show (pickT ts AT)[i] = ts[(AT[i]).toNat] by simp [pickT, List.getD, hnl]]
          exact Rd.mono (HVH.out _ hnl).2 hst5.bel))
       have HTV := qH (show ∀ t, t ∈ pickT ts AT → t.length = AR ∧ Val size t from fun t ht => by have := HVAL.out t (HPM.out t ht); rwa [Int.toNat_natCast] at this)
       have HPQ := qH (show (pickT ts AT).length = q by simp [pickT, HAL.out])
       have HPL := qH (show ((pickT ts AT).length : Int) = ((q : Int), ftb).1 by rw [HPQ.out])
       have HOB5 := qH (ownSl_mono HOB3.out hbp.out)
       have HWB := qH ((hbl.out.trans (HB3.out.mono hbl.out.size)).trans (hbp.out.mono (Nat.le_trans hbl.out.size HB3.out.size)))
       have s2 := qC hbp.out HS23.out
       clear HS23 HOB3 hrow HAI
       generalize hPT : pickT ts AT = PT at *
       clear hPT
       go_wp2_with fail
       refine (l02Make_c size ((q : Int), ftb) PT AR pb po _ _ _ _ (Rd.mono HF.out hst5.bel) (qC hst5.bel HC1.out) HL.out HOK.out HPL.out HTV.out (by omega)).mono ?_
       rintro e w36 ⟨vo, rfl, hac, hbw36⟩
       have hz_w36 : wr.heap.size ≤ w36.heap.size := by have h9 := hbw36.size; (try simp at h9); omega
       have hs37 := hst5.step hbw36
       have s2_38 := qC hbw36 s2
       clear s2
       have HOB5_39 := qH (ownSl_mono HOB5.out hbw36)
       clear HOB5
       have HL_40 := qH (Rd.mono HL.out hbw36)
       clear HL
       have HWB_41 := qH (HWB.out.trans ((hbw36).mono HWB.out.size))
       clear HWB
       clear c0_ d1_
       obtain ⟨c0_, d1_⟩ := cL2 hs37.bel c0 d1
       have HMK := qH (make_val HOK.out HPL.out HTV.out)
       obtain ⟨ao, co, rfl, hmr⟩ := rd_list hac.rd
       have HFO := qH hac.rd
       clear hac
       generalize hMT : makeT size ((q : Int), ftb) PT AR = MT at *
       clear hMT
       have hML := HMK.out.1
       obtain ⟨bo, oo, rfl, -, -⟩ := rd_int_at HFO.out 0 (by rw [hML]; omega)
       have hcb := codeL_bd hs.1 MT HMK.out.2.1
       rw [hML, HPN.out] at hcb
       obtain ⟨C, hC⟩ : ∃ C : Nat, codeL size MT = C := ⟨(codeL size MT).toNat, by omega⟩
       have HC := qH hC
       rw [hC] at hcb
       have HML := qH hML
       have hCl : C < BS.length := by rw [HLS.out]; omega
       obtain ⟨o9, c9, hv9, hcd9, -, -⟩ := ownSl_bool HOB5_39.out C hCl
       simp only [Value.slice.injEq, Option.some.injEq, Addr.mk.injEq] at hv9
       obtain ⟨⟨-, rfl, -⟩, -, -⟩ := hv9
       rw [Nat.zero_add] at hcd9
       have HHT := qH (show BS[C] = hasT ts MT by
        have h := HSM.out MT HML.out HMK.out.2.1
        rw [HC.out, Int.toNat_natCast] at h
        rw [← h]; simp [List.getD, hCl])
       rw [HHT.out] at hcd9
       have hCI : (C : Int) < PN := by omega
       clear hC hML hmr
       cases hh : hasT ts MT with
       | true =>
        rw [hh] at hcd9
        have HQ := qH (show keepAt size ((q : Int), ftb) ((AR : Int), ts) k = true by rw [HKA.out, hh])
        clear hh
        go_upto_region 14 with fail
        refine t4R (fun w' => w'.cell? ⟨pb, po, none⟩ = some (.int .i64 q) ∧ w'.cell? ⟨rb, ro + 1, none⟩ = some (.slice (some ⟨bT, oT, none⟩) ts.length c) ∧ w'.cell? ⟨w.heap.size + 1, 2, none⟩ = some (.slice (some ⟨w.heap.size, 0, none⟩) PN PN) ∧ w'.cell? ⟨w.heap.size, C, none⟩ = some (.bool (true))) (.float 0 (.float 1 (.float 2 (.float 3 (.float 4 (.float 5 (.hard 6 (.float 7 (.float 8 (.float 9 .nil)))))))))) ?_ ?_
        · exact ⟨qC (hs37.drew).bel c0, qC (hs37.drew).bel d1, qC (belowD _) s2_38, qC (belowD _) hcd9⟩
        have hs42 := hs37.drew
        have s2_43 := qC (belowD _) s2_38
        clear s2_38
        have hcd9_44 := qC (belowD _) hcd9
        clear hcd9
        clear HOB5_39
        clear HL_40
        have HWB_47 := qH (HWB_41.out.trans (((belowD _)).mono HWB_41.out.size))
        clear HWB_41
        have HFO_48 := qH (Rd.mono HFO.out (belowD _))
        clear HFO
        clear c0_ d1_
        have hz_wd49 : w36.heap.size ≤ (w36.drew).heap.size := by simp
        generalize hgen_wd49 : w36.drew = wd49 at *
        clear hgen_wd49
        refine t4F ?_
        refine t4_hard rfl (by rfl) (fun K hK => ?_)
        go_wp2_with (go_at_call 186; refine (l01Code_c size MT _ _ HFO_48.out hs.1 HMK.out.2.1 (by rw [HML.out, HPN.out]; omega)).mono ?_; rintro e w50 ⟨rfl, rfl, rfl⟩)
        rw [HC.out]
        refine ⟨⟨qC hs42.bel c0, qC hs42.bel d1, s2_43, hcd9_44⟩, ?_⟩
        refine t4F ?_
        obtain ⟨c0_, d1_⟩ := cL2 hs42.bel c0 d1
        refine t4_nil (NoPanic.normal ?_)
        go_wp2_with fail
        go_roundw
        case rel =>
         refine ⟨k + 1, by omega, by go_num, HWB_47.out, fun j hj => ?_⟩
         rcases Nat.lt_or_ge j k with h | h
         · exact hr.out j h
         · obtain rfl : j = k := by omega
           exact HQ.out
        case measure => simp [intOf]; omega
       | false =>
        rw [hh] at hcd9
        have HQ := qH (show keepsP size ((q : Int), ftb) ((AR : Int), ts) = false by
         rw [HKP.out, List.all_eq_false]
         exact ⟨k, List.mem_range.2 hklt, by rw [HKA.out, hh]; decide⟩)
        clear hh
        go_upto_region 14 with fail
        refine t4R (fun w' => w'.cell? ⟨pb, po, none⟩ = some (.int .i64 q) ∧ w'.cell? ⟨rb, ro + 1, none⟩ = some (.slice (some ⟨bT, oT, none⟩) ts.length c) ∧ w'.cell? ⟨w.heap.size + 1, 2, none⟩ = some (.slice (some ⟨w.heap.size, 0, none⟩) PN PN) ∧ w'.cell? ⟨w.heap.size, C, none⟩ = some (.bool (false))) (.float 0 (.float 1 (.float 2 (.float 3 (.float 4 (.float 5 (.hard 6 (.float 7 (.float 8 (.float 9 .nil)))))))))) ?_ ?_
        · exact ⟨qC (hs37.drew).bel c0, qC (hs37.drew).bel d1, qC (belowD _) s2_38, qC (belowD _) hcd9⟩
        have hs51 := hs37.drew
        have s2_52 := qC (belowD _) s2_38
        clear s2_38
        have hcd9_53 := qC (belowD _) hcd9
        clear hcd9
        clear HOB5_39
        have HL_55 := qH (Rd.mono HL_40.out (belowD _))
        clear HL_40
        clear HWB_41
        have HFO_57 := qH (Rd.mono HFO.out (belowD _))
        clear HFO
        clear c0_ d1_
        have hz_wd58 : w36.heap.size ≤ (w36.drew).heap.size := by simp
        generalize hgen_wd58 : w36.drew = wd58 at *
        clear hgen_wd58
        refine t4F ?_
        refine t4_hard rfl (by rfl) (fun K hK => ?_)
        go_wp2_with (go_at_call 186; refine (l01Code_c size MT _ _ HFO_57.out hs.1 HMK.out.2.1 (by rw [HML.out, HPN.out]; omega)).mono ?_; rintro e w59 ⟨rfl, rfl, rfl⟩)
        rw [HC.out]
        refine ⟨⟨qC hs51.bel c0, qC hs51.bel d1, s2_52, hcd9_53⟩, ?_⟩
        refine t4F ?_
        obtain ⟨c0_, d1_⟩ := cL2 hs51.bel c0 d1
        refine t4_nil (NoPanic.normal ?_)
        obtain ⟨w8, rfl⟩ : ∃ x, x = wd58 := ⟨_, rfl⟩
        have HROW8 := qH (row_made (size := 1) w8 28)
        have HBEL8 := qH hs51.bel
        obtain ⟨a5, c5, e5, h5⟩ := rd_list HL_55.out
        simp only [Value.slice.injEq] at e5
        obtain ⟨rfl, -, rfl⟩ := e5
        have HPT8 := qH h5
        clear h5
        have hst8 := hs51
        go_wp2_with fail
        go_loopw [17, 18] (fun ll i wl => ∃ (j g9 c9 : Nat) (xs : List Value), j ≤ q ∧ i = .int .i64 j ∧ ll = .slice (some ⟨g9, 0, none⟩) j c9 ∧ Hid (w8.heap.size ≤ g9 ∧ g9 < wl.heap.size) ∧ Hid (Below w8.heap.size w8 wl) ∧ Hid (wl.ownsRow 0 28 1 (.slice (some ⟨g9, 0, none⟩) j c9) j xs)) (fun _ i _ => q - (intOf i).toNat)
        case atStart => exact ⟨0, w8.heap.size, 0, [], Nat.zero_le _, rfl, rfl, ⟨Nat.le_refl _, by simp⟩, belowA _ _, by simpa [Hid] using HROW8.out⟩
        case round =>
         clear HROW8
         obtain ⟨j, g9, c9, xs, hj, rfl, rfl, hg9, hb9, hr9⟩ := hrel
         have hz9 := hb9.out.size
         by_cases hjlt : j < q
         · have hjI : (j : Int) < q := by omega
           have hjP : j < PT.length := by rw [HPQ.out]; exact hjlt
           obtain ⟨b5, o5, u5, e5, q5, hx5⟩ := rdSl_one rfl (rdSl_mono hb9.out HPT8.out) j hjP
           simp only [Option.some.injEq, Addr.mk.injEq, and_true] at e5
           obtain ⟨rfl, rfl⟩ := e5
           rw [Nat.zero_add] at q5
           obtain ⟨a5, c5, rfl, _⟩ := rd_list hx5
           have hpl := qH (HTV.out _ (List.getElem_mem hjP)).1
           have HX5 := qH hx5
           clear hx5
           go_wp2_with fail
           refine (l00Own_c PT[j] _ _ HX5.out (by rw [hpl.out]; omega)).mono ?_
           rintro e w5 ⟨v5, rfl, hA5, hb5⟩
           obtain ⟨a6, c6, rfl, _⟩ := hA5.len
           clear hA5
           have hz5 := hb5.size
           go_wp2_with (at_builtin; refine wpList_append_row _ rfl _ _ _ rfl E_lists rfl (ownsRow_below (ownsRow_below hr9.out hb5) (belowA w5 (.cells #[.slice a6 PT[j].length c6] 28))) (v := .slice (some ⟨g9, 0, none⟩) j c9) (vs := [.slice a6 PT[j].length c6]) rfl (fun u hu => by rw [List.mem_singleton] at hu; subst hu; rfl) ⟨w5.heap.size, 0, none⟩ 1 rfl (news1 (cell_at_block (heap_alloc_new _ _))) (by omega) ?_; intro gN cN wN hat hrowN hbutN hltN)
           have hg1 := hg9.out.1
           have HGN := qH (show w8.heap.size ≤ gN by
            rcases hat with h | h
            · simp only [Value.ownBlock, Option.some.injEq] at h
              omega
            · simp at h; omega)
           have HRN := qH hrowN
           have HBN := qH (((hb9.out.trans (hb5.mono hb9.out.size)).trans ((belowA w5 (.cells #[.slice a6 PT[j].length c6] 28)).mono (by omega))).trans (hbutN.below (B := w8.heap.size) (fun z hz => by simp [Value.ownBlock] at hz; omega) (by simp; omega)))
           clear hat hrowN hbutN
           go_wp2_with fail
           go_roundw
           case rel => exact ⟨j + 1, gN, cN, _, hjlt, by go_num, rfl, ⟨HGN.out, hltN⟩, HBN.out, HRN.out⟩
           case measure => simp [intOf]; omega
         · obtain rfl : j = q := by omega
           have hnj : ¬ ((j : Int) < j) := by omega
           have HBE := qH (HBEL8.out.trans (hb9.out.mono HBEL8.out.size))
           go_wp2_with fail
           refine bodyPost_ret (v := .tuple #[.slice (some ⟨g9, 0, none⟩) j c9, .slice (some ⟨bo, oo, none⟩) MT.length co, .bool true]) (by simp [results, Tryz.results157, go_sem]) rfl ⟨⟨_, _, by rw [HQ.out]; rfl⟩, HBE.out⟩
  · obtain rfl : k = TOT := by omega
    have hnk : ¬ ((k : Int) < k) := by omega
    have HQ := qH (show keepsP size ((FA : Int), ftb) ((AR : Int), ts) = true by
     rw [HKP.out, List.all_eq_true]
     exact fun j hj => hr.out j (List.mem_range.1 hj))
    have HBE := qH (hst3.bel.trans (((belowA wr (.cells #[] 28)).trans ((belowA _ (.cells #[] 2)).mono (by simp))).mono hst3.bel.size))
    go_wp2_with fail
    refine bodyPost_ret (v := .tuple #[.slice (some ⟨wr.heap.size, 0, none⟩) 0 0, .slice (some ⟨wr.heap.size + 1, 0, none⟩) 0 0, .bool false]) (by simp [results, Tryz.results157, go_sem]) rfl ⟨⟨_, _, by rw [HQ.out]; rfl⟩, HBE.out⟩
theorem l02Keeps_c (size : Int) (f : OpT) (r : RelT) (pb po rb ro : Nat) (v0 v1 r0 r1 : Value) (w : World) (hf : Rd w [v0, v1] f) (c0 : w.cell? ⟨pb, po, none⟩ = some v0) (c1 : w.cell? ⟨pb, po + 1, none⟩ = some v1) (hr : Rd w [r0, r1] r) (d0 : w.cell? ⟨rb, ro, none⟩ = some r0) (d1 : w.cell? ⟨rb, ro + 1, none⟩ = some r1) (hok : opOk size f = true) (hrk : relOk size r = true) :
 Calls Tryz.prog 103 #[.int .i64 size, .pointer (some ⟨pb, po, none⟩), .pointer (some ⟨rb, ro, none⟩)] w fun e w' => e = .returned (.bool (keepsP size f r)) ∧ Below w.heap.size w w' := by
 go_enter Tryz.func103, Tryz.ntmps103
 go_wp2_with fail
 refine (l02Breaks_c size f r pb po rb ro v0 v1 r0 r1 _ hf c0 c1 hr d0 d1 hok hrk).mono ?_
 rintro e w1 ⟨x, y, rfl, hb1⟩
 have HB := qH hb1
 clear hb1
 go_wp2_with fail
 go_ret
 exact ⟨ret_bool (by simp), HB.out⟩
end Go.Proofs.YtpkdiiagnplpkaaGreat
namespace Go.Proofs.YtpkdiiagnplpkaaGreat
open Go.RowKit Go.Shelf
open Rep (Rd Own sz)
def tableTo (f : List Int → Int) (size : Int) (m : Nat) (k : Nat) : List Int := (List.range k).map fun (i : Nat) => f (digs size m (i : Int))
@[simp] theorem tableTo_length (f : List Int → Int) (size : Int) (m k : Nat) : (tableTo f size m k).length = k := by simp [tableTo]
end Go.Proofs.YtpkdiiagnplpkaaGreat
namespace Go.Proofs.YtpkdiiagnplpkaaGreat
open Go.RowKit Go.Shelf
open Rep (Rd Own sz)
end Go.Proofs.YtpkdiiagnplpkaaGreat
namespace Go.Proofs.YtpkdiiagnplpkaaGreat
open Go.RowKit Go.Shelf Go.IntWalk
open Rep (Rd Own sz)
end Go.Proofs.YtpkdiiagnplpkaaGreat
