/-
  SEVERAL TEXTS IN ONE.
-/
import Derived.Test.YtllenfkbfeanmaaGreatTmplBSa
import Derived.Test.YtllenfkbfeanmaaGreatRowsBSa
import Derived.Lib.BufferMore
import Derived.Test.YtllenfkbfeanmaaGreatRowBSa
import Derived.Shelf.Abstract
import Derived.Deep.RegionHeld3
import Derived.Test.YtllenfkbfeanmaaGreatBaseSa

/-
  CONTRACTS: what an operation makes of tuples; whether it keeps a relation; the program's side.
-/
namespace Go.Proofs.YtllenfkbfeanmaaGreat
open Go.RowKit Go.Shelf Go.IntWalk
open Rep (Rd Own sz)
set_option linter.unusedSimpArgs false
set_option linter.unusedVariables false

theorem part_set {α : Type} {R : List α} {d : α} {p : Nat} (h : p < R.length) : (R.take p ++ List.replicate (R.length - p) d).set p R[p] = R.take (p + 1) ++ List.replicate (R.length - (p + 1)) d := by
  rw [List.set_append_right _ _ (by simp; omega), show p - (R.take p).length = 0 by simp; omega, show R.length - p = (R.length - (p + 1)) + 1 by omega, List.replicate_succ, List.set_cons_zero, List.take_succ_eq_append_getElem h, List.append_assoc]
  rfl
/-- The headers of a slice of slices. -/
theorem rd_hdrs {w : World} {a : Option Addr} {c : Nat} {l : List (List Int)} (h : RdSl w a c l) (h0 : 0 < l.length) : ∃ (b o : Nat) (vh : Nat → Value), a = some ⟨b, o, none⟩ ∧ ∀ q (hq : q < l.length), w.cell? ⟨b, o + q, none⟩ = some (vh q) ∧ Rd w [vh q] l[q] := by
  obtain ⟨b, o, u, rfl, _, _⟩ := rdSl_one rfl h 0 h0
  have key : ∀ q, ∃ v, ∀ hq : q < l.length, w.cell? ⟨b, o + q, none⟩ = some v ∧ Rd w [v] l[q] := by
    intro q
    by_cases hq : q < l.length
    · obtain ⟨b', o', v, e, hc, hr⟩ := rdSl_one rfl h q hq
      simp only [Option.some.injEq, Addr.mk.injEq, and_true] at e
      obtain ⟨rfl, rfl⟩ := e
      exact ⟨v, fun _ => ⟨hc, hr⟩⟩
    · exact ⟨.bool false, fun h => absurd h hq⟩
  exact ⟨b, o, fun q => (key q).choose, rfl, fun q hq => (key q).choose_spec hq⟩
/-- What a row of headers reads as. -/
theorem rd_of_row1 {w : World} {e : TypeId} {g n c : Nat} {xs : List Value} {l : List (List Int)} (h : w.ownsRow 0 e 1 (.slice (some ⟨g, 0, none⟩) n c) n xs) (hn : n = l.length) (hel : ∀ i (hi : i < l.length), ∃ v, xs[i]? = some v ∧ Rd w [v] l[i]) : Rd w [.slice (some ⟨g, 0, none⟩) n c] l := by
  subst hn
  rcases h.2 with ⟨e0, _⟩ | ⟨g', cap, cur, e1, _, hh, hc, hm, hs, ht⟩
  · cases e0
  simp only [Value.slice.injEq, Option.some.injEq, Addr.mk.injEq, and_true, true_and] at e1
  obtain ⟨rfl, rfl⟩ := e1
  refine ⟨_, _, rfl, hc, hm, fun i hi => ?_⟩
  obtain ⟨v, hv, hr⟩ := hel i hi
  refine ⟨g, 0, [v], rfl, hr, fun k hk => ?_⟩
  obtain rfl : k = 0 := by simpa using hk
  rw [cell_at_block hh]
  rw [← ht] at hv
  have : i < l.length * 1 := by omega
  simp only [List.getElem?_take, if_pos this] at hv
  simpa [sz] using hv
/-- A bool of a slice that is the call's own. -/
theorem ownSl_bool {g : Nat} {w : World} {v : Value} {l : List Bool} (h : OwnSl [g] w v l) (i : Nat) (hi : i < l.length) :
    ∃ o c, v = .slice (some ⟨g, o, none⟩) l.length c ∧ w.cell? ⟨g, o + i, none⟩ = some (.bool l[i]) ∧ w.frozen? ⟨g, o + i, none⟩ = false ∧
      ∀ x, OwnSl [g] (w.setCell ⟨g, o + i, none⟩ (.bool x)) v (l.set i x) := by
  obtain ⟨g', o, c, cur, e, p, vs, hv, hg, hO, hc, hgp, hgn, hpn, hpp, hput⟩ := own_elem h (by simp) i hi
  obtain rfl : g' = g := by simpa using hgp
  obtain ⟨rfl, rfl⟩ := hO
  have hci := hc 0 (by simp)
  simp at hci
  refine ⟨o, c, hv, by rw [cell_at_block hg]; exact hci, free_at_block hg, fun x => ?_⟩
  refine hput _ [.bool x] x ?_ ⟨rfl, rfl⟩ (fun z hz _ hzg => ?_)
  · rw [heap_setCell_at _ _ _ _ _ _ _ hg]; simp [putArr, sz]
  · exact Below.heap_setCell _ _ _ _ hzg
set_option maxRecDepth 100000 in
set_option maxHeartbeats 4000000 in
theorem made_c (size : Int) (f : OpT) (ts : List (List Int)) (ar : Nat) (v0 v1 vt : Value) (w : World) (hf : Rd w [v0, v1] f) (ht : Rd w [vt] ts) (hok : opOk size f = true) (hlen : (ts.length : Int) = f.1) (hv : ∀ t, t ∈ ts → t.length = ar ∧ Val size t) (har : ar ≤ 1000) :
    Calls Tryz.prog 195 #[.int .i64 size, .agg #[v0, v1], vt] w fun e w' => ∃ v, e = .returned v ∧ Fresh w.heap.size w' [v] (makeT size f ts ar) ∧ Below w.heap.size w w' := by
  have hs := (opOk_get hok).1
  have hfa := (opOk_get hok).2.1
  have hR : (makeT size f ts ar).length = ar := by simp [makeT]
  have HRP := Lib.hid (fun (p : Nat) (hp : p < (makeT size f ts ar).length) => show (makeT size f ts ar)[p] = valOf size f (ts.map (fun t => t.getD p 0)) by simp [makeT])
  have HMV := Lib.hid (make_val hok hlen hv).2.2
  have HMR := Lib.hid (make_val hok hlen hv).2.1
  generalize hRR : makeT size f ts ar = R at *
  clear hRR
  have HOK := Lib.hid hok
  have HF := Lib.hid hf
  have HLEN := Lib.hid hlen
  have HV := Lib.hid hv
  have zf := rd_cons rfl hf
  obtain ⟨rfl, _⟩ := rd_i1 zf.1
  obtain ⟨af, cf, rfl, _⟩ := rd_list zf.2
  have HFT := Lib.hid zf.2
  obtain ⟨a, c, rfl, htr⟩ := rd_list ht
  have HT := Lib.hid htr
  have hl3 : ts.length ≤ 3 := by omega
  have hl0 : 0 < ts.length := by omega
  obtain ⟨b, o, u0, rfl, q0, hx0⟩ := rdSl_one rfl htr 0 hl0
  obtain ⟨a0, c0, rfl, _⟩ := rd_list hx0
  have hA0 := (hv _ (List.getElem_mem hl0)).1
  rw [hA0, Nat.add_zero] at q0
  clear hok hf ht htr zf hx0 hv hlen
  have q0_ := cellL (St.start w).bel q0
  have hs1 := (St.start w).alloc #[.int .i64 f.1, .slice af f.2.length cf] 34 (n := w.heap.size) (by simp)
  clear q0_
  have k0_0 := hs1.cellAt 0 rfl 0 rfl
  have k0_1 := hs1.cellAt 0 rfl 1 rfl
  have q0_ := cellL hs1.bel q0
  have HS0 := Lib.hid hs1
  go_enter Tryz.func195, Tryz.ntmps195
  go_wp2_with (at_make; refine wpList_make_rep _ rfl _ _ 32 rfl E_ints (0 : Int) own0_int ar (by omega) rfl rfl ?_; intro w1 hown hb1 hs1)
  rw [show (w.alloc (.cells #[.int .i64 f.1, .slice af f.2.length cf] 34)).heap.size = w.heap.size + 1 by simp] at hown hb1 hs1
  have HO := Lib.hid hown
  have hst1 := HS0.out.step (w1 := w1) (by simpa using hb1)
  have HST := Lib.hid hst1
  have hsz1 : w.heap.size + 2 ≤ w1.heap.size := by omega
  clear hown hb1 hs1 hst1 k0_0 k0_1 q0_ HS0
  go_wp2_with fail
  go_loopw [19] (fun i wr => ∃ p : Nat, p ≤ ar ∧ i = .int .i64 p ∧ Hid (OnlyAt [w.heap.size + 1] w1 wr) ∧ Hid (OwnSl [w.heap.size + 1] wr (.slice (some ⟨w.heap.size + 1, 0, none⟩) ar ar) (R.take p ++ List.replicate (ar - p) 0))) (fun i _ => ar - (intOf i).toNat)
  case atStart => exact ⟨0, Nat.zero_le _, rfl, OnlyAt.refl _ _, by simpa [Hid] using HO.out⟩
  case round =>
    clear HO
    obtain ⟨p, hp, rfl, ho, hw⟩ := hrel
    have hst2 := HST.out.butIv (OnlyAt.but ho.out) (fun z hz => by simp at hz; omega) (fun x hx hz => by simp at hx hz; subst hx; simp at hz)
    have k0_0 := hst2.cellAt 0 rfl 0 rfl
    have k0_1 := hst2.cellAt 0 rfl 1 rfl
    have q0_ := cellL hst2.bel q0
    by_cases hlt : p < ar
    · have hltI : (p : Int) < ar := by omega
      have HAV := Lib.hid (show ∀ a, a ∈ ts.map (fun t => t.getD p 0) → 0 ≤ a ∧ a ≤ size - 1 from HMV.out p hlt)
      obtain ⟨K, hK, e1, e2, -, -, e5, e6⟩ := valOf_at (args := ts.map (fun t => t.getD p 0)) HOK.out (by simpa using HLEN.out) HAV.out
      have HCK := Lib.hid e1
      have HVK := Lib.hid (show ∀ h : p < R.length, R[p] = f.2[K] from fun h => by rw [HRP.out p h, e2])
      obtain ⟨bf, of, ef, qf, hIf⟩ := rd_int_at (Rd.mono HFT.out hst2.bel) K hK
      have HIF := Lib.hid hIf
      have HP6 := Lib.hid e6
      clear e1 e2 e6 hIf
      subst ef
      go_wp2_with fail
      go_loop [9, 24] (fun q i => ∃ (k : Nat) (Q : Int), k ≤ ts.length ∧ i = .int .i64 k ∧ q = .int .i64 Q ∧ Hid (Q = codeL size ((ts.map (fun t => t.getD p 0)).take k))) (fun _ i => ts.length - (intOf i).toNat)
      case atStart => exact ⟨0, 0, Nat.zero_le _, rfl, rfl, rfl⟩
      case round =>
        obtain ⟨k, Q, hk, rfl, rfl, hq⟩ := hrel
        by_cases hklt : k < ts.length
        · have hkl : (k : Int) < ts.length := by omega
          obtain ⟨b2, o2, u2, e3, q2, hx2⟩ := rdSl_one rfl (rdSl_mono hst2.bel HT.out) k hklt
          simp only [Option.some.injEq, Addr.mk.injEq, and_true] at e3
          obtain ⟨rfl, rfl⟩ := e3
          have hTL := HV.out _ (List.getElem_mem hklt)
          obtain ⟨a2, c2, rfl, _⟩ := rd_list hx2
          obtain ⟨b4, o4, rfl, q4, _⟩ := rd_int_at hx2 p (by rw [hTL.1]; exact hlt)
          rw [hTL.1] at q2
          have hst := codeL_step hs.1 HAV.out (by have := HP6.out; omega) (k := k) (by simpa using hklt)
          have HCT := Lib.hid (codeL_take (size := size) (l := ts.map (fun t => t.getD p 0)) (k := k) (by simpa using hklt))
          have he : (ts.map (fun t => t.getD p 0))[k]'(by simpa using hklt) = ts[k][p]'(by rw [hTL.1]; exact hlt) := by simp [List.getD, hTL.1, hlt]
          rw [he, ← hq.out] at hst
          have HQ2 := Lib.hid (show Q * size + ts[k][p]'(by rw [hTL.1]; exact hlt) = codeL size ((ts.map (fun t => t.getD p 0)).take (k + 1)) by rw [HCT.out, he, hq.out])
          clear HCT he hx2
          generalize ts[k][p]'(by rw [hTL.1]; exact hlt) = Y at *
          obtain ⟨g1, g2, g3, g4, g5⟩ := hst
          go_wp2_with fail
          go_round
          case rel => exact ⟨k + 1, Q * size + Y, by omega, by go_num, rfl, HQ2.out⟩
          case measure => simp [intOf]; omega
        · obtain rfl : k = ts.length := by omega
          have hQK : Q = (K : Int) := by rw [hq.out, ← HCK.out, List.take_of_length_le (by simp)]
          subst hQK
          have hKl : (K : Int) < f.2.length := by omega
          obtain ⟨g9, o9, c9, hv9, hps9, hcd9, hf9, hset9⟩ := ownSl_int hw.out p (by simp; omega)
          simp only [Value.slice.injEq, Option.some.injEq, Addr.mk.injEq] at hv9
          obtain ⟨⟨rfl, rfl, -⟩, -, rfl⟩ := hv9
          rw [Nat.zero_add] at hcd9 hf9
          generalize (R.take p ++ List.replicate (ar - p) 0).getD p 0 = Z9 at hcd9
          have HR9 := Lib.hid hR
          clear hR
          have HS9 := Lib.hid (hset9 (f.2[K]) HIF.out)
          rw [Nat.zero_add] at HS9
          have HPS := Lib.hid (part_set (R := R) (d := (0 : Int)) (p := p) (by have := HR9.out; omega))
          have HO9 := Lib.hid (ho.out.setCell (p := ⟨w.heap.size + 1, p, none⟩) (by simp) (.int .i64 f.2[K]))
          clear hset9 hps9
          go_wp2_with fail
          go_roundw
          case rel =>
            refine ⟨p + 1, by omega, by go_num, HO9.out, ?_⟩
            have h5 := HS9.out
            have h6 := HPS.out
            rw [HVK.out (by have := HR9.out; omega)] at h6
            rw [HR9.out] at h6
            rw [h6] at h5
            exact h5
          case measure => simp [intOf]; omega
    · obtain rfl : p = ar := by omega
      have hnl : ¬ ((p : Int) < p) := by omega
      go_wp2_with fail
      go_ret
      refine ⟨_, rfl, ⟨[w.heap.size + 1], ⟨_, rfl, ?_⟩, by simp, by simp⟩, hst2.bel⟩
      have h5 := hw.out
      rw [List.take_of_length_le (by omega), Nat.sub_self, List.replicate_zero, List.append_nil] at h5
      exact h5
set_option maxRecDepth 100000 in
set_option maxHeartbeats 16000000 in
theorem broken_c (size : Int) (f : OpT) (r : RelT) (f0 f1 r0 r1 : Value) (w : World) (hf : Rd w [f0, f1] f) (hr : Rd w [r0, r1] r) (hok : opOk size f = true) (hrk : relOk size r = true) :
    Calls Tryz.prog 175 #[.int .i64 size, .agg #[f0, f1], .agg #[r0, r1]] w fun e w' => ∃ (vl : Value) (ao : Option Addr) (n c : Nat), e = .returned (.tuple #[vl, .slice ao n c]) ∧ ao.isNone = keepsP size f r ∧ (ao = none → n = 0 ∧ c = 0) ∧ Below w.heap.size w w' := by
  obtain ⟨far, ftb⟩ := f
  obtain ⟨rar, ts⟩ := r
  have hs := (opOk_get hok).1
  have hfa := (opOk_get hok).2.1
  have hra := (relOk_get hrk).2.1
  have hcnt := relOk_count hrk
  have hp256 := pow256 hs hra
  simp only at hfa hra hcnt hp256
  have HVAL := Lib.hid (relOk_val hrk)
  have HOK := Lib.hid hok
  have HRK := Lib.hid hrk
  have HF := Lib.hid hf
  have zf := rd_cons rfl hf
  obtain ⟨rfl, _⟩ := rd_i1 zf.1
  obtain ⟨af, cf, rfl, _⟩ := rd_list zf.2
  have zr := rd_cons rfl hr
  obtain ⟨rfl, _⟩ := rd_i1 zr.1
  obtain ⟨a, c, rfl, htr⟩ := rd_list zr.2
  have hb0 := (rdSl_len htr).2
  unfold maxLen at hb0
  have HTR := Lib.hid htr
  clear hf hr zf zr hok hrk htr
  have hs2 := (St.start w).alloc #[.int .i64 far, .slice af ftb.length cf] 34 (n := w.heap.size) (by simp)
  have k0_0 := hs2.cellAt 0 rfl 0 rfl
  have k0_1 := hs2.cellAt 0 rfl 1 rfl
  have hs3 := hs2.alloc #[.int .i64 rar, .slice a ts.length c] 50 (n := w.heap.size + 1) (by simp)
  clear k0_0 k0_1
  have k0_0 := hs3.cellAt 0 rfl 0 rfl
  have k0_1 := hs3.cellAt 0 rfl 1 rfl
  have k1_0 := hs3.cellAt 1 rfl 0 rfl
  have k1_1 := hs3.cellAt 1 rfl 1 rfl
  obtain ⟨AR, rfl⟩ : ∃ x : Nat, rar = x := ⟨rar.toNat, by omega⟩
  obtain ⟨FA, rfl⟩ : ∃ x : Nat, far = x := ⟨far.toNat, by omega⟩
  simp only [Int.toNat_natCast] at hcnt hp256
  obtain ⟨PN, hPN⟩ : ∃ x : Nat, size ^ AR = (x : Int) := ⟨(size ^ AR).toNat, by omega⟩
  have HPN := Lib.hid hPN
  rw [hPN] at hcnt hp256
  clear hPN
  have HS0 := Lib.hid hs3
  go_enter Tryz.func175, Tryz.ntmps175
  go_wp2_with fail
  refine (power_c size AR _ (by omega) (by omega) (by omega) (by rw [Int.toNat_natCast, HPN.out]; omega)).mono ?_
  rintro e w4 ⟨rfl, rfl, rfl⟩
  rw [Int.toNat_natCast, HPN.out]
  by_cases hfull : ts.length = PN
  · have HK := Lib.hid (keeps_full HOK.out HRK.out (show ((ts.length : Nat) : Int) = size ^ ((AR : Int)).toNat by rw [Int.toNat_natCast, HPN.out, hfull]))
    have hfb : ((ts.length : Int) == (PN : Int)) = true := by simp [hfull]
    clear hfull
    go_wp2_with fail
    refine bodyPost_ret (v := .tuple #[.slice none 0 0, .slice none 0 0]) (by simp [results, Tryz.results175, go_sem]) rfl ⟨_, none, 0, 0, rfl, by rw [HK.out]; rfl, fun _ => ⟨rfl, rfl⟩, hs3.bel⟩
  · have hfb : ((ts.length : Int) == (PN : Int)) = false := by simp; omega
    clear hfull
    go_wp2_with fail
    refine (power_c size AR _ (by omega) (by omega) (by omega) (by rw [Int.toNat_natCast, HPN.out]; omega)).mono ?_
    rintro e w5 ⟨rfl, rfl, rfl⟩
    rw [Int.toNat_natCast, HPN.out]
    go_wp2_with (at_make; refine wpList_make_rep _ rfl _ _ 161 rfl E_bools false own0_bool PN (by omega) rfl rfl ?_; intro w1 hown hb1 hs1; have hst1 := hs3.step hb1; have p00 := hst1.cellAt 0 rfl 0 rfl; have p01 := hst1.cellAt 0 rfl 1 rfl; have p10 := hst1.cellAt 1 rfl 0 rfl; have p11 := hst1.cellAt 1 rfl 1 rfl)
    rw [show ((w.alloc (.cells #[.int .i64 FA, .slice af ftb.length cf] 34)).alloc (.cells #[.int .i64 AR, .slice a ts.length c] 50)).heap.size = w.heap.size + 1 + 1 by simp] at hown hs1
    have HO := Lib.hid hown
    have HST := Lib.hid hst1
    have hsz1 : w.heap.size + 1 + 1 + 1 ≤ w1.heap.size := by omega
    clear hown hb1 hs1 hst1 k0_0 k0_1 k1_0 k1_1 HS0 p00 p01 p10 p11
    go_wp2_with fail
    go_loopw [34] (fun i wl => ∃ k : Nat, k ≤ ts.length ∧ i = .int .i64 k ∧ Hid (OnlyAt [w.heap.size + 1 + 1] w1 wl) ∧ Hid (OwnSl [w.heap.size + 1 + 1] wl (.slice (some ⟨w.heap.size + 1 + 1, 0, none⟩) PN PN) (setTo size PN ts k))) (fun i _ => ts.length - (intOf i).toNat)
    case atStart => exact ⟨0, Nat.zero_le _, rfl, OnlyAt.refl _ _, HO.out⟩
    case round =>
      clear HO
      obtain ⟨k, hk, rfl, ho, hw⟩ := hrel
      have hst2 := HST.out.butIv (OnlyAt.but ho.out) (fun z hz => by simp at hz; omega) (fun x hx hz => by simp only [List.mem_singleton] at hz; simp at hx; rcases hx with rfl | rfl <;> (simp only at hz; omega))
      have hszr : w1.heap.size ≤ wr.heap.size := by rw [ho.out.size]; exact Nat.le_refl _
      have HSL := Lib.hid (setTo_len size PN ts k)
      have k0_0 := hst2.cellAt 0 rfl 0 rfl
      have k0_1 := hst2.cellAt 0 rfl 1 rfl
      have k1_0 := hst2.cellAt 1 rfl 0 rfl
      have k1_1 := hst2.cellAt 1 rfl 1 rfl
      by_cases hlt : k < ts.length
      · have hltI : (k : Int) < ts.length := by omega
        obtain ⟨b, o, u0, rfl, q0, hx⟩ := rdSl_one rfl (rdSl_mono hst2.bel HTR.out) k hlt
        have HX := Lib.hid hx
        obtain ⟨a0, c0, rfl, _⟩ := rd_list hx
        have hvv := HVAL.out _ (List.getElem_mem hlt)
        have hcb := codeL_bd hs.1 ts[k] hvv.2
        rw [hvv.1, Int.toNat_natCast, HPN.out] at hcb
        have HVV := Lib.hid (show ∀ x, x ∈ ts[k] → 0 ≤ x ∧ x ≤ size - 1 from hvv.2)
        have HLN := Lib.hid hvv.1
        obtain ⟨C, hC⟩ : ∃ C : Nat, codeL size ts[k] = C := ⟨(codeL size ts[k]).toNat, by omega⟩
        have HC := Lib.hid hC
        rw [hC] at hcb
        have HSS := Lib.hid (show (setTo size PN ts k).set C true = setTo size PN ts (k + 1) by
          rw [setTo, show ts.getD k [] = ts[k] by simp [List.getD, hlt], HC.out, Int.toNat_natCast])
        clear hx hvv hC
        obtain ⟨o9, c9, hv9, hcd9, hf9, hset9⟩ := ownSl_bool hw.out C (by rw [HSL.out]; omega)
        simp only [Value.slice.injEq, Option.some.injEq, Addr.mk.injEq] at hv9
        obtain ⟨⟨-, rfl, -⟩, -, rfl⟩ := hv9
        rw [Nat.zero_add] at hcd9 hf9
        have HS9 := Lib.hid (hset9 true)
        rw [Nat.zero_add, HSS.out] at HS9
        have HO9 := Lib.hid (ho.out.setCell (p := ⟨w.heap.size + 1 + 1, C, none⟩) (by simp) (.bool true))
        have hCl : (C : Int) < PN := by omega
        generalize (setTo size PN ts k)[C]'(by rw [HSL.out]; omega) = B9 at hcd9
        clear hset9
        go_wp2_with fail
        refine (indexOf_c size ts[k] _ _ HX.out hs.1 HVV.out (by rw [HLN.out, Int.toNat_natCast, HPN.out]; omega)).mono ?_
        rintro e w3 ⟨rfl, rfl⟩
        rw [HC.out]
        go_wp2_with fail
        go_roundw
        case rel => exact ⟨k + 1, by omega, by go_num, HO9.out, HS9.out⟩
        case measure => simp [intOf]; omega
      · obtain rfl : k = ts.length := by omega
        have hnl : ¬ ((ts.length : Int) < ts.length) := by omega
        have hTOT : ts.length ^ FA ≤ 256 ^ 3 := Nat.le_trans (Nat.pow_le_pow_left hcnt.2 FA) (Nat.pow_le_pow_right (by omega) (by omega))
        have HTOT := Lib.hid (show ((ts.length : Int)) ^ FA = ((ts.length ^ FA : Nat) : Int) by simp)
        have HKP := Lib.hid (show keepsP size ((FA : Int), ftb) ((AR : Int), ts) = (List.range (ts.length ^ FA)).all (fun i => keepAt size ((FA : Int), ftb) ((AR : Int), ts) i) by unfold keepsP; simp)
        have HSM := Lib.hid (fun (t : List Int) (hl : t.length = AR) (ht : Val size t) => setTo_mem hs.1 (ar := AR) HPN.out.symm (x := ts) (fun t h => by have := HVAL.out t h; rw [Int.toNat_natCast] at this; exact this) hl ht)
        have HLS := Lib.hid (setTo_len size PN ts ts.length)
        have hFA0 : 0 < FA := by omega
        have HZ := Lib.hid (show ts.length = 0 → ts.length ^ FA = 0 from fun h => by rw [h]; exact Nat.zero_pow hFA0)
        generalize hTT : ts.length ^ FA = TOT at *
        clear hTT
        have HOW := Lib.hid hw.out
        go_wp2_with fail
        refine (power_c ts.length FA _ (by omega) (by omega) (by omega) (by rw [Int.toNat_natCast, HTOT.out]; omega)).mono ?_
        rintro e w6 ⟨rfl, rfl, rfl⟩
        rw [Int.toNat_natCast, HTOT.out]
        obtain ⟨wA, rfl⟩ : ∃ x, x = wr := ⟨_, rfl⟩
        go_wp2_with fail
        go_loopw [48] (fun i wl => ∃ k : Nat, k ≤ TOT ∧ i = .int .i64 k ∧ Hid (Below wA.heap.size wA wl) ∧ Hid (∀ j, j < k → keepAt size ((FA : Int), ftb) ((AR : Int), ts) j = true)) (fun i _ => TOT - (intOf i).toNat)
        case atStart => exact ⟨0, Nat.zero_le _, rfl, Below.refl _ _, fun j hj => absurd hj (Nat.not_lt_zero _)⟩
        case round =>
          obtain ⟨k, hk2, rfl, hbl, hr⟩ := hrel
          have hst3 := hst2.step hbl.out
          have HOB := Lib.hid (ownSl_mono HOW.out hbl.out)
          have hszB := hbl.out.size
          have k0_0 := hst3.cellAt 0 rfl 0 rfl
          have k0_1 := hst3.cellAt 0 rfl 1 rfl
          have k1_0 := hst3.cellAt 1 rfl 0 rfl
          have k1_1 := hst3.cellAt 1 rfl 1 rfl
          by_cases hklt : k < TOT
          · have hkI : (k : Int) < TOT := by omega
            have hts0 : 0 < ts.length := by
              rcases Nat.eq_zero_or_pos ts.length with h | h
              · have := HZ.out h; omega
              · exact h
            have hstE := hst3.step (belowA wr (.cells #[] 32))
            have e00 := hstE.cellAt 0 rfl 0 rfl
            have e01 := hstE.cellAt 0 rfl 1 rfl
            have e10 := hstE.cellAt 1 rfl 0 rfl
            have e11 := hstE.cellAt 1 rfl 1 rfl
            go_wp2_with fail
            refine (listOf_c ts.length FA k _ (by omega) (by omega) (by omega) (by omega) (by omega) (by omega)).mono ?_
            rintro e w3 ⟨vv, rfl, fr, hb3⟩
            rw [Int.toNat_natCast] at fr
            obtain ⟨av, cv, rfl, _⟩ := rd_list fr.rd
            have hAL := digs_length ts.length FA k
            have HAM := Lib.hid (digs_mem ts.length (by omega) FA k)
            have HKA := Lib.hid (show keepAt size ((FA : Int), ftb) ((AR : Int), ts) k = hasT ts (makeT size ((FA : Int), ftb) (pickT ts (digs ts.length FA k)) AR) by unfold keepAt; simp)
            generalize hAT : digs ts.length FA k = AT at *
            clear hAT
            rw [hAL] at fr
            have HAL := Lib.hid hAL
            have hbb := (belowA wr (.cells #[] 32)).trans (hb3.mono (by simp))
            have hz3 : wr.heap.size + 1 ≤ w3.heap.size := by have := hb3.size; simpa using this
            have HB3 := Lib.hid hbb
            have HROW := Lib.hid (ownsRow_below (row_made (size := 1) wr 32) hb3)
            have HAI := Lib.hid (show Ip (fun z => wr.heap.size + 1 ≤ z ∧ z < w3.heap.size) w3 [.slice av FA cv] AT from fr.ip.wk (fun z hz => by simpa using hz))
            have HOB3 := Lib.hid (ownSl_mono HOB.out hbb)
            have hst4 := hst3.step hbb
            obtain ⟨bT, oT, vh, rfl, HVH⟩ := rd_hdrs HTR.out hts0
            have HVH := Lib.hid HVH
            obtain ⟨wo, rfl⟩ : ∃ x, x = wr := ⟨_, rfl⟩
            rw [hAL]
            clear fr hb3 hbb hAL hstE e00 e01 e10 e11 k0_0 k0_1 k1_0 k1_1
            have k0_0 := hst4.cellAt 0 rfl 0 rfl
            have k0_1 := hst4.cellAt 0 rfl 1 rfl
            have k1_0 := hst4.cellAt 1 rfl 0 rfl
            have k1_1 := hst4.cellAt 1 rfl 1 rfl
            go_wp2_with fail
            go_loopw [13, 58] (fun ll i wl => ∃ (q g' c' : Nat), q ≤ FA ∧ i = .int .i64 q ∧ ll = .slice (some ⟨g', 0, none⟩) q c' ∧ Hid (g' = wo.heap.size ∨ w3.heap.size ≤ g') ∧ Hid (ButP (fun z => z = wo.heap.size ∨ w3.heap.size ≤ z) w3 wl) ∧ Hid (wl.ownsRow 0 32 1 (.slice (some ⟨g', 0, none⟩) q c') q ((AT.take q).map (fun x => vh x.toNat)))) (fun _ i _ => FA - (intOf i).toNat)
            case atStart => exact ⟨0, wo.heap.size, 0, Nat.zero_le _, rfl, rfl, .inl rfl, ButP.refl _ _, by simpa [Hid] using HROW.out⟩
            case round =>
              clear HROW
              obtain ⟨q, g', c', hq, rfl, rfl, hg', hbp, hrow⟩ := hrel
              have hst5 := hst4.butP hbp.out (fun z hz => by omega) (fun x hx hz => by simp at hx; rcases hx with rfl | rfl <;> (simp only at hz; omega))
              have HAI5 := Lib.hid (Ip.butP HAI.out hbp.out (fun z hz hz2 => by omega))
              have hszC := hbp.out.size
              have k0_0 := hst5.cellAt 0 rfl 0 rfl
              have k0_1 := hst5.cellAt 0 rfl 1 rfl
              have k1_0 := hst5.cellAt 1 rfl 0 rfl
              have k1_1 := hst5.cellAt 1 rfl 1 rfl
              by_cases hqlt : q < FA
              · have hqI : (q : Int) < FA := by omega
                obtain ⟨ba, oa, rfl, qa, _⟩ := rd_int_at HAI5.out.rd q (by rw [HAL.out]; exact hqlt)
                have hA := HAM.out _ (List.getElem_mem (show q < AT.length by rw [HAL.out]; exact hqlt))
                obtain ⟨n, hn⟩ : ∃ n : Nat, AT[q]'(by rw [HAL.out]; exact hqlt) = (n : Int) := ⟨(AT[q]'(by rw [HAL.out]; exact hqlt)).toNat, by omega⟩
                rw [hn] at hA qa
                have hnl : n < ts.length := by omega
                have hnI : (n : Int) < ts.length := by omega
                obtain ⟨hcn, hrn⟩ := HVH.out n hnl
                have hcn2 := cellL hst5.bel hcn
                obtain ⟨ax, cx, hvx, _⟩ := rd_list hrn
                rw [hvx] at hcn2
                have HXS := Lib.hid (show (AT.take (q + 1)).map (fun x => vh x.toNat) = (AT.take q).map (fun x => vh x.toNat) ++ [.slice ax ts[n].length cx] by
                  rw [List.take_succ_eq_append_getElem (show q < AT.length by rw [HAL.out]; exact hqlt), List.map_append, hn]
                  simp [hvx])
                clear hcn hrn hvx hn
                go_wp2_with (at_builtin; refine wpList_append_row _ rfl _ _ _ rfl E_lists rfl (ownsRow_below hrow.out (belowA wr (.cells #[.slice ax ts[n].length cx] 32))) (v := .slice (some ⟨g', 0, none⟩) q c') (vs := [.slice ax ts[n].length cx]) rfl (fun u hu => by rw [List.mem_singleton] at hu; subst hu; rfl) ⟨wr.heap.size, 0, none⟩ 1 rfl (news1 (cell_at_block (heap_alloc_new _ _))) (by omega) ?_; intro g9 c9 w9 hg9 hrow9 hb9 hlt9)
                rw [← HXS.out] at hrow9
                have HR9 := Lib.hid hrow9
                have HG9 := Lib.hid (show g9 = wo.heap.size ∨ w3.heap.size ≤ g9 by
                  rcases hg9 with h | h
                  · simp only [Value.ownBlock, Option.some.injEq] at h
                    subst h; exact hg'.out
                  · simp at h; omega)
                have HB9 := Lib.hid ((hbp.out.trans (ButP.of (A := fun _ => False) (belowA wr (.cells #[.slice ax ts[n].length cx] 32))) (fun z h => h.elim)).trans (hb9.butP (A := fun z => z = g') (fun z hz => by simpa [Value.ownBlock] using hz)) (fun z hz => .inl (by subst hz; exact hg'.out)))
                clear hg9 hrow9 hb9 hlt9
                go_wp2_with fail
                go_roundw
                case rel => exact ⟨q + 1, g9, c9, by omega, by go_num, rfl, HG9.out, HB9.out, HR9.out⟩
                case measure => simp [intOf]; omega
              · obtain rfl : q = FA := by omega
                have hnq : ¬ ((q : Int) < q) := by omega
                have HPM := Lib.hid (pick_mem (x := ts) (l := AT) HAM.out)
                have HL := Lib.hid (show Rd wr [.slice (some ⟨g', 0, none⟩) q c'] (pickT ts AT) from rd_of_row1 hrow.out (by simp [pickT, HAL.out]) (fun i hi => by
                  have hi2 : i < AT.length := by simpa [pickT] using hi
                  have hA := HAM.out _ (List.getElem_mem hi2)
                  have hnl : (AT[i]).toNat < ts.length := by omega
                  refine ⟨vh (AT[i]).toNat, ?_, ?_⟩
                  · rw [List.take_of_length_le (by rw [HAL.out]; exact Nat.le_refl _)]; simp [hi2]
                  · rw [show (pickT ts AT)[i] = ts[(AT[i]).toNat] by simp [pickT, List.getD, hnl]]
                    exact Rd.mono (HVH.out _ hnl).2 hst5.bel))
                have HOB5 := Lib.hid (own_list (Own.butP (vs := [Value.slice (some ⟨w.heap.size + 1 + 1, 0, none⟩) PN PN]) ⟨_, rfl, HOB3.out⟩ hbp.out (fun z hz hz2 => by rw [List.mem_singleton] at hz; omega)))
                have HTV := Lib.hid (show ∀ t, t ∈ pickT ts AT → t.length = AR ∧ Val size t from fun t ht => by have := HVAL.out t (HPM.out t ht); rwa [Int.toNat_natCast] at this)
                have HPL := Lib.hid (show ((pickT ts AT).length : Int) = ((q : Int), ftb).1 by simp [pickT, HAL.out])
                go_wp2_with fail
                refine (made_c size ((q : Int), ftb) (pickT ts AT) AR _ _ _ _ (Rd.mono HF.out hst5.bel) HL.out HOK.out HPL.out HTV.out (by omega)).mono ?_
                rintro e w7 ⟨vo, rfl, fro, hbw7⟩
                have hz_w7 : wr.heap.size ≤ w7.heap.size := by have h9 := hbw7.size; (try simp at h9); omega
                have hs8 := hst5.step hbw7
                have HOB5_9 := Lib.hid (ownSl_mono HOB5.out hbw7)
                clear HOB5
                clear k0_0 k0_1 k1_0 k1_1
                have k0_0 := hs8.cellAt 0 rfl 0 rfl
                have k0_1 := hs8.cellAt 0 rfl 1 rfl
                have k1_0 := hs8.cellAt 1 rfl 0 rfl
                have k1_1 := hs8.cellAt 1 rfl 1 rfl
                have HMK := Lib.hid (make_val HOK.out HPL.out HTV.out)
                obtain ⟨ao, co, rfl, hmr⟩ := rd_list fro.rd
                have HFO := Lib.hid fro.rd
                clear fro
                generalize hMT : makeT size ((q : Int), ftb) (pickT ts AT) AR = MT at *
                clear hMT
                have hML := HMK.out.1
                obtain ⟨bo, oo, rfl, -, -⟩ := rd_int_at HFO.out 0 (by rw [hML]; omega)
                have hcb := codeL_bd hs.1 MT HMK.out.2.1
                rw [hML, HPN.out] at hcb
                obtain ⟨C, hC⟩ : ∃ C : Nat, codeL size MT = C := ⟨(codeL size MT).toNat, by omega⟩
                have HC := Lib.hid hC
                rw [hC] at hcb
                have HML := Lib.hid hML
                have hCl : C < (setTo size PN ts ts.length).length := by rw [HLS.out]; omega
                obtain ⟨o9, c9, hv9, hcd9, -, -⟩ := ownSl_bool HOB5_9.out C hCl
                simp only [Value.slice.injEq, Option.some.injEq, Addr.mk.injEq] at hv9
                obtain ⟨⟨-, rfl, -⟩, -, -⟩ := hv9
                rw [Nat.zero_add] at hcd9
                have HHT := Lib.hid (show (setTo size PN ts ts.length)[C] = hasT ts MT by
                  have h := HSM.out MT HML.out HMK.out.2.1
                  rw [HC.out, Int.toNat_natCast] at h
                  rw [← h]; simp [List.getD, hCl])
                rw [HHT.out] at hcd9
                have hCI : (C : Int) < PN := by omega
                clear hC hML hmr
                go_wp2_with fail
                refine (indexOf_c size MT _ _ HFO.out hs.1 HMK.out.2.1 (by rw [HML.out, HPN.out]; omega)).mono ?_
                rintro e w7 ⟨rfl, rfl⟩
                rw [HC.out]
                cases hh : hasT ts MT with
                | true =>
                  rw [hh] at hcd9
                  have HQ := Lib.hid (show keepAt size ((q : Int), ftb) ((AR : Int), ts) k = true by rw [HKA.out, hh])
                  have HBL := Lib.hid ((hbl.out.trans (HB3.out.mono hbl.out.size)).trans ((hbp.out.below (B := wo.heap.size) (fun z hz => by omega) (by omega)).mono hbl.out.size) |>.trans (hbw7.mono (by omega)))
                  clear hh
                  go_wp2_with fail
                  go_roundw
                  case rel =>
                    refine ⟨k + 1, by omega, by go_num, HBL.out, fun j hj => ?_⟩
                    rcases Nat.lt_or_ge j k with h | h
                    · exact hr.out j h
                    · obtain rfl : j = k := by omega
                      exact HQ.out
                  case measure => simp [intOf]; omega
                | false =>
                  rw [hh] at hcd9
                  have HQ := Lib.hid (show keepsP size ((q : Int), ftb) ((AR : Int), ts) = false by
                    rw [HKP.out, List.all_eq_false]
                    exact ⟨k, List.mem_range.2 hklt, by rw [HKA.out, hh]; decide⟩)
                  clear hh
                  go_wp2_with fail
                  refine bodyPost_ret (v := .tuple #[.slice (some ⟨g', 0, none⟩) q c', .slice (some ⟨bo, oo, none⟩) MT.length co]) (by simp [results, Tryz.results175, go_sem]) rfl ⟨_, some ⟨bo, oo, none⟩, MT.length, co, rfl, by rw [HQ.out]; rfl, fun h => by (cases h), hs8.bel⟩
          · obtain rfl : k = TOT := by omega
            have hnk : ¬ ((k : Int) < k) := by omega
            have HQ := Lib.hid (show keepsP size ((FA : Int), ftb) ((AR : Int), ts) = true by
              rw [HKP.out, List.all_eq_true]
              exact fun j hj => hr.out j (List.mem_range.1 hj))
            go_wp2_with fail
            refine bodyPost_ret (v := .tuple #[.slice none 0 0, .slice none 0 0]) (by simp [results, Tryz.results175, go_sem]) rfl ⟨_, none, 0, 0, rfl, by rw [HQ.out]; rfl, fun _ => ⟨rfl, rfl⟩, hst3.bel⟩
set_option maxRecDepth 100000 in
set_option maxHeartbeats 2000000 in
theorem keeps_c (size : Int) (f : OpT) (r : RelT) (f0 f1 r0 r1 : Value) (w : World) (hf : Rd w [f0, f1] f) (hr : Rd w [r0, r1] r) (hok : opOk size f = true) (hrk : relOk size r = true) :
    Calls Tryz.prog 133 #[.int .i64 size, .agg #[f0, f1], .agg #[r0, r1]] w fun e w' => e = .returned (.bool (keepsP size f r)) ∧ Below w.heap.size w w' := by
  obtain ⟨far, ftb⟩ := f
  obtain ⟨rar, ts⟩ := r
  have HF := Lib.hid hf
  have HR := Lib.hid hr
  have zf := rd_cons rfl hf
  obtain ⟨rfl, _⟩ := rd_i1 zf.1
  obtain ⟨af, cf, rfl, _⟩ := rd_list zf.2
  have zr := rd_cons rfl hr
  obtain ⟨rfl, _⟩ := rd_i1 zr.1
  obtain ⟨a, c, rfl, _⟩ := rd_list zr.2
  clear hf hr zf zr
  have hs10 := (St.start w).alloc #[.int .i64 far, .slice af ftb.length cf] 34 (n := w.heap.size) (by simp)
  have k0_0 := hs10.cellAt 0 rfl 0 rfl
  have k0_1 := hs10.cellAt 0 rfl 1 rfl
  have hs11 := hs10.alloc #[.int .i64 rar, .slice a ts.length c] 50 (n := w.heap.size + 1) (by simp)
  clear k0_0 k0_1
  have k0_0 := hs11.cellAt 0 rfl 0 rfl
  have k0_1 := hs11.cellAt 0 rfl 1 rfl
  have k1_0 := hs11.cellAt 1 rfl 0 rfl
  have k1_1 := hs11.cellAt 1 rfl 1 rfl
  go_enter Tryz.func133, Tryz.ntmps133
  go_wp2_with fail
  refine (broken_c size (far, ftb) (rar, ts) _ _ _ _ _ (Rd.mono HF.out hs11.bel) (Rd.mono HR.out hs11.bel) hok hrk).mono ?_
  rintro e w1 ⟨vl, ao, n, k, rfl, hiso, hnil, hb1⟩
  have HI := Lib.hid hiso
  have HB := Lib.hid (hs11.bel.trans (hb1.mono hs11.bel.size))
  clear hiso hb1
  cases ao with
  | none =>
    obtain ⟨rfl, rfl⟩ := hnil rfl
    have hnl : ∀ W, (binOp .eql 32 (.slice none 0 0) (.slice none 0 0)).run Tryz.prog W = .ok (.bool true) W := fun W => Lib.run_eql_slice_nil_nil W _ _ Tryz.underlying32
    go_wp2_with fail
    go_ret
    exact ⟨ret_bool (by rw [← HI.out]; rfl), HB.out⟩
  | some ad =>
    have hnl : ∀ W, (binOp .eql 32 (.slice (some ad) n k) (.slice none 0 0)).run Tryz.prog W = .ok (.bool false) W := fun W => Lib.run_eql_slice_some_nil W _ _ _ Tryz.underlying32
    go_wp2_with fail
    go_ret
    exact ⟨ret_bool (by rw [← HI.out]; rfl), HB.out⟩

end Go.Proofs.YtllenfkbfeanmaaGreat

/-
  CONTRACTS: what an operation makes of tuples; whether it keeps a relation; the reference's side.
-/
namespace Go.Proofs.YtllenfkbfeanmaaGreat
open Go.RowKit Go.Shelf Go.IntWalk
open Rep (Rd Own sz)
set_option linter.unusedSimpArgs false
set_option linter.unusedVariables false

set_option maxRecDepth 100000 in
set_option maxHeartbeats 2000000 in
theorem l01Empty_c (size ar : Int) (PN : Nat) (w : World) (hs : 1 ≤ size) (ha : 0 ≤ ar) (ha2 : ar ≤ 1000) (hp : size ^ ar.toNat = (PN : Int)) (hp2 : PN ≤ 1000000) :
    Calls Tryz.prog 138 #[.int .i64 size, .int .i64 ar] w fun e w' => e = .returned (.pointer (some ⟨w.heap.size + 1, 0, none⟩)) ∧ w'.heap[w.heap.size + 1]? = some (.cells #[.int .i64 size, .int .i64 ar, .slice (some ⟨w.heap.size, 0, none⟩) PN PN] 163 (0, 0)) ∧
      OwnSl [w.heap.size] w' (.slice (some ⟨w.heap.size, 0, none⟩) PN PN) (List.replicate PN false) ∧ w'.heap.size = w.heap.size + 2 ∧ Below w.heap.size w w' := by
  have HP := Lib.hid hp
  clear hp
  go_enter Tryz.func138, Tryz.ntmps138
  go_wp2_with fail
  refine (l01Power_c size ar _ (by omega) ha (by omega) (by rw [HP.out]; omega)).mono ?_
  rintro e w1 ⟨rfl, rfl⟩
  rw [HP.out]
  go_wp2_with (at_make; refine wpList_make_rep _ rfl _ _ 161 rfl E_bools false own0_bool PN (by omega) rfl rfl ?_; intro w1 hown hb1 hs1)
  go_ret
  refine ⟨rfl, ?_, ownSl_mono hown (belowA _ _), by simp; omega, hb1.trans ((belowA _ _).mono (by omega))⟩
  exact heap_alloc_at w1 _ hs1
set_option maxRecDepth 100000 in
set_option maxHeartbeats 8000000 in
theorem l01SetOf_c (size : Int) (r : RelT) (pb po : Nat) (r0 r1 : Value) (PN : Nat) (w : World) (hr : Rd w [r0, r1] r) (c0 : w.cell? ⟨pb, po, none⟩ = some r0) (c1 : w.cell? ⟨pb, po + 1, none⟩ = some r1) (hrk : relOk size r = true) (hp : size ^ r.1.toNat = (PN : Int)) :
    Calls Tryz.prog 76 #[.int .i64 size, .pointer (some ⟨pb, po, none⟩)] w fun e w' => e = .returned (.pointer (some ⟨w.heap.size + 1, 0, none⟩)) ∧ w'.heap[w.heap.size + 1]? = some (.cells #[.int .i64 size, .int .i64 r.1, .slice (some ⟨w.heap.size, 0, none⟩) PN PN] 163 (0, 0)) ∧
      OwnSl [w.heap.size] w' (.slice (some ⟨w.heap.size, 0, none⟩) PN PN) (setTo size PN r.2 r.2.length) ∧ w.heap.size + 2 ≤ w'.heap.size ∧ Below w.heap.size w w' := by
  obtain ⟨rar, ts⟩ := r
  have hs := (relOk_get hrk).1
  have hra := (relOk_get hrk).2.1
  have hp256 := pow256 hs hra
  simp only at hra hp256 hp
  rw [hp] at hp256
  have HPN := Lib.hid hp
  have HVAL := Lib.hid (relOk_val hrk)
  have zr := rd_cons rfl hr
  obtain ⟨rfl, _⟩ := rd_i1 zr.1
  obtain ⟨a, c, rfl, htr⟩ := rd_list zr.2
  have hb0 := (rdSl_len htr).2
  unfold maxLen at hb0
  have HTR := Lib.hid htr
  clear hr zr hrk htr hp
  obtain ⟨AR, rfl⟩ : ∃ x : Nat, rar = x := ⟨rar.toNat, by omega⟩
  have c0_ := cellL (St.start w).bel c0
  clear c0_
  have c0_ := cellL (St.start w).bel c0
  have c1_ := cellL (St.start w).bel c1
  go_enter Tryz.func76, Tryz.ntmps76
  go_wp2_with fail
  refine (l01Empty_c size AR PN _ hs.1 (by omega) (by omega) HPN.out (by omega)).mono ?_
  rintro e w1 ⟨rfl, hh1, hown, hsz, hb1⟩
  have HH := Lib.hid hh1
  have HO := Lib.hid hown
  have hsz1 : w.heap.size + 2 ≤ w1.heap.size := by omega
  have HB1 := Lib.hid hb1
  clear hh1 hown hsz hb1
  go_wp2_with fail
  go_loopw [6] (fun i wl => ∃ k : Nat, k ≤ ts.length ∧ i = .int .i64 k ∧ Hid (But [w.heap.size] w1 wl) ∧ Hid (OwnSl [w.heap.size] wl (.slice (some ⟨w.heap.size, 0, none⟩) PN PN) (setTo size PN ts k))) (fun i _ => ts.length - (intOf i).toNat)
  case atStart => exact ⟨0, Nat.zero_le _, rfl, But.refl _ _, HO.out⟩
  case round =>
    clear HO
    obtain ⟨k, hk, rfl, ho, hw⟩ := hrel
    have hszr := ho.out.size
    have HHR := Lib.hid (show wr.heap[w.heap.size + 1]? = _ from (ho.out.block _ (by omega) (by simp)).trans HH.out)
    have hsr := (St.start w).stepB (HB1.out.trans (ho.out.below (B := w.heap.size) (by simp) (by omega)))
    have s2 : wr.cell? ⟨w.heap.size + 1, 2, none⟩ = some (.slice (some ⟨w.heap.size, 0, none⟩) PN PN) := by rw [cell_at_block HHR.out]; rfl
    have HSL := Lib.hid (setTo_len size PN ts k)
    have c0_ := cellL hsr.bel c0
    have c1_ := cellL hsr.bel c1
    have HBW := Lib.hid (Below.refl wr.heap.size wr)
    have HOW := hw
    by_cases hlt : k < ts.length
    · have hltI : (k : Int) < ts.length := by omega
      obtain ⟨b, o, u0, rfl, q0, hx⟩ := rdSl_one rfl HTR.out k hlt
      have HX := Lib.hid hx
      obtain ⟨a0, cc0, rfl, _⟩ := rd_list hx
      have hvv := HVAL.out _ (List.getElem_mem hlt)
      have hcb := codeL_bd hs.1 ts[k] hvv.2
      rw [hvv.1] at hcb
      simp only [Int.toNat_natCast] at hcb
      have HPN2 := Lib.hid (show size ^ AR = (PN : Int) from by simpa using HPN.out)
      rw [HPN2.out] at hcb
      have HVV := Lib.hid (show ∀ x, x ∈ ts[k] → 0 ≤ x ∧ x ≤ size - 1 from hvv.2)
      have HLN := Lib.hid (show ts[k].length = AR by have := hvv.1; simpa using this)
      obtain ⟨C, hC⟩ : ∃ C : Nat, codeL size ts[k] = C := ⟨(codeL size ts[k]).toNat, by omega⟩
      have HC := Lib.hid hC
      rw [hC] at hcb
      have HSS := Lib.hid (show (setTo size PN ts k).set C true = setTo size PN ts (k + 1) by
        rw [setTo, show ts.getD k [] = ts[k] by simp [List.getD, hlt], HC.out, Int.toNat_natCast])
      have hCl : (C : Int) < PN := by omega
      have ejw : IntKind.i64.wrap (C : Int) = (C : Int) := i64_in _ (by omega)
      clear hx hvv hC
      clear c0_ c1_
      have c0_ := cellL hsr.bel c0
      have c1_ := cellL hsr.bel c1
      have q0_ := cellL hsr.bel q0
      clear c0_ c1_ q0_
      have c0_ := cellL hsr.bel c0
      have c1_ := cellL hsr.bel c1
      have q0_ := cellL hsr.bel q0
      go_upto_region 5 with fail
      refine wp_region_noPanic (wp_region_tree4 (fun w' => w'.cell? ⟨pb, po, none⟩ = some (.int .i64 AR) ∧ w'.cell? ⟨pb, po + 1, none⟩ = some (.slice (some ⟨b, o, none⟩) ts.length c) ∧ w'.cell? ⟨w.heap.size + 1, 2, none⟩ = some (.slice (some ⟨w.heap.size, 0, none⟩) PN PN) ∧ w'.cell? ⟨b, o + k, none⟩ = some (.slice a0 ts[k].length cc0)) (.float 0 (.float 1 (.float 2 (.float 3 (.float 4 (.float 5 (.float 6 (.float 7 (.float 8 (.float 9 (.float 10 (.float 11 (.hard 12 (.float 13 (.last 14 .nil))))))))))))))) (by kernel_rfl) (by kernel_rfl) (by kernel_rfl) rfl ?_ (fun _ _ _ _ _ h => h) ?_)
      · exact ⟨cellL (hsr.drew).bel c0, cellL (hsr.drew).bel c1, cellL (belowD _) s2, cellL (hsr.drew).bel q0⟩
      have hs12 := hsr.drew
      have s2_13 := cellL (belowD _) s2
      clear s2
      have HBW_14 := Lib.hid (HBW.out.trans (((belowD _)).mono HBW.out.size))
      clear HBW
      have HOW_15 := Lib.hid (ownSl_mono HOW.out (belowD _))
      clear HOW
      clear c0_ c1_ q0_
      have hz_wd16 : wr.heap.size ≤ (wr.drew).heap.size := by simp
      generalize hgen_wd16 : wr.drew = wd16 at *
      have HG_wd16 := Lib.hid hgen_wd16
      clear hgen_wd16
      (repeat (first | (apply t4_skip rfl (by rfl); try simp only [Act.put, List.setIfInBounds_toArray, List.set_cons_zero, List.set_cons_succ]) | (apply t4_float rfl (by rfl); (· (intro w' hS; go_simp <;> with_reducible rfl)); (try simp only [Act.put, List.setIfInBounds_toArray, List.set_cons_zero, List.set_cons_succ]))))
      refine t4_hard rfl (by rfl) (fun K hK => ?_)
      go_wp2_with (go_at_call 139; refine (l01Code_c size ts[k] _ _ (Rd.mono HX.out hs12.bel) hs.1 HVV.out (by rw [HLN.out, HPN2.out]; omega)).mono ?_; rintro e w17 ⟨rfl, rfl, rfl⟩)
      rw [HC.out]
      refine ⟨⟨cellL hs12.bel c0, cellL hs12.bel c1, s2_13, cellL hs12.bel q0⟩, ?_⟩
      (repeat (first | (apply t4_skip rfl (by rfl); try simp only [Act.put, List.setIfInBounds_toArray, List.set_cons_zero, List.set_cons_succ]) | (apply t4_float rfl (by rfl); (· (intro w' hS; go_simp <;> with_reducible rfl)); (try simp only [Act.put, List.setIfInBounds_toArray, List.set_cons_zero, List.set_cons_succ]))))
      refine t4_last rfl (by rfl) (fun K hK => ?_)
      have c0_ := cellL hs12.bel c0
      have c1_ := cellL hs12.bel c1
      have q0_ := cellL hs12.bel q0
      obtain ⟨o9, c9, hv9, hcd9, hf9, hset9⟩ := ownSl_bool HOW_15.out C (by rw [HSL.out]; omega)
      simp only [Value.slice.injEq, Option.some.injEq, Addr.mk.injEq] at hv9
      obtain ⟨⟨-, rfl, -⟩, -, rfl⟩ := hv9
      rw [Nat.zero_add] at hcd9 hf9
      have HS9 := Lib.hid (hset9 true)
      rw [Nat.zero_add, HSS.out] at HS9
      have HO9 := Lib.hid ((ho.out.trans (but_of HBW_14.out)).trans (OnlyAt.but ((OnlyAt.refl [w.heap.size] wd16).setCell (p := ⟨w.heap.size, C, none⟩) (by simp) (.bool true))))
      generalize (setTo size PN ts k)[C]'(by rw [HSL.out]; omega) = B9 at hcd9
      clear hset9
      go_wp2_with fail
      refine t4_nil (NoPanic.normal ?_)
      go_wp2_with fail
      go_roundw
      case rel => exact ⟨k + 1, by omega, by go_num, HO9.out, HS9.out⟩
      case measure => simp [intOf]; omega
    · obtain rfl : k = ts.length := by omega
      have hnl : ¬ ((ts.length : Int) < ts.length) := by omega
      go_wp2_with fail
      go_ret
      exact ⟨rfl, HHR.out, hw.out, by omega, hsr.bel⟩
set_option maxRecDepth 100000 in
set_option maxHeartbeats 8000000 in
theorem l02Make_c (size : Int) (f : OpT) (ts : List (List Int)) (ar : Nat) (pb po : Nat) (v0 v1 vt : Value) (w : World) (hf : Rd w [v0, v1] f) (hc1 : w.cell? ⟨pb, po + 1, none⟩ = some v1) (ht : Rd w [vt] ts) (hok : opOk size f = true) (hlen : (ts.length : Int) = f.1) (hv : ∀ t, t ∈ ts → t.length = ar ∧ Val size t) (har : ar ≤ 1000) :
    Calls Tryz.prog 197 #[.int .i64 size, .pointer (some ⟨pb, po, none⟩), vt] w fun e w' => ∃ v, e = .returned v ∧ Acc w.heap.size w'.heap.size 2 w' v (makeT size f ts ar) ∧ Below w.heap.size w w' := by
  have hs := (opOk_get hok).1
  have hfa := (opOk_get hok).2.1
  have hR : (makeT size f ts ar).length = ar := by simp [makeT]
  have HRP := Lib.hid (fun (p : Nat) (hp : p < (makeT size f ts ar).length) => show (makeT size f ts ar)[p] = valOf size f (ts.map (fun t => t.getD p 0)) by simp [makeT])
  have HMR := Lib.hid (make_val hok hlen hv).2.2
  generalize hRR : makeT size f ts ar = R at *
  clear hRR
  have HOK := Lib.hid hok
  have HF := Lib.hid hf
  have HC1 := Lib.hid hc1
  have HLEN := Lib.hid hlen
  have HV := Lib.hid hv
  obtain ⟨a, c, rfl, htr⟩ := rd_list ht
  have HT := Lib.hid htr
  have hl3 : ts.length ≤ 3 := by omega
  have hl0 : 0 < ts.length := by omega
  obtain ⟨b, o, u0, rfl, q0, hx0⟩ := rdSl_one rfl htr 0 hl0
  obtain ⟨a0, c0, rfl, _⟩ := rd_list hx0
  have hA0 := (hv _ (List.getElem_mem hl0)).1
  rw [hA0, Nat.add_zero] at q0
  have HR := Lib.hid hR
  have HM := Lib.hid (acc_made (α := Int) w 2)
  clear hok hf ht htr hx0 hv hlen hc1 hR
  have q0_ := cellL (St.start w).bel q0
  go_enter Tryz.func197, Tryz.ntmps197
  go_wp2_with fail
  go_loopw [7, 8] (fun oo i wl => ∃ (p : Nat) (ao : Option Addr) (co : Nat), p ≤ ar ∧ i = .int .i64 p ∧ oo = .slice ao p co ∧ Hid (Below w.heap.size w wl) ∧ Hid (Acc w.heap.size wl.heap.size 2 wl (.slice ao p co) (R.take p))) (fun _ i _ => ar - (intOf i).toNat)
  case atStart => exact ⟨0, _, _, Nat.zero_le _, rfl, rfl, belowA _ _, by simpa [Hid] using HM.out⟩
  case round =>
    clear HM
    obtain ⟨p, ao, co, hp, rfl, rfl, hbl0, hac⟩ := hrel
    have hb0 := hbl0.out.size
    have hs0 := (St.start w).step hbl0.out
    have q0_ := cellL hs0.bel q0
    by_cases hlt : p < ar
    · have hltI : (p : Int) < ar := by omega
      have HAV := Lib.hid (show ∀ a, a ∈ ts.map (fun t => t.getD p 0) → 0 ≤ a ∧ a ≤ size - 1 from HMR.out p hlt)
      have HAL := Lib.hid (show (ts.map (fun t => t.getD p 0)).length = ts.length by simp)
      obtain ⟨K, hK, e1, e2, e3, e4, e5, e6⟩ := valOf_at (args := ts.map (fun t => t.getD p 0)) HOK.out (by simpa using HLEN.out) HAV.out
      have HVB := Lib.hid (And.intro e3 e4)
      have HTK := Lib.hid (show R.take p ++ [valOf size f (ts.map (fun t => t.getD p 0))] = R.take (p + 1) by
        rw [List.take_succ_eq_append_getElem (show p < R.length by rw [HR.out]; exact hlt), HRP.out p (by rw [HR.out]; exact hlt)])
      have HAG := Lib.hid (fun (q : Nat) (hq : q < ts.length) => show (ts.map (fun t => t.getD p 0)).getD q 0 = ts[q].getD p 0 by simp [List.getD, hq])
      clear e1 e2 e3 e4 e5 e6 hK
      generalize hAA : ts.map (fun t => t.getD p 0) = A at *
      clear hAA
      obtain ⟨w1, rfl⟩ : ∃ x, x = wr := ⟨_, rfl⟩
      have HM1 := Lib.hid (acc_made (α := Int) w1 2)
      go_wp2_with fail
      go_loopw [9, 10] (fun oi i wl => ∃ (q : Nat) (ai : Option Addr) (ci : Nat), q ≤ ts.length ∧ i = .int .i64 q ∧ oi = .slice ai q ci ∧ Hid (Below w1.heap.size w1 wl) ∧ Hid (Acc w1.heap.size wl.heap.size 2 wl (.slice ai q ci) (A.take q))) (fun _ i _ => ts.length - (intOf i).toNat)
      case atStart => exact ⟨0, _, _, Nat.zero_le _, rfl, rfl, belowA _ _, by simpa [Hid] using HM1.out⟩
      case round =>
        clear HM1
        obtain ⟨q, ai, ci, hq, rfl, rfl, hbl1, hai⟩ := hrel
        have hb1 := hbl1.out.size
        have HAC := Lib.hid (Acc.mono hac.out hbl1.out)
        have HAI := hai
        have hs1 := hs0.step hbl1.out
        have q0_ := cellL hs1.bel q0
        by_cases hqlt : q < ts.length
        · have hqI : (q : Int) < ts.length := by omega
          obtain ⟨b2, o2, u2, e3, q2, hx2⟩ := rdSl_one rfl (rdSl_mono hs1.bel HT.out) q hqlt
          simp only [Option.some.injEq, Addr.mk.injEq, and_true] at e3
          obtain ⟨rfl, rfl⟩ := e3
          have hTL := HV.out _ (List.getElem_mem hqlt)
          obtain ⟨a2, c2, rfl, _⟩ := rd_list hx2
          have hlp : p < ts[q].length := by rw [hTL.1]; exact hlt
          obtain ⟨b4, o4, rfl, q4, hY⟩ := rd_int_at hx2 p hlp
          rw [hTL.1] at q2
          have HYI := Lib.hid hY
          have HA1 := Lib.hid (show A.take q ++ [ts[q][p]] = A.take (q + 1) by
            have h1 := HAG.out q hqlt
            have hq' : q < A.length := by rw [HAL.out]; exact hqlt
            rw [show A.getD q 0 = A[q] by simp [List.getD, hq']] at h1
            rw [List.take_succ_eq_append_getElem hq', h1]
            simp [List.getD, hlp])
          have HAK := Lib.hid (show (A.take q).length = q by rw [List.length_take, HAL.out]; omega)
          clear hx2 hY hTL
          generalize ts[q][p] = Y at *
          clear hlp
          go_wp2_with (at_builtin; go_loud (refine wpList_append_ints _ rfl _ _ _ rfl E_ints rfl (Acc.mono HAI.out (belowA _ (.cells #[.int .i64 Y] 2))) (by omega) (by simp) ⟨wr.heap.size, 0, none⟩ 1 rfl (ns := [Y]) (news1 (cell_at_block (heap_alloc_new _ _))) (fun b hb => by simp at hb; subst hb; exact HYI.out) (by rw [HAK.out]; simp; omega) ?_); simp only [HAK.out, HA1.out]; intro a9 c9 w9 hA9 hB9 hK9)
          have HA9 := Lib.hid hA9
          have HB9 := Lib.hid (hbl1.out.trans ((belowA wr (.cells #[.int .i64 Y] 2)).mono hbl1.out.size) |>.trans hB9)
          clear hA9 hB9 hK9
          go_wp2_with fail
          go_roundw
          case rel => exact ⟨q + 1, a9, c9, hqlt, by go_num, rfl, HB9.out, HA9.out⟩
          case measure => simp [intOf]; omega
        · obtain rfl : q = ts.length := by omega
          have hnq : ¬ ((ts.length : Int) < ts.length) := by omega
          have HAT := Lib.hid (show A.take ts.length = A from List.take_of_length_le (by rw [HAL.out]; exact Nat.le_refl _))
          have HRDA := Lib.hid (show Rd wr [.slice ai ts.length ci] A by have h := HAI.out.rd; rwa [HAT.out] at h)
          have HPL := Lib.hid (show (A.length : Int) = f.1 by rw [HAL.out]; exact HLEN.out)
          have HPK := Lib.hid (show (R.take p).length = p by rw [List.length_take, HR.out]; omega)
          clear HAI
          clear hai
          go_wp2_with fail
          refine (l02Value_c size f A pb po _ _ _ _ (Rd.mono HF.out hs1.bel) (cellL hs1.bel HC1.out) HRDA.out HOK.out HPL.out HAV.out).mono ?_
          rintro e w18 ⟨rfl, hbw18⟩
          have hz_w18 : wr.heap.size ≤ w18.heap.size := by have h9 := hbw18.size; (try simp at h9); omega
          have hs19 := hs1.step hbw18
          have HAC_20 := Lib.hid (Acc.mono HAC.out hbw18)
          clear HAC
          clear q0_
          have q0_ := cellL hs19.bel q0
          generalize valOf size f A = Y at *
          go_wp2_with (at_builtin; go_loud (refine wpList_append_ints _ rfl _ _ _ rfl E_ints rfl (Acc.mono HAC_20.out (belowA _ (.cells #[.int .i64 Y] 2))) (by omega) (by simp; omega) ⟨w18.heap.size, 0, none⟩ 1 rfl (ns := [Y]) (news1 (cell_at_block (heap_alloc_new _ _))) (fun b hb => by simp at hb; subst hb; have := HVB.out; exact ⟨by omega, by omega⟩) (by rw [HPK.out]; simp; omega) ?_); simp only [HPK.out, HTK.out]; intro a9 c9 w9 hA9 hB9 hK9)
          have HA9 := Lib.hid hA9
          have HB9 := Lib.hid (((hs19.bel).trans ((belowA w18 (.cells #[.int .i64 Y] 2)).mono (hs19.bel).size)).trans hB9)
          clear hA9 hB9 hK9
          go_wp2_with fail
          go_roundw
          case rel => exact ⟨p + 1, a9, c9, hlt, by go_num, rfl, HB9.out, HA9.out⟩
          case measure => simp [intOf]; omega
    · obtain rfl : p = ar := by omega
      have hnl : ¬ ((p : Int) < p) := by omega
      have HBF := Lib.hid hbl0.out
      have HAF := Lib.hid (show Acc w.heap.size wr.heap.size 2 wr (.slice ao p co) R by have h := hac.out; rwa [List.take_of_length_le (by rw [HR.out]; exact Nat.le_refl _)] at h)
      go_wp2_with fail
      go_ret
      exact ⟨_, rfl, HAF.out, HBF.out⟩
set_option maxRecDepth 100000 in
set_option maxHeartbeats 16000000 in
theorem l02Breaks_c (size : Int) (f : OpT) (r : RelT) (pb po rb ro : Nat) (v0 v1 r0 r1 : Value) (w : World) (hf : Rd w [v0, v1] f) (c0 : w.cell? ⟨pb, po, none⟩ = some v0) (c1 : w.cell? ⟨pb, po + 1, none⟩ = some v1) (hr : Rd w [r0, r1] r) (d0 : w.cell? ⟨rb, ro, none⟩ = some r0) (d1 : w.cell? ⟨rb, ro + 1, none⟩ = some r1) (hok : opOk size f = true) (hrk : relOk size r = true) :
    Calls Tryz.prog 183 #[.int .i64 size, .pointer (some ⟨pb, po, none⟩), .pointer (some ⟨rb, ro, none⟩)] w fun e w' => ∃ x y, e = .returned (.tuple #[x, y, .bool (!keepsP size f r)]) ∧ Below w.heap.size w w' := by
  obtain ⟨far, ftb⟩ := f
  obtain ⟨rar, ts⟩ := r
  have hs := (opOk_get hok).1
  have hfa := (opOk_get hok).2.1
  have hra := (relOk_get hrk).2.1
  have hcnt := relOk_count hrk
  have hp256 := pow256 hs hra
  simp only at hfa hra hcnt hp256
  have HVAL := Lib.hid (relOk_val hrk)
  have HOK := Lib.hid hok
  have HRK := Lib.hid hrk
  have HF := Lib.hid hf
  have HR := Lib.hid hr
  have zf := rd_cons rfl hf
  obtain ⟨rfl, _⟩ := rd_i1 zf.1
  obtain ⟨af, cf, rfl, _⟩ := rd_list zf.2
  have zr := rd_cons rfl hr
  obtain ⟨rfl, _⟩ := rd_i1 zr.1
  obtain ⟨a, c, rfl, htr⟩ := rd_list zr.2
  have hb0 := (rdSl_len htr).2
  unfold maxLen at hb0
  have HTR := Lib.hid htr
  have HC1 := Lib.hid c1
  have HD0 := Lib.hid d0
  clear hf hr zf zr hok hrk htr c1 d0
  obtain ⟨AR, rfl⟩ : ∃ x : Nat, rar = x := ⟨rar.toNat, by omega⟩
  obtain ⟨FA, rfl⟩ : ∃ x : Nat, far = x := ⟨far.toNat, by omega⟩
  simp only [Int.toNat_natCast] at hcnt hp256
  obtain ⟨PN, hPN⟩ : ∃ x : Nat, size ^ AR = (x : Int) := ⟨(size ^ AR).toNat, by omega⟩
  have HPN := Lib.hid hPN
  rw [hPN] at hcnt hp256
  clear hPN
  have hTOT : ts.length ^ FA ≤ 256 ^ 3 := Nat.le_trans (Nat.pow_le_pow_left hcnt.2 FA) (Nat.pow_le_pow_right (by omega) (by omega))
  have HTOT := Lib.hid (show ((ts.length : Int)) ^ FA = ((ts.length ^ FA : Nat) : Int) by simp)
  have HKP := Lib.hid (show keepsP size ((FA : Int), ftb) ((AR : Int), ts) = (List.range (ts.length ^ FA)).all (fun i => keepAt size ((FA : Int), ftb) ((AR : Int), ts) i) by unfold keepsP; simp)
  have HSM := Lib.hid (fun (t : List Int) (hl : t.length = AR) (ht : Val size t) => setTo_mem hs.1 (ar := AR) HPN.out.symm (x := ts) (fun t h => by have := HVAL.out t h; rw [Int.toNat_natCast] at this; exact this) hl ht)
  have HLS := Lib.hid (setTo_len size PN ts ts.length)
  have hFA0 : 0 < FA := by omega
  have HZ := Lib.hid (show ts.length = 0 → ts.length ^ FA = 0 from fun h => by rw [h]; exact Nat.zero_pow hFA0)
  generalize hTT : ts.length ^ FA = TOT at *
  clear hTT
  have c0_ := cellL (St.start w).bel c0
  clear c0_
  have c0_ := cellL (St.start w).bel c0
  have d1_ := cellL (St.start w).bel d1
  go_enter Tryz.func183, Tryz.ntmps183
  go_wp2_with fail
  refine (l01SetOf_c size ((AR : Int), ts) rb ro _ _ PN _ (Rd.mono HR.out (St.start w).bel) (cellL (St.start w).bel HD0.out) (cellL (St.start w).bel d1) HRK.out (by rw [Int.toNat_natCast]; exact HPN.out)).mono ?_
  rintro e w1 ⟨rfl, hh1, hown, hsz1, hb1⟩
  have HOW := Lib.hid hown
  have HS2 := Lib.hid (show w1.cell? ⟨w.heap.size + 1, 2, none⟩ = some (.slice (some ⟨w.heap.size, 0, none⟩) PN PN) by rw [cell_at_block hh1]; rfl)
  have hst1 := (St.start w).step hb1
  generalize setTo size PN ts ts.length = BS at *
  clear hh1 hown hb1
  have c0_ := cellL hst1.bel c0
  have d1_ := cellL hst1.bel d1
  go_wp2_with fail
  refine (l01Power_c ts.length FA _ (by omega) (by omega) (by omega) (by rw [Int.toNat_natCast, HTOT.out]; omega)).mono ?_
  rintro e w21 ⟨rfl, rfl⟩
  rw [Int.toNat_natCast, HTOT.out]
  go_wp2_with fail
  go_loopw [12] (fun i wl => ∃ k : Nat, k ≤ TOT ∧ i = .int .i64 k ∧ Hid (Below w1.heap.size w1 wl) ∧ Hid (∀ j, j < k → keepAt size ((FA : Int), ftb) ((AR : Int), ts) j = true)) (fun i _ => TOT - (intOf i).toNat)
  case atStart => exact ⟨0, Nat.zero_le _, rfl, Below.refl _ _, fun j hj => absurd hj (Nat.not_lt_zero _)⟩
  case round =>
    obtain ⟨k, hk2, rfl, hbl, hr⟩ := hrel
    have hst3 := hst1.step hbl.out
    have HOB := Lib.hid (ownSl_mono HOW.out hbl.out)
    have hszB := hbl.out.size
    have c0_ := cellL hst3.bel c0
    have d1_ := cellL hst3.bel d1
    by_cases hklt : k < TOT
    · have hkI : (k : Int) < TOT := by omega
      have hts0 : 0 < ts.length := by
        rcases Nat.eq_zero_or_pos ts.length with h | h
        · have := HZ.out h; omega
        · exact h
      go_wp2_with fail
      refine (l01Digits_c ts.length FA k _ (by omega) (by omega) (by omega) (by omega) (by omega) (by omega)).mono ?_
      rintro e w3 ⟨vv, rfl, fr, hb3⟩
      rw [Int.toNat_natCast] at fr
      obtain ⟨av, cv, rfl, _⟩ := rd_list fr.rd
      have hAL := digs_length ts.length FA k
      have HAM := Lib.hid (digs_mem ts.length (by omega) FA k)
      have HKA := Lib.hid (show keepAt size ((FA : Int), ftb) ((AR : Int), ts) k = hasT ts (makeT size ((FA : Int), ftb) (pickT ts (digs ts.length FA k)) AR) by unfold keepAt; simp)
      generalize hAT : digs ts.length FA k = AT at *
      clear hAT
      rw [hAL] at fr
      have HAL := Lib.hid hAL
      have hz3 : wr.heap.size ≤ w3.heap.size := hb3.size
      have HB3 := Lib.hid hb3
      have HROW := Lib.hid (row_made (size := 1) w3 32)
      have HAI := Lib.hid fr.ip
      have HOB3 := Lib.hid (ownSl_mono HOB.out hb3)
      have HS23 := Lib.hid (cellL hb3 (cellL hbl.out HS2.out))
      have hst4 := hst3.step hb3
      obtain ⟨bT, oT, vh, rfl, HVH⟩ := rd_hdrs HTR.out hts0
      have HVH := Lib.hid HVH
      obtain ⟨wo, rfl⟩ : ∃ x, x = wr := ⟨_, rfl⟩
      rw [hAL]
      clear fr hb3 hAL
      have c0_ := cellL hst4.bel c0
      have d1_ := cellL hst4.bel d1
      go_wp2_with fail
      go_loopw [14, 15] (fun ll i wl => ∃ (q g' c' : Nat), q ≤ FA ∧ i = .int .i64 q ∧ ll = .slice (some ⟨g', 0, none⟩) q c' ∧ Hid (w3.heap.size ≤ g' ∧ g' < wl.heap.size) ∧ Hid (Below w3.heap.size w3 wl) ∧ Hid (wl.ownsRow 0 32 1 (.slice (some ⟨g', 0, none⟩) q c') q ((AT.take q).map (fun x => vh x.toNat)))) (fun _ i _ => FA - (intOf i).toNat)
      case atStart => exact ⟨0, w3.heap.size, 0, Nat.zero_le _, rfl, rfl, ⟨Nat.le_refl _, by simp⟩, belowA _ _, by simpa [Hid] using HROW.out⟩
      case round =>
        clear HROW
        obtain ⟨q, g', c', hq, rfl, rfl, hg', hbp, hrow⟩ := hrel
        have hst5 := hst4.step hbp.out
        have hszC := hbp.out.size
        have c0_ := cellL hst5.bel c0
        have d1_ := cellL hst5.bel d1
        by_cases hqlt : q < FA
        · have hqI : (q : Int) < FA := by omega
          obtain ⟨ba, oa, rfl, qa0, _⟩ := rd_int_at HAI.out.rd q (by rw [HAL.out]; exact hqlt)
          have hba : ba < w3.heap.size := World.block_lt_of_cell? w3 _ qa0
          have qa := cellL hbp.out qa0
          clear qa0
          have hA := HAM.out _ (List.getElem_mem (show q < AT.length by rw [HAL.out]; exact hqlt))
          obtain ⟨n, hn⟩ : ∃ n : Nat, AT[q]'(by rw [HAL.out]; exact hqlt) = (n : Int) := ⟨(AT[q]'(by rw [HAL.out]; exact hqlt)).toNat, by omega⟩
          rw [hn] at hA qa
          have hnl : n < ts.length := by omega
          have hnI : (n : Int) < ts.length := by omega
          obtain ⟨hcn, hrn⟩ := HVH.out n hnl
          have hcn2 := cellL hst5.bel hcn
          have hbT : bT < w.heap.size := World.block_lt_of_cell? w _ hcn
          obtain ⟨ax, cx, hvx, _⟩ := rd_list hrn
          rw [hvx] at hcn2
          have HXS := Lib.hid (show (AT.take (q + 1)).map (fun x => vh x.toNat) = (AT.take q).map (fun x => vh x.toNat) ++ [.slice ax ts[n].length cx] by
            rw [List.take_succ_eq_append_getElem (show q < AT.length by rw [HAL.out]; exact hqlt), List.map_append, hn]
            simp [hvx])
          have HBL := hbp
          have HRW := hrow
          clear hcn hrn hvx hn
          go_upto_region 12 with fail
          refine wp_region_noPanic (wp_region_tree4 (fun w' => w'.cell? ⟨pb, po, none⟩ = some (.int .i64 FA) ∧ w'.cell? ⟨rb, ro + 1, none⟩ = some (.slice (some ⟨bT, oT, none⟩) ts.length c) ∧ w'.cell? ⟨ba, oa + q, none⟩ = some (.int .i64 n) ∧ w'.cell? ⟨bT, oT + n, none⟩ = some (.slice ax ts[n].length cx)) (.float 0 (.float 1 (.float 2 (.float 3 (.float 4 (.float 5 (.float 6 (.float 7 (.float 8 (.float 9 (.float 10 (.hard 11 (.hard 12 (.float 13 .nil)))))))))))))) (by kernel_rfl) (by kernel_rfl) (by kernel_rfl) rfl ?_ (fun _ _ _ _ _ h => h) ?_)
          · exact ⟨cellL (hst5.drew).bel c0, cellL (hst5.drew).bel d1, cellL (belowD _) qa, cellL (belowD _) hcn2⟩
          have hs22 := hst5.drew
          have qa_23 := cellL (belowD _) qa
          clear qa
          have hcn2_24 := cellL (belowD _) hcn2
          clear hcn2
          have HBL_25 := Lib.hid (HBL.out.trans (((belowD _)).mono HBL.out.size))
          clear HBL
          have HRW_26 := Lib.hid (ownsRow_below HRW.out (belowD _))
          clear HRW
          clear c0_ d1_
          have hz_wd27 : wr.heap.size ≤ (wr.drew).heap.size := by simp
          generalize hgen_wd27 : wr.drew = wd27 at *
          have HG_wd27 := Lib.hid hgen_wd27
          clear hgen_wd27
          (repeat (first | (apply t4_skip rfl (by rfl); try simp only [Act.put, List.setIfInBounds_toArray, List.set_cons_zero, List.set_cons_succ]) | (apply t4_float rfl (by rfl); (· (intro w' hS; go_simp <;> with_reducible rfl)); (try simp only [Act.put, List.setIfInBounds_toArray, List.set_cons_zero, List.set_cons_succ]))))
          refine t4_hard rfl (by rfl) (fun K hK => ?_)
          go_wp2_with fail
          have hs28 := hs22.alloc #[.slice ax ts[n].length cx] 32 (n := wd27.heap.size) (by simp)
          have qa_29 := cellL (belowA _ (.cells #[.slice ax ts[n].length cx] 32)) qa_23
          clear qa_23
          have hcn2_30 := cellL (belowA _ (.cells #[.slice ax ts[n].length cx] 32)) hcn2_24
          clear hcn2_24
          have HBL_31 := Lib.hid (HBL_25.out.trans (((belowA _ (.cells #[.slice ax ts[n].length cx] 32))).mono HBL_25.out.size))
          clear HBL_25
          have HRW_32 := Lib.hid (ownsRow_below HRW_26.out (belowA _ (.cells #[.slice ax ts[n].length cx] 32)))
          clear HRW_26
          refine ⟨⟨cellL hs28.bel c0, cellL hs28.bel d1, qa_29, hcn2_30⟩, ?_⟩
          (repeat (first | (apply t4_skip rfl (by rfl); try simp only [Act.put, List.setIfInBounds_toArray, List.set_cons_zero, List.set_cons_succ]) | (apply t4_float rfl (by rfl); (· (intro w' hS; go_simp <;> with_reducible rfl)); (try simp only [Act.put, List.setIfInBounds_toArray, List.set_cons_zero, List.set_cons_succ]))))
          refine t4_hard rfl (by rfl) (fun K hK => ?_)
          refine wp_append_row _ _ _ _ rfl E_lists (v := .slice (some ⟨g', 0, none⟩) q c') rfl HRW_32.out (vs := [.slice ax ts[n].length cx]) rfl (fun u hu => by rw [List.mem_singleton] at hu; subst hu; rfl) ⟨wd27.heap.size, 0, none⟩ 1 rfl (news1 (hs28.cellAt 0 rfl 0 rfl)) (by omega) ?_
          intro gN cN wN hat hrowN hbutN hltN
          have hgv1 := hg'.out.1
          have hgv2 := hg'.out.2
          have hgN : w3.heap.size ≤ gN := by
            rcases hat with h | h
            · simp only [Value.ownBlock, Option.some.injEq] at h
              omega
            · simp at h; omega
          have hbutN : But [g'] (wd27.alloc (.cells #[.slice ax ts[n].length cx] 32)) wN := hbutN
          clear hat
          have hsN := hs28.butIv hbutN (fun k hk => by simp at hk; omega) (fun x hx => by simp at hx ⊢; subst hx; simp <;> omega)
          rw [← HXS.out] at hrowN
          have HRN := Lib.hid hrowN
          clear hrowN
          clear HRW_32
          have hz_wN : wd27.heap.size + 1 ≤ wN.heap.size := by have h9 := hbutN.size; (try simp at h9); omega
          have qa_33 := cellK qa_29 (hbutN.block _ (by (try simp) <;> omega) (by (try simp) <;> omega))
          clear qa_29
          have hcn2_34 := cellK hcn2_30 (hbutN.block _ (by (try simp) <;> omega) (by (try simp) <;> omega))
          clear hcn2_30
          have HBL_35 := Lib.hid (HBL_31.out.trans (hbutN.below (by (try simp) <;> omega) HBL_31.out.size))
          clear HBL_31
          refine hK _ _ ⟨⟨cellL hsN.bel c0, cellL hsN.bel d1, qa_33, hcn2_34⟩, ?_⟩
          (repeat (first | (apply t4_skip rfl (by rfl); try simp only [Act.put, List.setIfInBounds_toArray, List.set_cons_zero, List.set_cons_succ]) | (apply t4_float rfl (by rfl); (· (intro w' hS; go_simp <;> with_reducible rfl)); (try simp only [Act.put, List.setIfInBounds_toArray, List.set_cons_zero, List.set_cons_succ]))))
          have k0_0 := hsN.cellAt 0 rfl 0 rfl
          have c0_ := cellL hsN.bel c0
          have d1_ := cellL hsN.bel d1
          refine t4_nil (NoPanic.normal ?_)
          go_wp2_with fail
          go_roundw
          case rel => exact ⟨q + 1, gN, cN, hqlt, by go_num, rfl, ⟨hgN, hltN⟩, HBL_35.out, HRN.out⟩
          case measure => simp [intOf]; omega
        · obtain rfl : q = FA := by omega
          have hnq : ¬ ((q : Int) < q) := by omega
          have HPM := Lib.hid (pick_mem (x := ts) (l := AT) HAM.out)
          have HL := Lib.hid (show Rd wr [.slice (some ⟨g', 0, none⟩) q c'] (pickT ts AT) from rd_of_row1 hrow.out (by simp [pickT, HAL.out]) (fun i hi => by
            have hi2 : i < AT.length := by simpa [pickT] using hi
            have hA := HAM.out _ (List.getElem_mem hi2)
            have hnl : (AT[i]).toNat < ts.length := by omega
            refine ⟨vh (AT[i]).toNat, ?_, ?_⟩
            · rw [List.take_of_length_le (by rw [HAL.out]; exact Nat.le_refl _)]; simp [hi2]
            · rw [show (pickT ts AT)[i] = ts[(AT[i]).toNat] by simp [pickT, List.getD, hnl]]
              exact Rd.mono (HVH.out _ hnl).2 hst5.bel))
          have HTV := Lib.hid (show ∀ t, t ∈ pickT ts AT → t.length = AR ∧ Val size t from fun t ht => by have := HVAL.out t (HPM.out t ht); rwa [Int.toNat_natCast] at this)
          have HPQ := Lib.hid (show (pickT ts AT).length = q by simp [pickT, HAL.out])
          have HPL := Lib.hid (show ((pickT ts AT).length : Int) = ((q : Int), ftb).1 by rw [HPQ.out])
          have HOB5 := Lib.hid (ownSl_mono HOB3.out hbp.out)
          have HWB := Lib.hid ((hbl.out.trans (HB3.out.mono hbl.out.size)).trans (hbp.out.mono (Nat.le_trans hbl.out.size HB3.out.size)))
          have s2 := cellL hbp.out HS23.out
          clear HS23 HOB3 hrow HAI
          generalize hPT : pickT ts AT = PT at *
          clear hPT
          go_wp2_with fail
          refine (l02Make_c size ((q : Int), ftb) PT AR pb po _ _ _ _ (Rd.mono HF.out hst5.bel) (cellL hst5.bel HC1.out) HL.out HOK.out HPL.out HTV.out (by omega)).mono ?_
          rintro e w36 ⟨vo, rfl, hac, hbw36⟩
          have hz_w36 : wr.heap.size ≤ w36.heap.size := by have h9 := hbw36.size; (try simp at h9); omega
          have hs37 := hst5.step hbw36
          have s2_38 := cellL hbw36 s2
          clear s2
          have HOB5_39 := Lib.hid (ownSl_mono HOB5.out hbw36)
          clear HOB5
          have HL_40 := Lib.hid (Rd.mono HL.out hbw36)
          clear HL
          have HWB_41 := Lib.hid (HWB.out.trans ((hbw36).mono HWB.out.size))
          clear HWB
          clear c0_ d1_
          have c0_ := cellL hs37.bel c0
          have d1_ := cellL hs37.bel d1
          have HMK := Lib.hid (make_val HOK.out HPL.out HTV.out)
          obtain ⟨ao, co, rfl, hmr⟩ := rd_list hac.rd
          have HFO := Lib.hid hac.rd
          clear hac
          generalize hMT : makeT size ((q : Int), ftb) PT AR = MT at *
          clear hMT
          have hML := HMK.out.1
          obtain ⟨bo, oo, rfl, -, -⟩ := rd_int_at HFO.out 0 (by rw [hML]; omega)
          have hcb := codeL_bd hs.1 MT HMK.out.2.1
          rw [hML, HPN.out] at hcb
          obtain ⟨C, hC⟩ : ∃ C : Nat, codeL size MT = C := ⟨(codeL size MT).toNat, by omega⟩
          have HC := Lib.hid hC
          rw [hC] at hcb
          have HML := Lib.hid hML
          have hCl : C < BS.length := by rw [HLS.out]; omega
          obtain ⟨o9, c9, hv9, hcd9, -, -⟩ := ownSl_bool HOB5_39.out C hCl
          simp only [Value.slice.injEq, Option.some.injEq, Addr.mk.injEq] at hv9
          obtain ⟨⟨-, rfl, -⟩, -, -⟩ := hv9
          rw [Nat.zero_add] at hcd9
          have HHT := Lib.hid (show BS[C] = hasT ts MT by
            have h := HSM.out MT HML.out HMK.out.2.1
            rw [HC.out, Int.toNat_natCast] at h
            rw [← h]; simp [List.getD, hCl])
          rw [HHT.out] at hcd9
          have hCI : (C : Int) < PN := by omega
          clear hC hML hmr
          cases hh : hasT ts MT with
          | true =>
            rw [hh] at hcd9
            have HQ := Lib.hid (show keepAt size ((q : Int), ftb) ((AR : Int), ts) k = true by rw [HKA.out, hh])
            clear hh
            go_upto_region 14 with fail
            refine wp_region_noPanic (wp_region_tree4 (fun w' => w'.cell? ⟨pb, po, none⟩ = some (.int .i64 q) ∧ w'.cell? ⟨rb, ro + 1, none⟩ = some (.slice (some ⟨bT, oT, none⟩) ts.length c) ∧ w'.cell? ⟨w.heap.size + 1, 2, none⟩ = some (.slice (some ⟨w.heap.size, 0, none⟩) PN PN) ∧ w'.cell? ⟨w.heap.size, C, none⟩ = some (.bool (true))) (.float 0 (.float 1 (.float 2 (.float 3 (.float 4 (.float 5 (.hard 6 (.float 7 (.float 8 (.float 9 .nil)))))))))) (by kernel_rfl) (by kernel_rfl) (by kernel_rfl) rfl ?_ (fun _ _ _ _ _ h => h) ?_)
            · exact ⟨cellL (hs37.drew).bel c0, cellL (hs37.drew).bel d1, cellL (belowD _) s2_38, cellL (belowD _) hcd9⟩
            have hs42 := hs37.drew
            have s2_43 := cellL (belowD _) s2_38
            clear s2_38
            have hcd9_44 := cellL (belowD _) hcd9
            clear hcd9
            have HOB5_45 := Lib.hid (ownSl_mono HOB5_39.out (belowD _))
            clear HOB5_39
            have HL_46 := Lib.hid (Rd.mono HL_40.out (belowD _))
            clear HL_40
            have HWB_47 := Lib.hid (HWB_41.out.trans (((belowD _)).mono HWB_41.out.size))
            clear HWB_41
            have HFO_48 := Lib.hid (Rd.mono HFO.out (belowD _))
            clear HFO
            clear c0_ d1_
            have hz_wd49 : w36.heap.size ≤ (w36.drew).heap.size := by simp
            generalize hgen_wd49 : w36.drew = wd49 at *
            have HG_wd49 := Lib.hid hgen_wd49
            clear hgen_wd49
            (repeat (first | (apply t4_skip rfl (by rfl); try simp only [Act.put, List.setIfInBounds_toArray, List.set_cons_zero, List.set_cons_succ]) | (apply t4_float rfl (by rfl); (· (intro w' hS; go_simp <;> with_reducible rfl)); (try simp only [Act.put, List.setIfInBounds_toArray, List.set_cons_zero, List.set_cons_succ]))))
            refine t4_hard rfl (by rfl) (fun K hK => ?_)
            go_wp2_with (go_at_call 139; refine (l01Code_c size MT _ _ HFO_48.out hs.1 HMK.out.2.1 (by rw [HML.out, HPN.out]; omega)).mono ?_; rintro e w50 ⟨rfl, rfl, rfl⟩)
            rw [HC.out]
            refine ⟨⟨cellL hs42.bel c0, cellL hs42.bel d1, s2_43, hcd9_44⟩, ?_⟩
            (repeat (first | (apply t4_skip rfl (by rfl); try simp only [Act.put, List.setIfInBounds_toArray, List.set_cons_zero, List.set_cons_succ]) | (apply t4_float rfl (by rfl); (· (intro w' hS; go_simp <;> with_reducible rfl)); (try simp only [Act.put, List.setIfInBounds_toArray, List.set_cons_zero, List.set_cons_succ]))))
            have c0_ := cellL hs42.bel c0
            have d1_ := cellL hs42.bel d1
            refine t4_nil (NoPanic.normal ?_)
            go_wp2_with fail
            go_roundw
            case rel =>
              refine ⟨k + 1, by omega, by go_num, HWB_47.out, fun j hj => ?_⟩
              rcases Nat.lt_or_ge j k with h | h
              · exact hr.out j h
              · obtain rfl : j = k := by omega
                exact HQ.out
            case measure => simp [intOf]; omega
          | false =>
            rw [hh] at hcd9
            have HQ := Lib.hid (show keepsP size ((q : Int), ftb) ((AR : Int), ts) = false by
              rw [HKP.out, List.all_eq_false]
              exact ⟨k, List.mem_range.2 hklt, by rw [HKA.out, hh]; decide⟩)
            clear hh
            go_upto_region 14 with fail
            refine wp_region_noPanic (wp_region_tree4 (fun w' => w'.cell? ⟨pb, po, none⟩ = some (.int .i64 q) ∧ w'.cell? ⟨rb, ro + 1, none⟩ = some (.slice (some ⟨bT, oT, none⟩) ts.length c) ∧ w'.cell? ⟨w.heap.size + 1, 2, none⟩ = some (.slice (some ⟨w.heap.size, 0, none⟩) PN PN) ∧ w'.cell? ⟨w.heap.size, C, none⟩ = some (.bool (false))) (.float 0 (.float 1 (.float 2 (.float 3 (.float 4 (.float 5 (.hard 6 (.float 7 (.float 8 (.float 9 .nil)))))))))) (by kernel_rfl) (by kernel_rfl) (by kernel_rfl) rfl ?_ (fun _ _ _ _ _ h => h) ?_)
            · exact ⟨cellL (hs37.drew).bel c0, cellL (hs37.drew).bel d1, cellL (belowD _) s2_38, cellL (belowD _) hcd9⟩
            have hs51 := hs37.drew
            have s2_52 := cellL (belowD _) s2_38
            clear s2_38
            have hcd9_53 := cellL (belowD _) hcd9
            clear hcd9
            have HOB5_54 := Lib.hid (ownSl_mono HOB5_39.out (belowD _))
            clear HOB5_39
            have HL_55 := Lib.hid (Rd.mono HL_40.out (belowD _))
            clear HL_40
            have HWB_56 := Lib.hid (HWB_41.out.trans (((belowD _)).mono HWB_41.out.size))
            clear HWB_41
            have HFO_57 := Lib.hid (Rd.mono HFO.out (belowD _))
            clear HFO
            clear c0_ d1_
            have hz_wd58 : w36.heap.size ≤ (w36.drew).heap.size := by simp
            generalize hgen_wd58 : w36.drew = wd58 at *
            have HG_wd58 := Lib.hid hgen_wd58
            clear hgen_wd58
            (repeat (first | (apply t4_skip rfl (by rfl); try simp only [Act.put, List.setIfInBounds_toArray, List.set_cons_zero, List.set_cons_succ]) | (apply t4_float rfl (by rfl); (· (intro w' hS; go_simp <;> with_reducible rfl)); (try simp only [Act.put, List.setIfInBounds_toArray, List.set_cons_zero, List.set_cons_succ]))))
            refine t4_hard rfl (by rfl) (fun K hK => ?_)
            go_wp2_with (go_at_call 139; refine (l01Code_c size MT _ _ HFO_57.out hs.1 HMK.out.2.1 (by rw [HML.out, HPN.out]; omega)).mono ?_; rintro e w59 ⟨rfl, rfl, rfl⟩)
            rw [HC.out]
            refine ⟨⟨cellL hs51.bel c0, cellL hs51.bel d1, s2_52, hcd9_53⟩, ?_⟩
            (repeat (first | (apply t4_skip rfl (by rfl); try simp only [Act.put, List.setIfInBounds_toArray, List.set_cons_zero, List.set_cons_succ]) | (apply t4_float rfl (by rfl); (· (intro w' hS; go_simp <;> with_reducible rfl)); (try simp only [Act.put, List.setIfInBounds_toArray, List.set_cons_zero, List.set_cons_succ]))))
            have c0_ := cellL hs51.bel c0
            have d1_ := cellL hs51.bel d1
            refine t4_nil (NoPanic.normal ?_)
            obtain ⟨w8, rfl⟩ : ∃ x, x = wd58 := ⟨_, rfl⟩
            have HROW8 := Lib.hid (row_made (size := 1) w8 32)
            have HBEL8 := Lib.hid hs51.bel
            obtain ⟨a5, c5, e5, h5⟩ := rd_list HL_55.out
            simp only [Value.slice.injEq] at e5
            obtain ⟨rfl, -, rfl⟩ := e5
            have HPT8 := Lib.hid h5
            clear h5
            have hst8 := hs51
            go_wp2_with fail
            go_loopw [17, 18] (fun ll i wl => ∃ (j g9 c9 : Nat) (xs : List Value), j ≤ q ∧ i = .int .i64 j ∧ ll = .slice (some ⟨g9, 0, none⟩) j c9 ∧ Hid (w8.heap.size ≤ g9 ∧ g9 < wl.heap.size) ∧ Hid (Below w8.heap.size w8 wl) ∧ Hid (wl.ownsRow 0 32 1 (.slice (some ⟨g9, 0, none⟩) j c9) j xs)) (fun _ i _ => q - (intOf i).toNat)
            case atStart => exact ⟨0, w8.heap.size, 0, [], Nat.zero_le _, rfl, rfl, ⟨Nat.le_refl _, by simp⟩, belowA _ _, by simpa [Hid] using HROW8.out⟩
            case round =>
              clear HROW8
              obtain ⟨j, g9, c9, xs, hj, rfl, rfl, hg9, hb9, hr9⟩ := hrel
              have hz9 := hb9.out.size
              by_cases hjlt : j < q
              · have hjI : (j : Int) < q := by omega
                have hjP : j < PT.length := by rw [HPQ.out]; exact hjlt
                obtain ⟨b5, o5, u5, e5, q5, hx5⟩ := rdSl_one rfl (rdSl_mono hb9.out HPT8.out) j hjP
                simp only [Option.some.injEq, Addr.mk.injEq, and_true] at e5
                obtain ⟨rfl, rfl⟩ := e5
                rw [Nat.zero_add] at q5
                obtain ⟨a5, c5, rfl, _⟩ := rd_list hx5
                have hpl := Lib.hid (HTV.out _ (List.getElem_mem hjP)).1
                have HX5 := Lib.hid hx5
                clear hx5
                go_wp2_with fail
                refine (l00Own_c PT[j] _ _ HX5.out (by rw [hpl.out]; omega)).mono ?_
                rintro e w5 ⟨v5, rfl, hA5, hb5⟩
                obtain ⟨a6, c6, rfl, _⟩ := hA5.len
                clear hA5
                have hz5 := hb5.size
                go_wp2_with (at_builtin; refine wpList_append_row _ rfl _ _ _ rfl E_lists rfl (ownsRow_below (ownsRow_below hr9.out hb5) (belowA w5 (.cells #[.slice a6 PT[j].length c6] 32))) (v := .slice (some ⟨g9, 0, none⟩) j c9) (vs := [.slice a6 PT[j].length c6]) rfl (fun u hu => by rw [List.mem_singleton] at hu; subst hu; rfl) ⟨w5.heap.size, 0, none⟩ 1 rfl (news1 (cell_at_block (heap_alloc_new _ _))) (by omega) ?_; intro gN cN wN hat hrowN hbutN hltN)
                have hg1 := hg9.out.1
                have HGN := Lib.hid (show w8.heap.size ≤ gN by
                  rcases hat with h | h
                  · simp only [Value.ownBlock, Option.some.injEq] at h
                    omega
                  · simp at h; omega)
                have HRN := Lib.hid hrowN
                have HBN := Lib.hid (((hb9.out.trans (hb5.mono hb9.out.size)).trans ((belowA w5 (.cells #[.slice a6 PT[j].length c6] 32)).mono (by omega))).trans (hbutN.below (B := w8.heap.size) (fun z hz => by simp [Value.ownBlock] at hz; omega) (by simp; omega)))
                clear hat hrowN hbutN
                go_wp2_with fail
                go_roundw
                case rel => exact ⟨j + 1, gN, cN, _, hjlt, by go_num, rfl, ⟨HGN.out, hltN⟩, HBN.out, HRN.out⟩
                case measure => simp [intOf]; omega
              · obtain rfl : j = q := by omega
                have hnj : ¬ ((j : Int) < j) := by omega
                have HBE := Lib.hid (HBEL8.out.trans (hb9.out.mono HBEL8.out.size))
                go_wp2_with fail
                refine bodyPost_ret (v := .tuple #[.slice (some ⟨g9, 0, none⟩) j c9, .slice (some ⟨bo, oo, none⟩) MT.length co, .bool true]) (by simp [results, Tryz.results183, go_sem]) rfl ⟨⟨_, _, by rw [HQ.out]; rfl⟩, HBE.out⟩
    · obtain rfl : k = TOT := by omega
      have hnk : ¬ ((k : Int) < k) := by omega
      have HQ := Lib.hid (show keepsP size ((FA : Int), ftb) ((AR : Int), ts) = true by
        rw [HKP.out, List.all_eq_true]
        exact fun j hj => hr.out j (List.mem_range.1 hj))
      have HBE := Lib.hid (hst3.bel.trans (((belowA wr (.cells #[] 32)).trans ((belowA _ (.cells #[] 2)).mono (by simp))).mono hst3.bel.size))
      go_wp2_with fail
      refine bodyPost_ret (v := .tuple #[.slice (some ⟨wr.heap.size, 0, none⟩) 0 0, .slice (some ⟨wr.heap.size + 1, 0, none⟩) 0 0, .bool false]) (by simp [results, Tryz.results183, go_sem]) rfl ⟨⟨_, _, by rw [HQ.out]; rfl⟩, HBE.out⟩
set_option maxRecDepth 100000 in
set_option maxHeartbeats 2000000 in
theorem l02Keeps_c (size : Int) (f : OpT) (r : RelT) (pb po rb ro : Nat) (v0 v1 r0 r1 : Value) (w : World) (hf : Rd w [v0, v1] f) (c0 : w.cell? ⟨pb, po, none⟩ = some v0) (c1 : w.cell? ⟨pb, po + 1, none⟩ = some v1) (hr : Rd w [r0, r1] r) (d0 : w.cell? ⟨rb, ro, none⟩ = some r0) (d1 : w.cell? ⟨rb, ro + 1, none⟩ = some r1) (hok : opOk size f = true) (hrk : relOk size r = true) :
    Calls Tryz.prog 153 #[.int .i64 size, .pointer (some ⟨pb, po, none⟩), .pointer (some ⟨rb, ro, none⟩)] w fun e w' => e = .returned (.bool (keepsP size f r)) ∧ Below w.heap.size w w' := by
  go_enter Tryz.func153, Tryz.ntmps153
  go_wp2_with fail
  refine (l02Breaks_c size f r pb po rb ro v0 v1 r0 r1 _ hf c0 c1 hr d0 d1 hok hrk).mono ?_
  rintro e w1 ⟨x, y, rfl, hb1⟩
  have HB := Lib.hid hb1
  clear hb1
  go_wp2_with fail
  go_ret
  exact ⟨ret_bool (by simp), HB.out⟩

end Go.Proofs.YtllenfkbfeanmaaGreat

/-
  CONTRACTS: operations made of a function.
-/
namespace Go.Proofs.YtllenfkbfeanmaaGreat
open Go.RowKit Go.Shelf
open Rep (Rd Own sz)
set_option linter.unusedSimpArgs false
set_option linter.unusedVariables false

/-- The table of a function of lists. -/
def tableTo (f : List Int → Int) (size : Int) (m : Nat) (k : Nat) : List Int := (List.range k).map fun (i : Nat) => f (digs size m (i : Int))
@[simp] theorem tableTo_length (f : List Int → Int) (size : Int) (m k : Nat) : (tableTo f size m k).length = k := by simp [tableTo]
theorem tableTo_succ (f : List Int → Int) (size : Int) (m k : Nat) : tableTo f size m (k + 1) = tableTo f size m k ++ [f (digs size m k)] := by simp [tableTo, List.range_succ]
theorem fresh_intO {H : Nat} {w : World} {n : Int} (h : I64 n) : Fresh H w [.int .i64 n] n := ⟨[], ⟨rfl, rfl, h⟩, by simp, by simp⟩
/-- What opOf asks of the function that it is handed. -/
def ByC (g : Nat) (cb : Array Value) (w : World) (size : Int) (m : Nat) (f : List Int → Int) : Prop :=
  ∀ (W : World) (l : List Int) (v : Value), Below w.heap.size w W → Rd W [v] l → l.length = m → (∀ a, a ∈ l → 0 ≤ a ∧ a < size) → Calls Tryz.prog g (#[v] ++ cb) W fun e w' => e = .returned (.int .i64 (f l)) ∧ I64 (f l) ∧ Below W.heap.size W w'

set_option maxRecDepth 100000 in
set_option maxHeartbeats 1000000 in
theorem opOf_c (size arity : Int) (g : Nat) (cb : Array Value) (f : List Int → Int) (w : World) (hs : 1 ≤ size) (hs2 : size ≤ 1000000) (hm : 0 ≤ arity) (hm2 : arity ≤ 1000) (hp : size ^ arity.toNat ≤ 1000000)
    (eg : ∀ args w, (callFunc g args).run Tryz.prog w = .ok (.enter g args) w) (hby : ByC g cb w size arity.toNat f) :
    Calls Tryz.prog 123 #[.int .i64 size, .int .i64 arity, .func (.func g) #[] cb] w fun e w' => ∃ v, e = .returned (.agg #[.int .i64 arity, v]) ∧ Fresh w.heap.size w' [v] (tableTo f size arity.toNat (size ^ arity.toNat).toNat) ∧ Below w.heap.size w w' := by
  obtain ⟨m, rfl⟩ := Int.eq_ofNat_of_zero_le hm
  rw [Int.toNat_natCast] at hp hby ⊢
  have HBY := Lib.hid hby
  clear hby
  have hpos : 0 ≤ size ^ m := Int.pow_nonneg (by omega)
  obtain ⟨N, hN⟩ := Int.eq_ofNat_of_zero_le hpos
  have HN := Lib.hid hN
  have hN2 : N ≤ 1000000 := by omega
  rw [hN, Int.toNat_natCast]
  go_enter Tryz.func123, Tryz.ntmps123
  go_wp2_with (go_at_call 91; refine (power_c size m _ (by omega) (by omega) (by omega) (by rw [Int.toNat_natCast]; omega)).mono ?_; rintro e w' ⟨rfl, rfl⟩)
  clear hN hpos hp
  go_loopw [8, 14] (fun _ i wr => ∃ (k c : Nat) (a : Option Addr), k ≤ N ∧ i = .int .i64 k ∧ Hid (Below w.heap.size w wr) ∧ Hid (w.heap.size + 2 ≤ wr.heap.size) ∧ Hid (wr.heap[w.heap.size]? = some (.cells #[.int .i64 0, .slice none 0 0] 34 (0, 0))) ∧ Hid (wr.heap[w.heap.size + 1]? = some (.cells #[.int .i64 m, .slice a k c] 34 (0, 0))) ∧
      Hid (Acc (w.heap.size + 2) wr.heap.size 2 wr (.slice a k c) (tableTo f size m k))) (fun _ i _ => N - (intOf i).toNat)
  case atStart =>
    refine ⟨0, 0, none, Nat.zero_le _, rfl, ((Below.refl _ _).alloc (Nat.le_refl _) _).alloc (by simp) _, by simp [Hid], ?_, heap_alloc_at _ _ (by simp), ?_⟩
    · show (World.alloc _ _).heap[_]? = _
      rw [Below.heap_alloc _ _ _ (by simp)]
      exact heap_alloc_at _ _ rfl
    simpa [Hid, tableTo] using Acc.nil (α := Int) _ _ _ _
  case round =>
    obtain ⟨k, c, a, hk, rfl, hbl, hsz, hres, hbox, hacc⟩ := hrel
    have hc1 : wr.cell? ⟨w.heap.size + 1, 1, none⟩ = some (.slice a k c) := by rw [cell_at_block hbox.out]; rfl
    have hc0 : wr.cell? ⟨w.heap.size + 1, 0, none⟩ = some (.int .i64 m) := by rw [cell_at_block hbox.out]; rfl
    have hf1 : wr.frozen? ⟨w.heap.size + 1, 1, none⟩ = false := free_at_block hbox.out
    by_cases hlt : k < N
    · have hb0 : w.heap.size + 1 < wr.heap.size := by have := hsz.out; omega
      have hbo : Hid (Below w.heap.size w wr) := hbl
      go_wp2
      have hk1 : Hid (KC wr ⟨w.heap.size + 1, 1, none⟩ (.slice a k c)) := ⟨hc1, hf1⟩
      refine wp_region_noPanic (wp_region_el (fun w' => w'.cell? ⟨w.heap.size + 1, 1, none⟩ = some (.slice a k c)) [(0, 0), (1, 0), (2, 0), (3, 0), (4, 0), (5, 0), (6, 1), (7, 1), (8, 1), (9, 1), (10, 0), (11, 2)] (by kernel_rfl) (by kernel_rfl) (by kernel_rfl) rfl ?_ (fun _ _ _ _ _ h => h) ?_)
      · exact (hk1.out.mono (belowD _)).1
      (repeat (first | (apply el_skip rfl (by rfl); try simp only [Act.put, List.setIfInBounds_toArray, List.set_cons_zero, List.set_cons_succ]) | (apply el_float rfl (by rfl); (· (intro w' hS; go_simp <;> with_reducible rfl)); (try simp only [Act.put, List.setIfInBounds_toArray, List.set_cons_zero, List.set_cons_succ]))))
      refine el_hard rfl (by rfl) (fun K hK => ?_)
      go_wp2_with (go_at_call 156; refine (listOf_c size m k _ (by omega) (by omega) (by omega) (by omega) (by omega) (by omega)).mono ?_; rintro e w1 ⟨v1, rfl, fr1, hb1⟩)
      refine ⟨((hk1.out.mono (belowD _)).mono hb1).1, ?_⟩
      (repeat (first | (apply el_skip rfl (by rfl); try simp only [Act.put, List.setIfInBounds_toArray, List.set_cons_zero, List.set_cons_succ]) | (apply el_float rfl (by rfl); (· (intro w' hS; go_simp <;> with_reducible rfl)); (try simp only [Act.put, List.setIfInBounds_toArray, List.set_cons_zero, List.set_cons_succ]))))
      refine el_hard rfl (by rfl) (fun K hK => ?_)
      go_wp2_with (go_at_fn g; refine (HBY.out _ (digs size m k) v1 (hbl.out.drew.trans (hb1.mono hbl.out.size)) fr1.rd (digs_length _ _ _) (digs_mem _ (by omega) _ _)).mono ?_; rintro e w2 ⟨rfl, i2, hb2⟩)
      refine ⟨(((hk1.out.mono (belowD _)).mono hb1).mono hb2).1, ?_⟩
      (repeat (first | (apply el_skip rfl (by rfl); try simp only [Act.put, List.setIfInBounds_toArray, List.set_cons_zero, List.set_cons_succ]) | (apply el_float rfl (by rfl); (· (intro w' hS; go_simp <;> with_reducible rfl)); (try simp only [Act.put, List.setIfInBounds_toArray, List.set_cons_zero, List.set_cons_succ]))))
      refine el_hard rfl (by rfl) (fun K hK => ?_)
      go_wp2_with fail
      have hk3 := (((hk1.out.mono (belowD _)).mono hb1).mono hb2).mono (belowA w2 (.cells #[.int .i64 (f (digs size m k))] 2))
      refine ⟨hk3.1, ?_⟩
      refine el_hard rfl (by rfl) (fun K hK => ?_)
      refine wp_append_acc _ _ _ _ rfl E_ints rfl (hacc.out.mono ((((belowD _).trans (hb1.mono (Nat.le_refl _))).trans (hb2.mono hb1.size)).trans ((belowA _ _).mono (Nat.le_trans hb1.size hb2.size)))) (fresh_intO i2) hsz.out
              (by have h1 := hb1.size; have h2 := hb2.size; simp at h1 ⊢; omega) ⟨w2.heap.size, 0, none⟩ 1 rfl (World.news_of_block (cs := #[.int .i64 (f (digs size m k))]) (heap_alloc_new w2 _)) (by simp; omega) ?_
      intro a3 c3 w3 hacc3 hb3 _
      simp only [tableTo_length] at hacc3 ⊢
      have hk4 := hk3.below hb3 (Nat.lt_succ_self _)
      refine hK _ _ ⟨hk4.1, ?_⟩
      have hc3 := hk4.1
      have hf3 := hk4.2
      clear hK
      (repeat (first | (apply el_skip rfl (by rfl); try simp only [Act.put, List.setIfInBounds_toArray, List.set_cons_zero, List.set_cons_succ]) | (apply el_float rfl (by rfl); (· (intro w' hS; go_simp <;> with_reducible rfl)); (try simp only [Act.put, List.setIfInBounds_toArray, List.set_cons_zero, List.set_cons_succ]))))
      refine el_last rfl (by rfl) (fun K hK => ?_)
      go_wp2
      refine el_nil (NoPanic.normal ?_)
      go_wp2
      go_roundw
      case rel =>
        have hBW : Below w.heap.size w w3 := (((hbl.out.drew.trans (hb1.mono hbl.out.size)).trans (hb2.mono (Nat.le_trans hbl.out.size hb1.size))).alloc (Nat.le_trans (Nat.le_trans hbl.out.size hb1.size) hb2.size) _).trans (hb3.mono (by omega))
        have keep : ∀ b, b < w.heap.size + 2 → w3.heap[b]? = wr.heap[b]? := fun b hb => by
          have s1 := hb1.size
          have s2 := hb2.size
          have s0 := hsz.out
          simp at s1
          rw [hb3.block b hb, Below.heap_alloc _ _ _ (by omega), hb2.block b (by omega), hb1.block b (by simp; omega)]
          rfl
        refine ⟨k + 1, c3, a3, by omega, by go_num, hBW.setCell (by simp) _, ?_, ?_, ?_, ?_⟩
        · have s3 := hb3.size; have s1 := hb1.size; have s2 := hb2.size; have s0 := hsz.out; simp [Hid, World.setCell] at s1 s3 ⊢; omega
        · show (World.setCell _ _ _).heap[_]? = _
          rw [Below.heap_setCell _ _ _ _ (by simp), keep _ (by omega)]
          exact hres.out
        · have := heap_setCell_at w3 (w.heap.size + 1) 1 (.slice a3 (k + 1) c3) _ _ _ ((keep _ (by omega)).trans hbox.out)
          exact this
        · have h6 := hacc3.setCell (a := ⟨w.heap.size + 1, 1, none⟩) (by simp) (.slice a3 (k + 1) c3)
          rw [← tableTo_succ] at h6
          exact h6.up (by simp [World.setCell])
      case measure => simp [intOf]; omega
    · obtain rfl : k = N := by omega
      have r0 : wr.cell? ⟨w.heap.size, 0, none⟩ = some (.int .i64 0) := by rw [cell_at_block hres.out]; rfl
      have r1 : wr.cell? ⟨w.heap.size, 1, none⟩ = some (.slice none 0 0) := by rw [cell_at_block hres.out]; rfl
      have f0 : wr.frozen? ⟨w.heap.size, 0, none⟩ = false := free_at_block hres.out
      have f1 : wr.frozen? ⟨w.heap.size, 1, none⟩ = false := free_at_block hres.out
      go_wp2
      refine bodyPost_ret (v := .agg #[.int .i64 m, .slice a k c]) (by simp [results, Tryz.results123, go_sem, r0, r1, f0, f1]) rfl ⟨_, rfl, ?_, ?_⟩
      · have h6 := ((hacc.out.setCell (a := ⟨w.heap.size, 0, none⟩) (by simp) (.int .i64 m)).setCell (a := ⟨w.heap.size, 1, none⟩) (by simp) (.slice a k c)).fresh
        exact h6.lower (by omega)
      · exact (hbl.out.setCell (by simp) _).setCell (by simp) _

end Go.Proofs.YtllenfkbfeanmaaGreat

/-
  CONTRACTS: the operation x - y + z.
-/
namespace Go.Proofs.YtllenfkbfeanmaaGreat
open Go.RowKit Go.Shelf
open Rep (Rd Own sz)
set_option linter.unusedSimpArgs false
set_option linter.unusedVariables false

def affF (p : Int) (l : List Int) : Int := (l.getD 0 0 - l.getD 1 0 + l.getD 2 0) % p
theorem affF_bd (p : Int) (hp : 0 < p) (l : List Int) : 0 ≤ affF p l ∧ affF p l < p := ⟨Int.emod_nonneg _ (by omega), Int.emod_lt_of_pos _ hp⟩
theorem getD_memA {l : List Int} {i : Nat} (h : i < l.length) : l.getD i 0 ∈ l := by simp [List.getD, h]
/-- The table of x - y + z. -/
def affOp (p : Int) : OpT := (3, tableTo (affF p) p 3 (p ^ 3).toNat)

set_option maxHeartbeats 400000 in
theorem affineOp1_by (p : Int) (w : World) (b : Nat) (hb : w.cell? ⟨b, 0, none⟩ = some (.int .i64 p)) (hp : 0 < p) (hp2 : p ≤ 1000) : ByC 134 #[.pointer (some ⟨b, 0, none⟩)] w p 3 (affF p) := by
  intro W l v hbl r hl hm
  have hc := cellL hbl hb
  obtain ⟨a, c, rfl, h⟩ := rd_list r
  obtain ⟨b0, o0, rfl, c0, _⟩ := rdSl_int h 0 (by omega)
  obtain ⟨b1, o1, e1, c1, _⟩ := rdSl_int h 1 (by omega)
  obtain ⟨b2, o2, e2, c2, _⟩ := rdSl_int h 2 (by omega)
  simp only [Option.some.injEq, Addr.mk.injEq, and_true] at e1 e2
  obtain ⟨rfl, rfl⟩ := e1
  obtain ⟨rfl, rfl⟩ := e2
  have m0 := hm _ (getD_memA (by omega : 0 < l.length))
  have m1 := hm _ (getD_memA (by omega : 1 < l.length))
  have m2 := hm _ (getD_memA (by omega : 2 < l.length))
  rw [hl]
  rw [Nat.add_zero] at c0
  clear r h hb hm
  generalize hx : l.getD 0 0 = x at *
  generalize hy : l.getD 1 0 = y at *
  generalize hz : l.getD 2 0 = z at *
  have HX := Lib.hid hx
  have HY := Lib.hid hy
  have HZ := Lib.hid hz
  clear hx hy hz hl
  show Calls _ _ #[_, _] _ _
  go_enter Tryz.func134, Tryz.ntmps134
  go_wp2
  go_quiet (fail)
  go_wp2
  go_ret
  refine ⟨ret_int ?_, ?_, drewN_below _ _⟩
  · unfold affF
    rw [HX.out, HY.out, HZ.out, Int.add_emod_right]
  · exact i64_of _ (affF_bd p hp l).1 (by have := (affF_bd p hp l).2; omega)
set_option maxHeartbeats 400000 in
theorem affineOp_c (p : Int) (w : World) (hp : 1 < p) (hp2 : p ≤ 4) :
    Calls Tryz.prog 66 #[.int .i64 p] w fun e w' => ∃ v, e = .returned (.agg #[.int .i64 3, v]) ∧ Fresh w.heap.size w' [v] (tableTo (affF p) p 3 (p ^ 3).toNat) ∧ Below w.heap.size w w' := by
  have hq : p ^ 3 ≤ 1000000 := by
    have : p = 2 ∨ p = 3 ∨ p = 4 := by omega
    rcases this with rfl | rfl | rfl <;> decide
  have eg : ∀ args w, (callFunc 134 args).run Tryz.prog w = .ok (.enter 134 args) w := enters_of Tryz.func134 (by kernel_rfl) rfl
  have hs : St w (w.heap.size + 1 + 1) ((w.alloc (.cells #[.int .i64 p] 2)).alloc (.cells #[.int .i64 0, .slice none 0 0] 34)) [(w.heap.size, #[.int .i64 p], 2), (w.heap.size + 1, #[.int .i64 0, .slice none 0 0], 34)] :=
    ((St.start w).alloc _ _ rfl).alloc _ _ (by simp)
  go_enter Tryz.func66, Tryz.ntmps66
  go_wp2_with fail
  refine (opOf_c p 3 134 _ (affF p) _ (by omega) (by omega) (by omega) (by omega) hq eg (affineOp1_by p _ w.heap.size (hs.cellAt 0 rfl 0 rfl) (by omega) (by omega))).mono ?_
  rintro e w1 ⟨v, rfl, fr, hb1⟩
  have hs1 := hs.step hb1
  obtain ⟨a, c, rfl, _⟩ := rd_list fr.rd
  have r0 := hs1.cellAt 1 rfl 0 rfl
  have r1 := hs1.cellAt 1 rfl 1 rfl
  have f0 := hs1.freeAt 1 rfl 0
  have f1 := hs1.freeAt 1 rfl 1
  go_wp2
  refine bodyPost_ret (v := .agg #[.int .i64 3, .slice a _ c]) (by simp [results, Tryz.results66, go_sem, r0, r1, f0, f1]) rfl ⟨_, rfl, hs1.fin2 (by simp) (by simp) (by simp) fr _ _ _ _⟩
set_option maxRecDepth 100000 in
set_option maxHeartbeats 1000000 in
theorem l07Affine_c (p : Int) (w : World) (hp : 1 < p) (hp2 : p ≤ 4) :
    Calls Tryz.prog 121 #[.int .i64 p] w fun e w' => ∃ v, e = .returned (.agg #[.int .i64 3, v]) ∧ Fresh w.heap.size w' [v] (tableTo (affF p) p 3 (p ^ 3).toNat) ∧ Below w.heap.size w w' := by
  obtain ⟨N, hN, hN2, hpp, hpp0⟩ : ∃ N : Nat, p * p * p = N ∧ (p ^ 3).toNat = N ∧ p * p ≤ 16 ∧ 0 ≤ p * p := by
    have : p = 2 ∨ p = 3 ∨ p = 4 := by omega
    rcases this with rfl | rfl | rfl
    · exact ⟨8, by decide, by decide, by decide, by decide⟩
    · exact ⟨27, by decide, by decide, by decide, by decide⟩
    · exact ⟨64, by decide, by decide, by decide, by decide⟩
  have hN3 : N ≤ 1000 := by
    have : p = 2 ∨ p = 3 ∨ p = 4 := by omega
    rcases this with rfl | rfl | rfl <;> omega
  rw [hN2]
  clear hN2
  have hs0 : St w (w.heap.size + 1 + 1) ((w.alloc (.cells #[.int .i64 0, .slice none 0 0] 34)).alloc (.cells #[.int .i64 3, .slice none 0 0] 34)) [(w.heap.size, #[.int .i64 0, .slice none 0 0], 34), (w.heap.size + 1, #[.int .i64 3, .slice none 0 0], 34)] :=
    ((St.start w).alloc _ _ rfl).alloc _ _ (by simp)
  go_enter Tryz.func121, Tryz.ntmps121
  go_wp2_with fail
  go_loopw [4, 5] (fun i _ wr => ∃ (k c : Nat) (a : Option Addr), k ≤ N ∧ i = .int .i64 k ∧ Hid (St w (w.heap.size + 2) wr [(w.heap.size, #[.int .i64 0, .slice none 0 0], 34), (w.heap.size + 1, #[.int .i64 3, .slice a k c], 34)]) ∧
      Hid (Acc (w.heap.size + 2) wr.heap.size 2 wr (.slice a k c) (tableTo (affF p) p 3 k))) (fun i _ _ => N - (intOf i).toNat)
  case atStart =>
    refine ⟨0, 0, none, Nat.zero_le _, rfl, hs0, ?_⟩
    simpa [Hid, tableTo] using Acc.nil (α := Int) _ _ _ _
  case round =>
    obtain ⟨k, c, a, hk, rfl, hst, hacc⟩ := hrel
    have hS := hst.out.hi
    by_cases hlt : k < N
    · go_wp2_with (go_at_call 140; refine (l01Digits_c p 3 k _ (by omega) (by omega) (by omega) (by omega) (by omega) (by omega)).mono ?_; rintro e w1 ⟨v1, rfl, fr1, hb1⟩)
      have hst1 := hst.out.step hb1
      have hacc1 := hacc.out.mono hb1
      obtain ⟨a1, c1, rfl, h1⟩ := rd_list fr1.rd
      have fr1' := Lib.hid fr1
      have hl1 : (digs p 3 (k : Int)).length = 3 := digs_length _ _ _
      rw [show Int.toNat 3 = 3 from rfl] at *
      obtain ⟨b0, o0, rfl, q0, _⟩ := rdSl_int h1 0 (by omega)
      obtain ⟨b1, o1, e1, q1, _⟩ := rdSl_int h1 1 (by omega)
      obtain ⟨b2, o2, e2, q2, _⟩ := rdSl_int h1 2 (by omega)
      simp only [Option.some.injEq, Addr.mk.injEq, and_true] at e1 e2
      obtain ⟨rfl, rfl⟩ := e1
      obtain ⟨rfl, rfl⟩ := e2
      rw [Nat.add_zero] at q0
      have hb0 := fr1.block (by intro h; rw [h] at hl1; cases hl1)
      have m0 := digs_mem p (by omega) 3 k _ (getD_memA (by omega : 0 < _))
      have m1 := digs_mem p (by omega) 3 k _ (getD_memA (by omega : 1 < _))
      have m2 := digs_mem p (by omega) 3 k _ (getD_memA (by omega : 2 < _))
      have hF := affF_bd p (by omega) (digs p 3 k)
      have HA : Hid (affF p (digs p 3 k) = ((digs p 3 (k : Int)).getD 0 0 - (digs p 3 (k : Int)).getD 1 0 + (digs p 3 (k : Int)).getD 2 0) % p) := rfl
      rw [hl1]
      generalize hx : (digs p 3 (k : Int)).getD 0 0 = x at *
      generalize hy : (digs p 3 (k : Int)).getD 1 0 = y at *
      generalize hz : (digs p 3 (k : Int)).getD 2 0 = z at *
      generalize ht : affF p (digs p 3 (k : Int)) = t at *
      have HX := Lib.hid ht
      clear hx hy hz h1 ht hl1
      have q3 := hst1.cellAt 1 rfl 1 rfl
      have HW := Lib.hid hst1
      have HQ := Lib.hid hacc1
      clear hst1 hacc1
      go_wp2
      refine wp_region_noPanic (wp_region_el (fun w' => w'.cell? ⟨w.heap.size + 1, 1, none⟩ = some (.slice a k c) ∧ w'.cell? ⟨b0, o0, none⟩ = some (.int .i64 x) ∧ w'.cell? ⟨b0, o0 + 1, none⟩ = some (.int .i64 y) ∧ w'.cell? ⟨b0, o0 + 2, none⟩ = some (.int .i64 z)) [(0, 0), (1, 0), (2, 0), (3, 0), (4, 0), (5, 0), (6, 0), (7, 0), (8, 0), (9, 0), (10, 0), (11, 0), (12, 0), (13, 0), (14, 1), (15, 1), (16, 1), (17, 0), (18, 2)] (by kernel_rfl) (by kernel_rfl) (by kernel_rfl) rfl ?_ (fun _ _ _ _ _ h => h) ?_)
      · exact ⟨q3, q0, q1, q2⟩
      (repeat (first | (apply el_skip rfl (by rfl); try simp only [Act.put, List.setIfInBounds_toArray, List.set_cons_zero, List.set_cons_succ]) | (apply el_float rfl (by rfl); (· (intro w' hS; go_simp <;> with_reducible rfl)); (try simp only [Act.put, List.setIfInBounds_toArray, List.set_cons_zero, List.set_cons_succ]))))
      refine el_hard rfl (by rfl) (fun K hK => ?_)
      go_wp2_with (go_at_call 154; refine (l07Mod_c _ _ _ (by omega) (by omega)).mono ?_; rintro e w2 ⟨rfl, rfl⟩)
      refine ⟨⟨q3, q0, q1, q2⟩, ?_⟩
      (repeat (first | (apply el_skip rfl (by rfl); try simp only [Act.put, List.setIfInBounds_toArray, List.set_cons_zero, List.set_cons_succ]) | (apply el_float rfl (by rfl); (· (intro w' hS; go_simp <;> with_reducible rfl)); (try simp only [Act.put, List.setIfInBounds_toArray, List.set_cons_zero, List.set_cons_succ]))))
      refine el_hard rfl (by rfl) (fun K hK => ?_)
      go_wp2_with fail
      have hbA := (belowD w1).trans (belowA w1.drew (.cells #[.int .i64 ((x - y + z) % p)] 2))
      have hst2 := HW.out.step hbA
      have hacc2 := HQ.out.mono hbA
      refine ⟨⟨cellL hbA q3, cellL hbA q0, cellL hbA q1, cellL hbA q2⟩, ?_⟩
      refine el_hard rfl (by rfl) (fun K hK => ?_)
      refine wp_append_acc _ _ _ _ rfl E_ints rfl hacc2 (fresh_intO (n := (x - y + z) % p) (i64_of _ (by rw [← HA.out]; omega) (by rw [← HA.out]; omega))) hS (Nat.le_trans hb1.size hbA.size) ⟨w1.heap.size, 0, none⟩ 1 rfl (World.news_of_block (cs := #[.int .i64 ((x - y + z) % p)]) (heap_alloc_new w1 _)) (by simp; omega) ?_
      intro a3 c3 w3 hacc3 hb3 hkp
      simp only [tableTo_length] at hacc3 ⊢
      have hst3 := hst2.stepB hb3
      have q4 := hst3.cellAt 1 rfl 1 rfl
      have f4 := hst3.freeAt 1 rfl 1
      have hkb := hkp b0 hb0.1 (Nat.lt_of_lt_of_le hb0.2 hbA.size)
      refine hK _ _ ⟨⟨q4, cellK (cellL hbA q0) hkb, cellK (cellL hbA q1) hkb, cellK (cellL hbA q2) hkb⟩, ?_⟩
      clear hK
      (repeat (first | (apply el_skip rfl (by rfl); try simp only [Act.put, List.setIfInBounds_toArray, List.set_cons_zero, List.set_cons_succ]) | (apply el_float rfl (by rfl); (· (intro w' hS; go_simp <;> with_reducible rfl)); (try simp only [Act.put, List.setIfInBounds_toArray, List.set_cons_zero, List.set_cons_succ]))))
      refine el_last rfl (by rfl) (fun K hK => ?_)
      go_wp2
      refine el_nil (NoPanic.normal ?_)
      go_wp2
      go_roundw
      case rel =>
        refine ⟨k + 1, c3, a3, by omega, by go_num, (hst3.set (p := [_]) (by simp) 1 (.slice a3 (k + 1) c3)), ?_⟩
        have h6 := hacc3.setCell (a := ⟨w.heap.size + 1, 1, none⟩) (by simp) (.slice a3 (k + 1) c3)
        rw [← HA.out, ← HX.out, ← tableTo_succ] at h6
        exact h6.up (by simp [World.setCell])
      case measure => simp [intOf]; omega
    · obtain rfl : k = N := by omega
      have r0 := hst.out.cellAt 0 rfl 0 rfl
      have r1 := hst.out.cellAt 0 rfl 1 rfl
      have f0 := hst.out.freeAt 0 rfl 0
      have f1 := hst.out.freeAt 0 rfl 1
      have p0 := hst.out.cellAt 1 rfl 0 rfl
      have p1 := hst.out.cellAt 1 rfl 1 rfl
      go_wp2
      refine bodyPost_ret (v := .agg #[.int .i64 3, .slice a k c]) (by simp [results, Tryz.results121, go_sem, r0, r1, f0, f1]) rfl ⟨_, rfl, hst.out.fin2 (by simp) (by simp) (by simp) hacc.out.fresh _ _ _ _⟩


end Go.Proofs.YtllenfkbfeanmaaGreat

/-
  CONTRACTS: is a relation affine?
-/
namespace Go.Proofs.YtllenfkbfeanmaaGreat
open Go.RowKit Go.Shelf Go.IntWalk
open Rep (Rd Own sz)
set_option linter.unusedSimpArgs false
set_option linter.unusedVariables false

theorem affOp_ok {p : Int} (h : isPr p = true) : opOk p (affOp p) = true := by
  rcases isPr_true h with rfl | rfl <;> decide
def affIs (p : Int) (r : RelT) : Bool := decide (0 < r.2.length) && keepsP p (affOp p) r
theorem rd_op {w : World} {v : Value} {k : Int} {tb : List Int} (hk : I64 k) (h : Rd w [v] tb) : Rd w [.int .i64 k, v] (k, tb) := ⟨[.int .i64 k], [v], rfl, ⟨rfl, hk⟩, h⟩
set_option maxRecDepth 100000 in
set_option maxHeartbeats 4000000 in
theorem isAffine1_c (p : Int) (r : RelT) (v0 v1 : Value) (w : World) (hr : Rd w [v0, v1] r) (hp : isPr p = true) (hrk : relOk p r = true) :
    Calls Tryz.prog 65 #[.int .i64 p, .agg #[v0, v1]] w fun e w' => e = .returned (.bool (affIs p r)) ∧ Below w.heap.size w w' := by
  obtain ⟨ar, l⟩ := r
  have hp2 : p = 2 ∨ p = 3 := isPr_true hp
  have hok := affOp_ok hp
  have hA : affIs p (ar, l) = (decide (0 < l.length) && keepsP p (affOp p) (ar, l)) := rfl
  have CA := fun (W : World) => affineOp_c p W (by omega) (by omega)
  unfold affOp at hok hA
  generalize hT : tableTo (affF p) p 3 (p ^ 3).toNat = tb at *
  have HOK := Lib.hid hok
  have HA := Lib.hid hA
  have CA := Lib.hid CA
  have HRK := Lib.hid hrk
  clear hT hok hA hp hrk
  have HR := Lib.hid hr
  have z60 := rd_cons rfl hr
  obtain ⟨rfl, hIar⟩ := rd_i1 z60.1
  obtain ⟨a, c, rfl, hRl⟩ := rd_list z60.2
  clear hr z60
  have hb0 := (rdSl_len hRl).2
  unfold maxLen at hb0
  clear hRl
  have hs61 := (St.start w).alloc #[.int .i64 ar, .slice a l.length c] 50 (n := w.heap.size) (by simp)
  have k0_0 := hs61.cellAt 0 rfl 0 rfl
  have k0_1 := hs61.cellAt 0 rfl 1 rfl
  go_enter Tryz.func65, Tryz.ntmps65
  by_cases hl : l.length = 0
  · have HD := Lib.hid (show decide (0 < l.length) = false by simp [hl])
    have H1 := Lib.hid (show affIs p (ar, l) = false by rw [HA.out, HD.out, Bool.false_and])
    clear hl
    go_upto_region 1 with fail
    refine wp_region_noPanic (wp_region_tree4 (fun w' => w'.cell? ⟨w.heap.size, 0, none⟩ = some (.int .i64 ar) ∧ w'.cell? ⟨w.heap.size, 1, none⟩ = some (.slice a l.length c)) (.float 0 (.float 1 (.float 2 (.float 3 (.float 4 (.float 5 (.float 6 (.float 8 (.hard 7 (.hard 9 (.float 10 (.float 11 .nil)))))))))))) (by kernel_rfl) (by kernel_rfl) (by kernel_rfl) rfl ?_ (fun _ _ _ _ _ h => h) ?_)
    · exact ⟨(hs61.drew).cellAt 0 rfl 0 rfl, (hs61.drew).cellAt 0 rfl 1 rfl⟩
    have hs62 := hs61.drew
    clear k0_0 k0_1
    have hz_wd63 : w.heap.size + 1 ≤ ((w.alloc (.cells #[.int .i64 ar, .slice a l.length c] 50)).drew).heap.size := by simp
    generalize hgen_wd63 : (w.alloc (.cells #[.int .i64 ar, .slice a l.length c] 50)).drew = wd63 at *
    have HG_wd63 := Lib.hid hgen_wd63
    clear hgen_wd63
    (repeat (first | (apply t4_skip rfl (by rfl); try simp only [Act.put, List.setIfInBounds_toArray, List.set_cons_zero, List.set_cons_succ]) | (apply t4_float rfl (by rfl); (· (intro w' hS; go_simp <;> with_reducible rfl)); (try simp only [Act.put, List.setIfInBounds_toArray, List.set_cons_zero, List.set_cons_succ]))))
    (try (rw [HD.out]; (repeat (first | (apply t4_skip rfl (by rfl); try simp only [Act.put, List.setIfInBounds_toArray, List.set_cons_zero, List.set_cons_succ]) | (apply t4_float rfl (by rfl); (· (intro w' hS; go_simp <;> with_reducible rfl)); (try simp only [Act.put, List.setIfInBounds_toArray, List.set_cons_zero, List.set_cons_succ]))))))
    refine t4_hskip rfl (by rfl) ?_ ?_
    · exact ⟨hs62.cellAt 0 rfl 0 rfl, hs62.cellAt 0 rfl 1 rfl⟩
    (try simp only [Act.put, List.setIfInBounds_toArray, List.set_cons_zero, List.set_cons_succ])
    (repeat (first | (apply t4_skip rfl (by rfl); try simp only [Act.put, List.setIfInBounds_toArray, List.set_cons_zero, List.set_cons_succ]) | (apply t4_float rfl (by rfl); (· (intro w' hS; go_simp <;> with_reducible rfl)); (try simp only [Act.put, List.setIfInBounds_toArray, List.set_cons_zero, List.set_cons_succ]))))
    (try (rw [HD.out]; (repeat (first | (apply t4_skip rfl (by rfl); try simp only [Act.put, List.setIfInBounds_toArray, List.set_cons_zero, List.set_cons_succ]) | (apply t4_float rfl (by rfl); (· (intro w' hS; go_simp <;> with_reducible rfl)); (try simp only [Act.put, List.setIfInBounds_toArray, List.set_cons_zero, List.set_cons_succ]))))))
    refine t4_hskip rfl (by rfl) ?_ ?_
    · exact ⟨hs62.cellAt 0 rfl 0 rfl, hs62.cellAt 0 rfl 1 rfl⟩
    (try simp only [Act.put, List.setIfInBounds_toArray, List.set_cons_zero, List.set_cons_succ])
    (repeat (first | (apply t4_skip rfl (by rfl); try simp only [Act.put, List.setIfInBounds_toArray, List.set_cons_zero, List.set_cons_succ]) | (apply t4_float rfl (by rfl); (· (intro w' hS; go_simp <;> with_reducible rfl)); (try simp only [Act.put, List.setIfInBounds_toArray, List.set_cons_zero, List.set_cons_succ]))))
    (try (rw [HD.out]; (repeat (first | (apply t4_skip rfl (by rfl); try simp only [Act.put, List.setIfInBounds_toArray, List.set_cons_zero, List.set_cons_succ]) | (apply t4_float rfl (by rfl); (· (intro w' hS; go_simp <;> with_reducible rfl)); (try simp only [Act.put, List.setIfInBounds_toArray, List.set_cons_zero, List.set_cons_succ]))))))
    have k0_0 := hs62.cellAt 0 rfl 0 rfl
    have k0_1 := hs62.cellAt 0 rfl 1 rfl
    refine t4_nil (NoPanic.normal ?_)
    go_wp2_with fail
    go_ret
    exact ⟨ret_bool H1.out.symm, hs62.bel⟩
  · have HD := Lib.hid (show decide (0 < l.length) = true by simp; omega)
    have H1 := Lib.hid (show affIs p (ar, l) = keepsP p (3, tb) (ar, l) by rw [HA.out, HD.out, Bool.true_and])
    clear hl
    go_upto_region 1 with fail
    refine wp_region_noPanic (wp_region_tree4 (fun w' => w'.cell? ⟨w.heap.size, 0, none⟩ = some (.int .i64 ar) ∧ w'.cell? ⟨w.heap.size, 1, none⟩ = some (.slice a l.length c)) (.float 0 (.float 1 (.float 2 (.float 3 (.float 4 (.float 5 (.float 6 (.float 8 (.hard 7 (.hard 9 (.float 10 (.float 11 .nil)))))))))))) (by kernel_rfl) (by kernel_rfl) (by kernel_rfl) rfl ?_ (fun _ _ _ _ _ h => h) ?_)
    · exact ⟨(hs61.drew).cellAt 0 rfl 0 rfl, (hs61.drew).cellAt 0 rfl 1 rfl⟩
    have hs64 := hs61.drew
    clear k0_0 k0_1
    have hz_wd65 : w.heap.size + 1 ≤ ((w.alloc (.cells #[.int .i64 ar, .slice a l.length c] 50)).drew).heap.size := by simp
    generalize hgen_wd65 : (w.alloc (.cells #[.int .i64 ar, .slice a l.length c] 50)).drew = wd65 at *
    have HG_wd65 := Lib.hid hgen_wd65
    clear hgen_wd65
    (repeat (first | (apply t4_skip rfl (by rfl); try simp only [Act.put, List.setIfInBounds_toArray, List.set_cons_zero, List.set_cons_succ]) | (apply t4_float rfl (by rfl); (· (intro w' hS; go_simp <;> with_reducible rfl)); (try simp only [Act.put, List.setIfInBounds_toArray, List.set_cons_zero, List.set_cons_succ]))))
    (try (rw [HD.out]; (repeat (first | (apply t4_skip rfl (by rfl); try simp only [Act.put, List.setIfInBounds_toArray, List.set_cons_zero, List.set_cons_succ]) | (apply t4_float rfl (by rfl); (· (intro w' hS; go_simp <;> with_reducible rfl)); (try simp only [Act.put, List.setIfInBounds_toArray, List.set_cons_zero, List.set_cons_succ]))))))
    refine t4_hard rfl (by rfl) (fun K hK => ?_)
    go_wp2_with (go_at_call 66; refine (CA.out _).mono ?_; rintro e w66 ⟨v3, rfl, fr3, hbw66⟩)
    have hz_w66 : wd65.heap.size ≤ w66.heap.size := by have h9 := hbw66.size; (try simp at h9); omega
    have hs67 := hs64.step hbw66
    obtain ⟨a3, c3, rfl, _⟩ := rd_list fr3.rd
    have HFR := Lib.hid (rd_op (k := 3) ⟨by decide, by decide⟩ fr3.rd)
    clear fr3
    refine ⟨⟨hs67.cellAt 0 rfl 0 rfl, hs67.cellAt 0 rfl 1 rfl⟩, ?_⟩
    (repeat (first | (apply t4_skip rfl (by rfl); try simp only [Act.put, List.setIfInBounds_toArray, List.set_cons_zero, List.set_cons_succ]) | (apply t4_float rfl (by rfl); (· (intro w' hS; go_simp <;> with_reducible rfl)); (try simp only [Act.put, List.setIfInBounds_toArray, List.set_cons_zero, List.set_cons_succ]))))
    (try (rw [HD.out]; (repeat (first | (apply t4_skip rfl (by rfl); try simp only [Act.put, List.setIfInBounds_toArray, List.set_cons_zero, List.set_cons_succ]) | (apply t4_float rfl (by rfl); (· (intro w' hS; go_simp <;> with_reducible rfl)); (try simp only [Act.put, List.setIfInBounds_toArray, List.set_cons_zero, List.set_cons_succ]))))))
    refine t4_hard rfl (by rfl) (fun K hK => ?_)
    go_wp2_with (go_at_call 133; refine (keeps_c p (3, tb) (ar, l) _ _ _ _ _ HFR.out (Rd.mono HR.out hs67.bel) HOK.out HRK.out).mono ?_; rintro e w68 ⟨rfl, hbw68⟩)
    have hz_w68 : w66.heap.size ≤ w68.heap.size := by have h9 := hbw68.size; (try simp at h9); omega
    have hs69 := hs67.step hbw68
    have HFR_70 := Lib.hid (Rd.mono HFR.out hbw68)
    clear HFR
    refine ⟨⟨hs69.cellAt 0 rfl 0 rfl, hs69.cellAt 0 rfl 1 rfl⟩, ?_⟩
    (repeat (first | (apply t4_skip rfl (by rfl); try simp only [Act.put, List.setIfInBounds_toArray, List.set_cons_zero, List.set_cons_succ]) | (apply t4_float rfl (by rfl); (· (intro w' hS; go_simp <;> with_reducible rfl)); (try simp only [Act.put, List.setIfInBounds_toArray, List.set_cons_zero, List.set_cons_succ]))))
    (try (rw [HD.out]; (repeat (first | (apply t4_skip rfl (by rfl); try simp only [Act.put, List.setIfInBounds_toArray, List.set_cons_zero, List.set_cons_succ]) | (apply t4_float rfl (by rfl); (· (intro w' hS; go_simp <;> with_reducible rfl)); (try simp only [Act.put, List.setIfInBounds_toArray, List.set_cons_zero, List.set_cons_succ]))))))
    have k0_0 := hs69.cellAt 0 rfl 0 rfl
    have k0_1 := hs69.cellAt 0 rfl 1 rfl
    refine t4_nil (NoPanic.normal ?_)
    go_wp2_with fail
    go_ret
    exact ⟨ret_bool H1.out.symm, hs69.bel⟩
set_option maxRecDepth 100000 in
set_option maxHeartbeats 4000000 in
theorem l07Is_c (p : Int) (r : RelT) (pb po : Nat) (v0 v1 : Value) (w : World) (hr : Rd w [v0, v1] r) (d0 : w.cell? ⟨pb, po, none⟩ = some v0) (d1 : w.cell? ⟨pb, po + 1, none⟩ = some v1) (hp : isPr p = true) (hrk : relOk p r = true) :
    Calls Tryz.prog 120 #[.int .i64 p, .pointer (some ⟨pb, po, none⟩)] w fun e w' => e = .returned (.bool (affIs p r)) ∧ Below w.heap.size w w' := by
  obtain ⟨ar, l⟩ := r
  have hp2 : p = 2 ∨ p = 3 := isPr_true hp
  have hok := affOp_ok hp
  have hA : affIs p (ar, l) = (decide (0 < l.length) && keepsP p (affOp p) (ar, l)) := rfl
  have CA := fun (W : World) => l07Affine_c p W (by omega) (by omega)
  unfold affOp at hok hA
  generalize hT : tableTo (affF p) p 3 (p ^ 3).toNat = tb at *
  have HOK := Lib.hid hok
  have HA := Lib.hid hA
  have CA := Lib.hid CA
  have HRK := Lib.hid hrk
  have HD0 := Lib.hid d0
  clear hT hok hA hp hrk d0
  have HR := Lib.hid hr
  have z71 := rd_cons rfl hr
  obtain ⟨rfl, hIar⟩ := rd_i1 z71.1
  obtain ⟨a, c, rfl, hRl⟩ := rd_list z71.2
  clear hr z71
  have hb0 := (rdSl_len hRl).2
  unfold maxLen at hb0
  clear hRl
  have d1_ := cellL (St.start w).bel d1
  go_enter Tryz.func120, Tryz.ntmps120
  go_wp2_with fail
  refine (CA.out _).mono ?_
  rintro e w72 ⟨v3, rfl, fr3, hbw72⟩
  have hz_w72 : w.heap.size ≤ w72.heap.size := by have h9 := hbw72.size; (try simp at h9); omega
  have hs73 := (St.start w).step hbw72
  clear d1_
  have d1_ := cellL hs73.bel d1
  obtain ⟨a3, c3, rfl, _⟩ := rd_list fr3.rd
  have HFR := Lib.hid (rd_op (k := 3) ⟨by decide, by decide⟩ fr3.rd)
  clear fr3
  have hs74 := hs73.alloc #[.int .i64 3, .slice a3 tb.length c3] 34 (n := w72.heap.size) (by simp)
  have HFR_75 := Lib.hid (Rd.mono HFR.out (belowA _ (.cells #[.int .i64 3, .slice a3 tb.length c3] 34)))
  clear HFR
  clear d1_
  have k0_0 := hs74.cellAt 0 rfl 0 rfl
  have k0_1 := hs74.cellAt 0 rfl 1 rfl
  have d1_ := cellL hs74.bel d1
  by_cases hl : l.length = 0
  · have hd : ¬ ((0 : Int) < l.length) := by omega
    have H1 := Lib.hid (show affIs p (ar, l) = false by rw [HA.out, decide_eq_false (by omega), Bool.false_and])
    have hl0 : l.length = 0 := hl
    clear hl
    go_wp2_with fail
    go_ret
    exact ⟨ret_bool H1.out.symm, hs74.bel⟩
  · have hd : (0 : Int) < l.length := by omega
    have H1 := Lib.hid (show affIs p (ar, l) = keepsP p (3, tb) (ar, l) by rw [HA.out, decide_eq_true (by omega), Bool.true_and])
    clear hl
    go_wp2_with fail
    refine (l02Keeps_c p (3, tb) (ar, l) _ _ pb po _ _ _ _ _ HFR_75.out (hs74.cellAt 0 rfl 0 rfl) (hs74.cellAt 0 rfl 1 rfl) (Rd.mono HR.out hs74.bel) (cellL hs74.bel HD0.out) (cellL hs74.bel d1) HOK.out HRK.out).mono ?_
    rintro e w76 ⟨rfl, hbw76⟩
    have hz_w76 : w72.heap.size + 1 ≤ w76.heap.size := by have h9 := hbw76.size; (try simp at h9); omega
    have hs77 := hs74.step hbw76
    have HFR_78 := Lib.hid (Rd.mono HFR_75.out hbw76)
    clear HFR_75
    clear k0_0 k0_1 d1_
    have k0_0 := hs77.cellAt 0 rfl 0 rfl
    have k0_1 := hs77.cellAt 0 rfl 1 rfl
    have d1_ := cellL hs77.bel d1
    go_wp2_with fail
    go_ret
    exact ⟨ret_bool H1.out.symm, hs77.bel⟩

end Go.Proofs.YtllenfkbfeanmaaGreat

