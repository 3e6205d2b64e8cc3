/-
  CONTRACTS: what an operation makes of tuples; whether it keeps a relation; the program's side.
-/
import Derived.Test.YtoblfnoaepbhfaaRelM
import Derived.Test.YtoblfnoaepbhfaaAccP
import Derived.Lib.BufferMore
namespace Go.Proofs.Ytoblfnoaepbhfaa
open Go.RowKit Go.Shelf Go.IntWalk
open Rep (Rd Own sz)
set_option linter.unusedSimpArgs false
set_option linter.unusedVariables false

theorem part_set {α : Type} {R : List α} {d : α} {p : Nat} (h : p < R.length) : (R.take p ++ List.replicate (R.length - p) d).set p R[p] = R.take (p + 1) ++ List.replicate (R.length - (p + 1)) d := by
  rw [List.set_append_right _ _ (by simp; omega), show p - (R.take p).length = 0 by simp; omega, show R.length - p = (R.length - (p + 1)) + 1 by omega, List.replicate_succ, List.set_cons_zero, List.take_succ_eq_append_getElem h, List.append_assoc]
  rfl
/-- The headers of a slice of slices. -/
theorem rd_hdrs {w : World} {a : Option Addr} {c : Nat} {l : List (List Int)} (h : RdSl w a c l) (h0 : 0 < l.length) : ∃ (b o : Nat) (vh : Nat → Value), a = some ⟨b, o, none⟩ ∧ ∀ q (hq : q < l.length), w.cell? ⟨b, o + q, none⟩ = some (vh q) ∧ Rd w [vh q] l[q] := by
  obtain ⟨b, o, u, rfl, _, _⟩ := rdSl_one rfl h 0 h0
  have key : ∀ q, ∃ v, ∀ hq : q < l.length, w.cell? ⟨b, o + q, none⟩ = some v ∧ Rd w [v] l[q] := by
    intro q
    by_cases hq : q < l.length
    · obtain ⟨b', o', v, e, hc, hr⟩ := rdSl_one rfl h q hq
      simp only [Option.some.injEq, Addr.mk.injEq, and_true] at e
      obtain ⟨rfl, rfl⟩ := e
      exact ⟨v, fun _ => ⟨hc, hr⟩⟩
    · exact ⟨.bool false, fun h => absurd h hq⟩
  exact ⟨b, o, fun q => (key q).choose, rfl, fun q hq => (key q).choose_spec hq⟩
/-- What a row of headers reads as. -/
theorem rd_of_row1 {w : World} {e : TypeId} {g n c : Nat} {xs : List Value} {l : List (List Int)} (h : w.ownsRow 0 e 1 (.slice (some ⟨g, 0, none⟩) n c) n xs) (hn : n = l.length) (hel : ∀ i (hi : i < l.length), ∃ v, xs[i]? = some v ∧ Rd w [v] l[i]) : Rd w [.slice (some ⟨g, 0, none⟩) n c] l := by
  subst hn
  rcases h.2 with ⟨e0, _⟩ | ⟨g', cap, cur, e1, _, hh, hc, hm, hs, ht⟩
  · cases e0
  simp only [Value.slice.injEq, Option.some.injEq, Addr.mk.injEq, and_true, true_and] at e1
  obtain ⟨rfl, rfl⟩ := e1
  refine ⟨_, _, rfl, hc, hm, fun i hi => ?_⟩
  obtain ⟨v, hv, hr⟩ := hel i hi
  refine ⟨g, 0, [v], rfl, hr, fun k hk => ?_⟩
  obtain rfl : k = 0 := by simpa using hk
  rw [cell_at_block hh]
  rw [← ht] at hv
  have : i < l.length * 1 := by omega
  simp only [List.getElem?_take, if_pos this] at hv
  simpa [sz] using hv
/-- A bool of a slice that is the call's own. -/
theorem ownSl_bool {g : Nat} {w : World} {v : Value} {l : List Bool} (h : OwnSl [g] w v l) (i : Nat) (hi : i < l.length) :
    ∃ o c, v = .slice (some ⟨g, o, none⟩) l.length c ∧ w.cell? ⟨g, o + i, none⟩ = some (.bool l[i]) ∧ w.frozen? ⟨g, o + i, none⟩ = false ∧
      ∀ x, OwnSl [g] (w.setCell ⟨g, o + i, none⟩ (.bool x)) v (l.set i x) := by
  obtain ⟨g', o, c, cur, e, p, vs, hv, hg, hO, hc, hgp, hgn, hpn, hpp, hput⟩ := own_elem h (by simp) i hi
  obtain rfl : g' = g := by simpa using hgp
  obtain ⟨rfl, rfl⟩ := hO
  have hci := hc 0 (by simp)
  simp at hci
  refine ⟨o, c, hv, by rw [cell_at_block hg]; exact hci, free_at_block hg, fun x => ?_⟩
  refine hput _ [.bool x] x ?_ ⟨rfl, rfl⟩ (fun z hz _ hzg => ?_)
  · rw [heap_setCell_at _ _ _ _ _ _ _ hg]; simp [putArr, sz]
  · exact Below.heap_setCell _ _ _ _ hzg
set_option maxRecDepth 100000 in
set_option maxHeartbeats 4000000 in
theorem made_c (size : Int) (f : OpT) (ts : List (List Int)) (ar : Nat) (v0 v1 vt : Value) (w : World) (hf : Rd w [v0, v1] f) (ht : Rd w [vt] ts) (hok : opOk size f = true) (hlen : (ts.length : Int) = f.1) (hv : ∀ t, t ∈ ts → t.length = ar ∧ Val size t) (har : ar ≤ 1000) :
    Calls Try.prog 133 #[.int .i64 size, .agg #[v0, v1], vt] w fun e w' => ∃ v, e = .returned v ∧ Fresh w.heap.size w' [v] (makeT size f ts ar) ∧ Below w.heap.size w w' := by
  have hs := (opOk_get hok).1
  have hfa := (opOk_get hok).2.1
  have hR : (makeT size f ts ar).length = ar := by simp [makeT]
  have HRP := Lib.hid (fun (p : Nat) (hp : p < (makeT size f ts ar).length) => show (makeT size f ts ar)[p] = valOf size f (ts.map (fun t => t.getD p 0)) by simp [makeT])
  have HMV := Lib.hid (make_val hok hlen hv).2.2
  have HMR := Lib.hid (make_val hok hlen hv).2.1
  generalize hRR : makeT size f ts ar = R at *
  clear hRR
  have HOK := Lib.hid hok
  have HF := Lib.hid hf
  have HLEN := Lib.hid hlen
  have HV := Lib.hid hv
  have zf := rd_cons rfl hf
  obtain ⟨rfl, _⟩ := rd_i1 zf.1
  obtain ⟨af, cf, rfl, _⟩ := rd_list zf.2
  have HFT := Lib.hid zf.2
  obtain ⟨a, c, rfl, htr⟩ := rd_list ht
  have HT := Lib.hid htr
  have hl3 : ts.length ≤ 3 := by omega
  have hl0 : 0 < ts.length := by omega
  obtain ⟨b, o, u0, rfl, q0, hx0⟩ := rdSl_one rfl htr 0 hl0
  obtain ⟨a0, c0, rfl, _⟩ := rd_list hx0
  have hA0 := (hv _ (List.getElem_mem hl0)).1
  rw [hA0, Nat.add_zero] at q0
  clear hok hf ht htr zf hx0 hv hlen
  have q0_ := cellL (St.start w).bel q0
  have hs1 := (St.start w).alloc #[.int .i64 f.1, .slice af f.2.length cf] 107 (n := w.heap.size) (by simp)
  clear q0_
  have k0_0 := hs1.cellAt 0 rfl 0 rfl
  have k0_1 := hs1.cellAt 0 rfl 1 rfl
  have q0_ := cellL hs1.bel q0
  have HS0 := Lib.hid hs1
  go_enter Try.func133, Try.ntmps133
  go_wp2_with (at_make; refine wpList_make_rep _ rfl _ _ 104 rfl E_ints (0 : Int) own0_int ar (by omega) rfl rfl ?_; intro w1 hown hb1 hs1)
  rw [show (w.alloc (.cells #[.int .i64 f.1, .slice af f.2.length cf] 107)).heap.size = w.heap.size + 1 by simp] at hown hb1 hs1
  have HO := Lib.hid hown
  have hst1 := HS0.out.step (w1 := w1) (by simpa using hb1)
  have HST := Lib.hid hst1
  have hsz1 : w.heap.size + 2 ≤ w1.heap.size := by omega
  clear hown hb1 hs1 hst1 k0_0 k0_1 q0_ HS0
  go_wp2_with fail
  go_loopw [19] (fun i wr => ∃ p : Nat, p ≤ ar ∧ i = .int .i64 p ∧ Hid (OnlyAt [w.heap.size + 1] w1 wr) ∧ Hid (OwnSl [w.heap.size + 1] wr (.slice (some ⟨w.heap.size + 1, 0, none⟩) ar ar) (R.take p ++ List.replicate (ar - p) 0))) (fun i _ => ar - (intOf i).toNat)
  case atStart => exact ⟨0, Nat.zero_le _, rfl, OnlyAt.refl _ _, by simpa [Hid] using HO.out⟩
  case round =>
    clear HO
    obtain ⟨p, hp, rfl, ho, hw⟩ := hrel
    have hst2 := HST.out.butIv (OnlyAt.but ho.out) (fun z hz => by simp at hz; omega) (fun x hx hz => by simp at hx hz; subst hx; simp at hz)
    have k0_0 := hst2.cellAt 0 rfl 0 rfl
    have k0_1 := hst2.cellAt 0 rfl 1 rfl
    have q0_ := cellL hst2.bel q0
    by_cases hlt : p < ar
    · have hltI : (p : Int) < ar := by omega
      have HAV := Lib.hid (show ∀ a, a ∈ ts.map (fun t => t.getD p 0) → 0 ≤ a ∧ a ≤ size - 1 from HMV.out p hlt)
      obtain ⟨K, hK, e1, e2, -, -, e5, e6⟩ := valOf_at (args := ts.map (fun t => t.getD p 0)) HOK.out (by simpa using HLEN.out) HAV.out
      have HCK := Lib.hid e1
      have HVK := Lib.hid (show ∀ h : p < R.length, R[p] = f.2[K] from fun h => by rw [HRP.out p h, e2])
      obtain ⟨bf, of, ef, qf, hIf⟩ := rd_int_at (Rd.mono HFT.out hst2.bel) K hK
      have HIF := Lib.hid hIf
      have HP6 := Lib.hid e6
      clear e1 e2 e6 hIf
      subst ef
      go_wp2_with fail
      go_loop [9, 24] (fun q i => ∃ (k : Nat) (Q : Int), k ≤ ts.length ∧ i = .int .i64 k ∧ q = .int .i64 Q ∧ Hid (Q = codeL size ((ts.map (fun t => t.getD p 0)).take k))) (fun _ i => ts.length - (intOf i).toNat)
      case atStart => exact ⟨0, 0, Nat.zero_le _, rfl, rfl, rfl⟩
      case round =>
        obtain ⟨k, Q, hk, rfl, rfl, hq⟩ := hrel
        by_cases hklt : k < ts.length
        · have hkl : (k : Int) < ts.length := by omega
          obtain ⟨b2, o2, u2, e3, q2, hx2⟩ := rdSl_one rfl (rdSl_mono hst2.bel HT.out) k hklt
          simp only [Option.some.injEq, Addr.mk.injEq, and_true] at e3
          obtain ⟨rfl, rfl⟩ := e3
          have hTL := HV.out _ (List.getElem_mem hklt)
          obtain ⟨a2, c2, rfl, _⟩ := rd_list hx2
          obtain ⟨b4, o4, rfl, q4, _⟩ := rd_int_at hx2 p (by rw [hTL.1]; exact hlt)
          rw [hTL.1] at q2
          have hst := codeL_step hs.1 HAV.out (by have := HP6.out; omega) (k := k) (by simpa using hklt)
          have HCT := Lib.hid (codeL_take (size := size) (l := ts.map (fun t => t.getD p 0)) (k := k) (by simpa using hklt))
          have he : (ts.map (fun t => t.getD p 0))[k]'(by simpa using hklt) = ts[k][p]'(by rw [hTL.1]; exact hlt) := by simp [List.getD, hTL.1, hlt]
          rw [he, ← hq.out] at hst
          have HQ2 := Lib.hid (show Q * size + ts[k][p]'(by rw [hTL.1]; exact hlt) = codeL size ((ts.map (fun t => t.getD p 0)).take (k + 1)) by rw [HCT.out, he, hq.out])
          clear HCT he hx2
          generalize ts[k][p]'(by rw [hTL.1]; exact hlt) = Y at *
          obtain ⟨g1, g2, g3, g4, g5⟩ := hst
          go_wp2_with fail
          go_round
          case rel => exact ⟨k + 1, Q * size + Y, by omega, by go_num, rfl, HQ2.out⟩
          case measure => simp [intOf]; omega
        · obtain rfl : k = ts.length := by omega
          have hQK : Q = (K : Int) := by rw [hq.out, ← HCK.out, List.take_of_length_le (by simp)]
          subst hQK
          have hKl : (K : Int) < f.2.length := by omega
          obtain ⟨g9, o9, c9, hv9, hps9, hcd9, hf9, hset9⟩ := ownSl_int hw.out p (by simp; omega)
          simp only [Value.slice.injEq, Option.some.injEq, Addr.mk.injEq] at hv9
          obtain ⟨⟨rfl, rfl, -⟩, -, rfl⟩ := hv9
          rw [Nat.zero_add] at hcd9 hf9
          generalize (R.take p ++ List.replicate (ar - p) 0).getD p 0 = Z9 at hcd9
          have HR9 := Lib.hid hR
          clear hR
          have HS9 := Lib.hid (hset9 (f.2[K]) HIF.out)
          rw [Nat.zero_add] at HS9
          have HPS := Lib.hid (part_set (R := R) (d := (0 : Int)) (p := p) (by have := HR9.out; omega))
          have HO9 := Lib.hid (ho.out.setCell (p := ⟨w.heap.size + 1, p, none⟩) (by simp) (.int .i64 f.2[K]))
          clear hset9 hps9
          go_wp2_with fail
          go_roundw
          case rel =>
            refine ⟨p + 1, by omega, by go_num, HO9.out, ?_⟩
            have h5 := HS9.out
            have h6 := HPS.out
            rw [HVK.out (by have := HR9.out; omega)] at h6
            rw [HR9.out] at h6
            rw [h6] at h5
            exact h5
          case measure => simp [intOf]; omega
    · obtain rfl : p = ar := by omega
      have hnl : ¬ ((p : Int) < p) := by omega
      go_wp2_with fail
      go_ret
      refine ⟨_, rfl, ⟨[w.heap.size + 1], ⟨_, rfl, ?_⟩, by simp, by simp⟩, hst2.bel⟩
      have h5 := hw.out
      rw [List.take_of_length_le (by omega), Nat.sub_self, List.replicate_zero, List.append_nil] at h5
      exact h5
set_option maxRecDepth 100000 in
set_option maxHeartbeats 16000000 in
theorem broken_c (size : Int) (f : OpT) (r : RelT) (f0 f1 r0 r1 : Value) (w : World) (hf : Rd w [f0, f1] f) (hr : Rd w [r0, r1] r) (hok : opOk size f = true) (hrk : relOk size r = true) :
    Calls Try.prog 94 #[.int .i64 size, .agg #[f0, f1], .agg #[r0, r1]] w fun e w' => ∃ (vl : Value) (ao : Option Addr) (n c : Nat), e = .returned (.tuple #[vl, .slice ao n c]) ∧ ao.isNone = keepsP size f r ∧ (ao = none → n = 0 ∧ c = 0) ∧ Below w.heap.size w w' := by
  obtain ⟨far, ftb⟩ := f
  obtain ⟨rar, ts⟩ := r
  have hs := (opOk_get hok).1
  have hfa := (opOk_get hok).2.1
  have hra := (relOk_get hrk).2.1
  have hcnt := relOk_count hrk
  have hp256 := pow256 hs hra
  simp only at hfa hra hcnt hp256
  have HVAL := Lib.hid (relOk_val hrk)
  have HOK := Lib.hid hok
  have HRK := Lib.hid hrk
  have HF := Lib.hid hf
  have zf := rd_cons rfl hf
  obtain ⟨rfl, _⟩ := rd_i1 zf.1
  obtain ⟨af, cf, rfl, _⟩ := rd_list zf.2
  have zr := rd_cons rfl hr
  obtain ⟨rfl, _⟩ := rd_i1 zr.1
  obtain ⟨a, c, rfl, htr⟩ := rd_list zr.2
  have hb0 := (rdSl_len htr).2
  unfold maxLen at hb0
  have HTR := Lib.hid htr
  clear hf hr zf zr hok hrk htr
  have hs2 := (St.start w).alloc #[.int .i64 far, .slice af ftb.length cf] 107 (n := w.heap.size) (by simp)
  have k0_0 := hs2.cellAt 0 rfl 0 rfl
  have k0_1 := hs2.cellAt 0 rfl 1 rfl
  have hs3 := hs2.alloc #[.int .i64 rar, .slice a ts.length c] 31 (n := w.heap.size + 1) (by simp)
  clear k0_0 k0_1
  have k0_0 := hs3.cellAt 0 rfl 0 rfl
  have k0_1 := hs3.cellAt 0 rfl 1 rfl
  have k1_0 := hs3.cellAt 1 rfl 0 rfl
  have k1_1 := hs3.cellAt 1 rfl 1 rfl
  obtain ⟨AR, rfl⟩ : ∃ x : Nat, rar = x := ⟨rar.toNat, by omega⟩
  obtain ⟨FA, rfl⟩ : ∃ x : Nat, far = x := ⟨far.toNat, by omega⟩
  simp only [Int.toNat_natCast] at hcnt hp256
  obtain ⟨PN, hPN⟩ : ∃ x : Nat, size ^ AR = (x : Int) := ⟨(size ^ AR).toNat, by omega⟩
  have HPN := Lib.hid hPN
  rw [hPN] at hcnt hp256
  clear hPN
  have HS0 := Lib.hid hs3
  go_enter Try.func94, Try.ntmps94
  go_wp2_with fail
  refine (power_c size AR _ (by omega) (by omega) (by omega) (by rw [Int.toNat_natCast, HPN.out]; omega)).mono ?_
  rintro e w4 ⟨rfl, rfl, rfl⟩
  rw [Int.toNat_natCast, HPN.out]
  by_cases hfull : ts.length = PN
  · have HK := Lib.hid (keeps_full HOK.out HRK.out (show ((ts.length : Nat) : Int) = size ^ ((AR : Int)).toNat by rw [Int.toNat_natCast, HPN.out, hfull]))
    have hfb : ((ts.length : Int) == (PN : Int)) = true := by simp [hfull]
    clear hfull
    go_wp2_with fail
    refine bodyPost_ret (v := .tuple #[.slice none 0 0, .slice none 0 0]) (by simp [results, Try.results94, go_sem]) rfl ⟨_, none, 0, 0, rfl, by rw [HK.out]; rfl, fun _ => ⟨rfl, rfl⟩, hs3.bel⟩
  · have hfb : ((ts.length : Int) == (PN : Int)) = false := by simp; omega
    clear hfull
    go_wp2_with fail
    refine (power_c size AR _ (by omega) (by omega) (by omega) (by rw [Int.toNat_natCast, HPN.out]; omega)).mono ?_
    rintro e w5 ⟨rfl, rfl, rfl⟩
    rw [Int.toNat_natCast, HPN.out]
    go_wp2_with (at_make; refine wpList_make_rep _ rfl _ _ 187 rfl E_bools false own0_bool PN (by omega) rfl rfl ?_; intro w1 hown hb1 hs1; have hst1 := hs3.step hb1; have p00 := hst1.cellAt 0 rfl 0 rfl; have p01 := hst1.cellAt 0 rfl 1 rfl; have p10 := hst1.cellAt 1 rfl 0 rfl; have p11 := hst1.cellAt 1 rfl 1 rfl)
    rw [show ((w.alloc (.cells #[.int .i64 FA, .slice af ftb.length cf] 107)).alloc (.cells #[.int .i64 AR, .slice a ts.length c] 31)).heap.size = w.heap.size + 1 + 1 by simp] at hown hs1
    have HO := Lib.hid hown
    have HST := Lib.hid hst1
    have hsz1 : w.heap.size + 1 + 1 + 1 ≤ w1.heap.size := by omega
    clear hown hb1 hs1 hst1 k0_0 k0_1 k1_0 k1_1 HS0 p00 p01 p10 p11
    go_wp2_with fail
    go_loopw [34] (fun i wl => ∃ k : Nat, k ≤ ts.length ∧ i = .int .i64 k ∧ Hid (OnlyAt [w.heap.size + 1 + 1] w1 wl) ∧ Hid (OwnSl [w.heap.size + 1 + 1] wl (.slice (some ⟨w.heap.size + 1 + 1, 0, none⟩) PN PN) (setTo size PN ts k))) (fun i _ => ts.length - (intOf i).toNat)
    case atStart => exact ⟨0, Nat.zero_le _, rfl, OnlyAt.refl _ _, HO.out⟩
    case round =>
      clear HO
      obtain ⟨k, hk, rfl, ho, hw⟩ := hrel
      have hst2 := HST.out.butIv (OnlyAt.but ho.out) (fun z hz => by simp at hz; omega) (fun x hx hz => by simp only [List.mem_singleton] at hz; simp at hx; rcases hx with rfl | rfl <;> (simp only at hz; omega))
      have hszr : w1.heap.size ≤ wr.heap.size := by rw [ho.out.size]; exact Nat.le_refl _
      have HSL := Lib.hid (setTo_len size PN ts k)
      have k0_0 := hst2.cellAt 0 rfl 0 rfl
      have k0_1 := hst2.cellAt 0 rfl 1 rfl
      have k1_0 := hst2.cellAt 1 rfl 0 rfl
      have k1_1 := hst2.cellAt 1 rfl 1 rfl
      by_cases hlt : k < ts.length
      · have hltI : (k : Int) < ts.length := by omega
        obtain ⟨b, o, u0, rfl, q0, hx⟩ := rdSl_one rfl (rdSl_mono hst2.bel HTR.out) k hlt
        have HX := Lib.hid hx
        obtain ⟨a0, c0, rfl, _⟩ := rd_list hx
        have hvv := HVAL.out _ (List.getElem_mem hlt)
        have hcb := codeL_bd hs.1 ts[k] hvv.2
        rw [hvv.1, Int.toNat_natCast, HPN.out] at hcb
        have HVV := Lib.hid (show ∀ x, x ∈ ts[k] → 0 ≤ x ∧ x ≤ size - 1 from hvv.2)
        have HLN := Lib.hid hvv.1
        obtain ⟨C, hC⟩ : ∃ C : Nat, codeL size ts[k] = C := ⟨(codeL size ts[k]).toNat, by omega⟩
        have HC := Lib.hid hC
        rw [hC] at hcb
        have HSS := Lib.hid (show (setTo size PN ts k).set C true = setTo size PN ts (k + 1) by
          rw [setTo, show ts.getD k [] = ts[k] by simp [List.getD, hlt], HC.out, Int.toNat_natCast])
        clear hx hvv hC
        obtain ⟨o9, c9, hv9, hcd9, hf9, hset9⟩ := ownSl_bool hw.out C (by rw [HSL.out]; omega)
        simp only [Value.slice.injEq, Option.some.injEq, Addr.mk.injEq] at hv9
        obtain ⟨⟨-, rfl, -⟩, -, rfl⟩ := hv9
        rw [Nat.zero_add] at hcd9 hf9
        have HS9 := Lib.hid (hset9 true)
        rw [Nat.zero_add, HSS.out] at HS9
        have HO9 := Lib.hid (ho.out.setCell (p := ⟨w.heap.size + 1 + 1, C, none⟩) (by simp) (.bool true))
        have hCl : (C : Int) < PN := by omega
        generalize (setTo size PN ts k)[C]'(by rw [HSL.out]; omega) = B9 at hcd9
        clear hset9
        go_wp2_with fail
        refine (indexOf_c size ts[k] _ _ HX.out hs.1 HVV.out (by rw [HLN.out, Int.toNat_natCast, HPN.out]; omega)).mono ?_
        rintro e w3 ⟨rfl, rfl⟩
        rw [HC.out]
        go_wp2_with fail
        go_roundw
        case rel => exact ⟨k + 1, by omega, by go_num, HO9.out, HS9.out⟩
        case measure => simp [intOf]; omega
      · obtain rfl : k = ts.length := by omega
        have hnl : ¬ ((ts.length : Int) < ts.length) := by omega
        have hTOT : ts.length ^ FA ≤ 256 ^ 3 := Nat.le_trans (Nat.pow_le_pow_left hcnt.2 FA) (Nat.pow_le_pow_right (by omega) (by omega))
        have HTOT := Lib.hid (show ((ts.length : Int)) ^ FA = ((ts.length ^ FA : Nat) : Int) by simp)
        have HKP := Lib.hid (show keepsP size ((FA : Int), ftb) ((AR : Int), ts) = (List.range (ts.length ^ FA)).all (fun i => keepAt size ((FA : Int), ftb) ((AR : Int), ts) i) by unfold keepsP; simp)
        have HSM := Lib.hid (fun (t : List Int) (hl : t.length = AR) (ht : Val size t) => setTo_mem hs.1 (ar := AR) HPN.out.symm (x := ts) (fun t h => by have := HVAL.out t h; rw [Int.toNat_natCast] at this; exact this) hl ht)
        have HLS := Lib.hid (setTo_len size PN ts ts.length)
        have hFA0 : 0 < FA := by omega
        have HZ := Lib.hid (show ts.length = 0 → ts.length ^ FA = 0 from fun h => by rw [h]; exact Nat.zero_pow hFA0)
        generalize hTT : ts.length ^ FA = TOT at *
        clear hTT
        have HOW := Lib.hid hw.out
        go_wp2_with fail
        refine (power_c ts.length FA _ (by omega) (by omega) (by omega) (by rw [Int.toNat_natCast, HTOT.out]; omega)).mono ?_
        rintro e w6 ⟨rfl, rfl, rfl⟩
        rw [Int.toNat_natCast, HTOT.out]
        obtain ⟨wA, rfl⟩ : ∃ x, x = wr := ⟨_, rfl⟩
        go_wp2_with fail
        go_loopw [48] (fun i wl => ∃ k : Nat, k ≤ TOT ∧ i = .int .i64 k ∧ Hid (Below wA.heap.size wA wl) ∧ Hid (∀ j, j < k → keepAt size ((FA : Int), ftb) ((AR : Int), ts) j = true)) (fun i _ => TOT - (intOf i).toNat)
        case atStart => exact ⟨0, Nat.zero_le _, rfl, Below.refl _ _, fun j hj => absurd hj (Nat.not_lt_zero _)⟩
        case round =>
          obtain ⟨k, hk2, rfl, hbl, hr⟩ := hrel
          have hst3 := hst2.step hbl.out
          have HOB := Lib.hid (ownSl_mono HOW.out hbl.out)
          have hszB := hbl.out.size
          have k0_0 := hst3.cellAt 0 rfl 0 rfl
          have k0_1 := hst3.cellAt 0 rfl 1 rfl
          have k1_0 := hst3.cellAt 1 rfl 0 rfl
          have k1_1 := hst3.cellAt 1 rfl 1 rfl
          by_cases hklt : k < TOT
          · have hkI : (k : Int) < TOT := by omega
            have hts0 : 0 < ts.length := by
              rcases Nat.eq_zero_or_pos ts.length with h | h
              · have := HZ.out h; omega
              · exact h
            have hstE := hst3.step (belowA wr (.cells #[] 104))
            have e00 := hstE.cellAt 0 rfl 0 rfl
            have e01 := hstE.cellAt 0 rfl 1 rfl
            have e10 := hstE.cellAt 1 rfl 0 rfl
            have e11 := hstE.cellAt 1 rfl 1 rfl
            go_wp2_with fail
            refine (listOf_c ts.length FA k _ (by omega) (by omega) (by omega) (by omega) (by omega) (by omega)).mono ?_
            rintro e w3 ⟨vv, rfl, fr, hb3⟩
            rw [Int.toNat_natCast] at fr
            obtain ⟨av, cv, rfl, _⟩ := rd_list fr.rd
            have hAL := digs_length ts.length FA k
            have HAM := Lib.hid (digs_mem ts.length (by omega) FA k)
            have HKA := Lib.hid (show keepAt size ((FA : Int), ftb) ((AR : Int), ts) k = hasT ts (makeT size ((FA : Int), ftb) (pickT ts (digs ts.length FA k)) AR) by unfold keepAt; simp)
            generalize hAT : digs ts.length FA k = AT at *
            clear hAT
            rw [hAL] at fr
            have HAL := Lib.hid hAL
            have hbb := (belowA wr (.cells #[] 104)).trans (hb3.mono (by simp))
            have hz3 : wr.heap.size + 1 ≤ w3.heap.size := by have := hb3.size; simpa using this
            have HB3 := Lib.hid hbb
            have HROW := Lib.hid (ownsRow_below (row_made (size := 1) wr 104) hb3)
            have HAI := Lib.hid (show Ip (fun z => wr.heap.size + 1 ≤ z ∧ z < w3.heap.size) w3 [.slice av FA cv] AT from fr.ip.wk (fun z hz => by simpa using hz))
            have HOB3 := Lib.hid (ownSl_mono HOB.out hbb)
            have hst4 := hst3.step hbb
            obtain ⟨bT, oT, vh, rfl, HVH⟩ := rd_hdrs HTR.out hts0
            have HVH := Lib.hid HVH
            obtain ⟨wo, rfl⟩ : ∃ x, x = wr := ⟨_, rfl⟩
            rw [hAL]
            clear fr hb3 hbb hAL hstE e00 e01 e10 e11 k0_0 k0_1 k1_0 k1_1
            have k0_0 := hst4.cellAt 0 rfl 0 rfl
            have k0_1 := hst4.cellAt 0 rfl 1 rfl
            have k1_0 := hst4.cellAt 1 rfl 0 rfl
            have k1_1 := hst4.cellAt 1 rfl 1 rfl
            go_wp2_with fail
            go_loopw [13, 58] (fun ll i wl => ∃ (q g' c' : Nat), q ≤ FA ∧ i = .int .i64 q ∧ ll = .slice (some ⟨g', 0, none⟩) q c' ∧ Hid (g' = wo.heap.size ∨ w3.heap.size ≤ g') ∧ Hid (ButP (fun z => z = wo.heap.size ∨ w3.heap.size ≤ z) w3 wl) ∧ Hid (wl.ownsRow 0 104 1 (.slice (some ⟨g', 0, none⟩) q c') q ((AT.take q).map (fun x => vh x.toNat)))) (fun _ i _ => FA - (intOf i).toNat)
            case atStart => exact ⟨0, wo.heap.size, 0, Nat.zero_le _, rfl, rfl, .inl rfl, ButP.refl _ _, by simpa [Hid] using HROW.out⟩
            case round =>
              clear HROW
              obtain ⟨q, g', c', hq, rfl, rfl, hg', hbp, hrow⟩ := hrel
              have hst5 := hst4.butP hbp.out (fun z hz => by omega) (fun x hx hz => by simp at hx; rcases hx with rfl | rfl <;> (simp only at hz; omega))
              have HAI5 := Lib.hid (Ip.butP HAI.out hbp.out (fun z hz hz2 => by omega))
              have hszC := hbp.out.size
              have k0_0 := hst5.cellAt 0 rfl 0 rfl
              have k0_1 := hst5.cellAt 0 rfl 1 rfl
              have k1_0 := hst5.cellAt 1 rfl 0 rfl
              have k1_1 := hst5.cellAt 1 rfl 1 rfl
              by_cases hqlt : q < FA
              · have hqI : (q : Int) < FA := by omega
                obtain ⟨ba, oa, rfl, qa, _⟩ := rd_int_at HAI5.out.rd q (by rw [HAL.out]; exact hqlt)
                have hA := HAM.out _ (List.getElem_mem (show q < AT.length by rw [HAL.out]; exact hqlt))
                obtain ⟨n, hn⟩ : ∃ n : Nat, AT[q]'(by rw [HAL.out]; exact hqlt) = (n : Int) := ⟨(AT[q]'(by rw [HAL.out]; exact hqlt)).toNat, by omega⟩
                rw [hn] at hA qa
                have hnl : n < ts.length := by omega
                have hnI : (n : Int) < ts.length := by omega
                obtain ⟨hcn, hrn⟩ := HVH.out n hnl
                have hcn2 := cellL hst5.bel hcn
                obtain ⟨ax, cx, hvx, _⟩ := rd_list hrn
                rw [hvx] at hcn2
                have HXS := Lib.hid (show (AT.take (q + 1)).map (fun x => vh x.toNat) = (AT.take q).map (fun x => vh x.toNat) ++ [.slice ax ts[n].length cx] by
                  rw [List.take_succ_eq_append_getElem (show q < AT.length by rw [HAL.out]; exact hqlt), List.map_append, hn]
                  simp [hvx])
                clear hcn hrn hvx hn
                go_wp2_with (at_builtin; refine wpList_append_row _ rfl _ _ _ rfl E_lists rfl (ownsRow_below hrow.out (belowA wr (.cells #[.slice ax ts[n].length cx] 104))) (v := .slice (some ⟨g', 0, none⟩) q c') (vs := [.slice ax ts[n].length cx]) rfl (fun u hu => by rw [List.mem_singleton] at hu; subst hu; rfl) ⟨wr.heap.size, 0, none⟩ 1 rfl (news1 (cell_at_block (heap_alloc_new _ _))) (by omega) ?_; intro g9 c9 w9 hg9 hrow9 hb9 hlt9)
                rw [← HXS.out] at hrow9
                have HR9 := Lib.hid hrow9
                have HG9 := Lib.hid (show g9 = wo.heap.size ∨ w3.heap.size ≤ g9 by
                  rcases hg9 with h | h
                  · simp only [Value.ownBlock, Option.some.injEq] at h
                    subst h; exact hg'.out
                  · simp at h; omega)
                have HB9 := Lib.hid ((hbp.out.trans (ButP.of (A := fun _ => False) (belowA wr (.cells #[.slice ax ts[n].length cx] 104))) (fun z h => h.elim)).trans (hb9.butP (A := fun z => z = g') (fun z hz => by simpa [Value.ownBlock] using hz)) (fun z hz => .inl (by subst hz; exact hg'.out)))
                clear hg9 hrow9 hb9 hlt9
                go_wp2_with fail
                go_roundw
                case rel => exact ⟨q + 1, g9, c9, by omega, by go_num, rfl, HG9.out, HB9.out, HR9.out⟩
                case measure => simp [intOf]; omega
              · obtain rfl : q = FA := by omega
                have hnq : ¬ ((q : Int) < q) := by omega
                have HPM := Lib.hid (pick_mem (x := ts) (l := AT) HAM.out)
                have HL := Lib.hid (show Rd wr [.slice (some ⟨g', 0, none⟩) q c'] (pickT ts AT) from rd_of_row1 hrow.out (by simp [pickT, HAL.out]) (fun i hi => by
                  have hi2 : i < AT.length := by simpa [pickT] using hi
                  have hA := HAM.out _ (List.getElem_mem hi2)
                  have hnl : (AT[i]).toNat < ts.length := by omega
                  refine ⟨vh (AT[i]).toNat, ?_, ?_⟩
                  · rw [List.take_of_length_le (by rw [HAL.out]; exact Nat.le_refl _)]; simp [hi2]
                  · rw [show (pickT ts AT)[i] = ts[(AT[i]).toNat] by simp [pickT, List.getD, hnl]]
                    exact Rd.mono (HVH.out _ hnl).2 hst5.bel))
                have HOB5 := Lib.hid (own_list (Own.butP (vs := [Value.slice (some ⟨w.heap.size + 1 + 1, 0, none⟩) PN PN]) ⟨_, rfl, HOB3.out⟩ hbp.out (fun z hz hz2 => by rw [List.mem_singleton] at hz; omega)))
                have HTV := Lib.hid (show ∀ t, t ∈ pickT ts AT → t.length = AR ∧ Val size t from fun t ht => by have := HVAL.out t (HPM.out t ht); rwa [Int.toNat_natCast] at this)
                have HPL := Lib.hid (show ((pickT ts AT).length : Int) = ((q : Int), ftb).1 by simp [pickT, HAL.out])
                go_wp2_with fail
                refine (made_c size ((q : Int), ftb) (pickT ts AT) AR _ _ _ _ (Rd.mono HF.out hst5.bel) HL.out HOK.out HPL.out HTV.out (by omega)).mono ?_
                rintro e w7 ⟨vo, rfl, fro, hbw7⟩
                have hz_w7 : wr.heap.size ≤ w7.heap.size := by have h9 := hbw7.size; (try simp at h9); omega
                have hs8 := hst5.step hbw7
                have HOB5_9 := Lib.hid (ownSl_mono HOB5.out hbw7)
                clear HOB5
                clear k0_0 k0_1 k1_0 k1_1
                have k0_0 := hs8.cellAt 0 rfl 0 rfl
                have k0_1 := hs8.cellAt 0 rfl 1 rfl
                have k1_0 := hs8.cellAt 1 rfl 0 rfl
                have k1_1 := hs8.cellAt 1 rfl 1 rfl
                have HMK := Lib.hid (make_val HOK.out HPL.out HTV.out)
                obtain ⟨ao, co, rfl, hmr⟩ := rd_list fro.rd
                have HFO := Lib.hid fro.rd
                clear fro
                generalize hMT : makeT size ((q : Int), ftb) (pickT ts AT) AR = MT at *
                clear hMT
                have hML := HMK.out.1
                obtain ⟨bo, oo, rfl, -, -⟩ := rd_int_at HFO.out 0 (by rw [hML]; omega)
                have hcb := codeL_bd hs.1 MT HMK.out.2.1
                rw [hML, HPN.out] at hcb
                obtain ⟨C, hC⟩ : ∃ C : Nat, codeL size MT = C := ⟨(codeL size MT).toNat, by omega⟩
                have HC := Lib.hid hC
                rw [hC] at hcb
                have HML := Lib.hid hML
                have hCl : C < (setTo size PN ts ts.length).length := by rw [HLS.out]; omega
                obtain ⟨o9, c9, hv9, hcd9, -, -⟩ := ownSl_bool HOB5_9.out C hCl
                simp only [Value.slice.injEq, Option.some.injEq, Addr.mk.injEq] at hv9
                obtain ⟨⟨-, rfl, -⟩, -, -⟩ := hv9
                rw [Nat.zero_add] at hcd9
                have HHT := Lib.hid (show (setTo size PN ts ts.length)[C] = hasT ts MT by
                  have h := HSM.out MT HML.out HMK.out.2.1
                  rw [HC.out, Int.toNat_natCast] at h
                  rw [← h]; simp [List.getD, hCl])
                rw [HHT.out] at hcd9
                have hCI : (C : Int) < PN := by omega
                clear hC hML hmr
                go_wp2_with fail
                refine (indexOf_c size MT _ _ HFO.out hs.1 HMK.out.2.1 (by rw [HML.out, HPN.out]; omega)).mono ?_
                rintro e w7 ⟨rfl, rfl⟩
                rw [HC.out]
                cases hh : hasT ts MT with
                | true =>
                  rw [hh] at hcd9
                  have HQ := Lib.hid (show keepAt size ((q : Int), ftb) ((AR : Int), ts) k = true by rw [HKA.out, hh])
                  have HBL := Lib.hid ((hbl.out.trans (HB3.out.mono hbl.out.size)).trans ((hbp.out.below (B := wo.heap.size) (fun z hz => by omega) (by omega)).mono hbl.out.size) |>.trans (hbw7.mono (by omega)))
                  clear hh
                  go_wp2_with fail
                  go_roundw
                  case rel =>
                    refine ⟨k + 1, by omega, by go_num, HBL.out, fun j hj => ?_⟩
                    rcases Nat.lt_or_ge j k with h | h
                    · exact hr.out j h
                    · obtain rfl : j = k := by omega
                      exact HQ.out
                  case measure => simp [intOf]; omega
                | false =>
                  rw [hh] at hcd9
                  have HQ := Lib.hid (show keepsP size ((q : Int), ftb) ((AR : Int), ts) = false by
                    rw [HKP.out, List.all_eq_false]
                    exact ⟨k, List.mem_range.2 hklt, by rw [HKA.out, hh]; decide⟩)
                  clear hh
                  go_wp2_with fail
                  refine bodyPost_ret (v := .tuple #[.slice (some ⟨g', 0, none⟩) q c', .slice (some ⟨bo, oo, none⟩) MT.length co]) (by simp [results, Try.results94, go_sem]) rfl ⟨_, some ⟨bo, oo, none⟩, MT.length, co, rfl, by rw [HQ.out]; rfl, fun h => by (cases h), hs8.bel⟩
          · obtain rfl : k = TOT := by omega
            have hnk : ¬ ((k : Int) < k) := by omega
            have HQ := Lib.hid (show keepsP size ((FA : Int), ftb) ((AR : Int), ts) = true by
              rw [HKP.out, List.all_eq_true]
              exact fun j hj => hr.out j (List.mem_range.1 hj))
            go_wp2_with fail
            refine bodyPost_ret (v := .tuple #[.slice none 0 0, .slice none 0 0]) (by simp [results, Try.results94, go_sem]) rfl ⟨_, none, 0, 0, rfl, by rw [HQ.out]; rfl, fun _ => ⟨rfl, rfl⟩, hst3.bel⟩
set_option maxRecDepth 100000 in
set_option maxHeartbeats 2000000 in
theorem keeps_c (size : Int) (f : OpT) (r : RelT) (f0 f1 r0 r1 : Value) (w : World) (hf : Rd w [f0, f1] f) (hr : Rd w [r0, r1] r) (hok : opOk size f = true) (hrk : relOk size r = true) :
    Calls Try.prog 62 #[.int .i64 size, .agg #[f0, f1], .agg #[r0, r1]] w fun e w' => e = .returned (.bool (keepsP size f r)) ∧ Below w.heap.size w w' := by
  obtain ⟨far, ftb⟩ := f
  obtain ⟨rar, ts⟩ := r
  have HF := Lib.hid hf
  have HR := Lib.hid hr
  have zf := rd_cons rfl hf
  obtain ⟨rfl, _⟩ := rd_i1 zf.1
  obtain ⟨af, cf, rfl, _⟩ := rd_list zf.2
  have zr := rd_cons rfl hr
  obtain ⟨rfl, _⟩ := rd_i1 zr.1
  obtain ⟨a, c, rfl, _⟩ := rd_list zr.2
  clear hf hr zf zr
  have hs10 := (St.start w).alloc #[.int .i64 far, .slice af ftb.length cf] 107 (n := w.heap.size) (by simp)
  have k0_0 := hs10.cellAt 0 rfl 0 rfl
  have k0_1 := hs10.cellAt 0 rfl 1 rfl
  have hs11 := hs10.alloc #[.int .i64 rar, .slice a ts.length c] 31 (n := w.heap.size + 1) (by simp)
  clear k0_0 k0_1
  have k0_0 := hs11.cellAt 0 rfl 0 rfl
  have k0_1 := hs11.cellAt 0 rfl 1 rfl
  have k1_0 := hs11.cellAt 1 rfl 0 rfl
  have k1_1 := hs11.cellAt 1 rfl 1 rfl
  go_enter Try.func62, Try.ntmps62
  go_wp2_with fail
  refine (broken_c size (far, ftb) (rar, ts) _ _ _ _ _ (Rd.mono HF.out hs11.bel) (Rd.mono HR.out hs11.bel) hok hrk).mono ?_
  rintro e w1 ⟨vl, ao, n, k, rfl, hiso, hnil, hb1⟩
  have HI := Lib.hid hiso
  have HB := Lib.hid (hs11.bel.trans (hb1.mono hs11.bel.size))
  clear hiso hb1
  cases ao with
  | none =>
    obtain ⟨rfl, rfl⟩ := hnil rfl
    have hnl : ∀ W, (binOp .eql 104 (.slice none 0 0) (.slice none 0 0)).run Try.prog W = .ok (.bool true) W := fun W => Lib.run_eql_slice_nil_nil W _ _ Try.underlying104
    go_wp2_with fail
    go_ret
    exact ⟨ret_bool (by rw [← HI.out]; rfl), HB.out⟩
  | some ad =>
    have hnl : ∀ W, (binOp .eql 104 (.slice (some ad) n k) (.slice none 0 0)).run Try.prog W = .ok (.bool false) W := fun W => Lib.run_eql_slice_some_nil W _ _ _ Try.underlying104
    go_wp2_with fail
    go_ret
    exact ⟨ret_bool (by rw [← HI.out]; rfl), HB.out⟩

end Go.Proofs.Ytoblfnoaepbhfaa
