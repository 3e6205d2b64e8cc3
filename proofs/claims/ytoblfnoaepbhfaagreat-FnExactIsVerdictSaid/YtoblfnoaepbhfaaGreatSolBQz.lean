import Derived.Test.YtoblfnoaepbhfaaGreatSysBQz
import Derived.Test.YtoblfnoaepbhfaaGreatReducedQz
import Derived.Test.YtoblfnoaepbhfaaGreatRowBQz
import Derived.Test.YtoblfnoaepbhfaaGreatReduceSQz
import Derived.Test.YtoblfnoaepbhfaaGreatRowsBQz
import Derived.Test.YtoblfnoaepbhfaaGreatKindsQz
import Derived.Test.YtoblfnoaepbhfaaGreatBaseQz
set_option linter.unusedSimpArgs false
set_option linter.unusedVariables false
set_option maxHeartbeats 8000000
set_option maxRecDepth 100000
namespace Go.Proofs.YtoblfnoaepbhfaaGreat
open Go.Proofs.Tryz
open Go.RowKit Go.Shelf Go.IntWalk
open Rep (Rd Own sz)
theorem Yn {s : Sys} (K : su s) (j : Nat) (hj : j < (aT s).1.length) (h : j < (oU s).1.length) : (oU s).1[j] = flat (aT s).1[j] := by
 have : (oU s).1[j]? = some (flat (aT s).1[j]) := by
  rw [K.flat]
  simp only [List.getElem?_map, List.getElem?_eq_getElem hj, Option.map_some]
 rw [List.getElem?_eq_getElem h] at this
 simpa using this
def WW (r : dF) : nG := (r.1, r.2.1)
def sU (rows : List dF) (j : Nat) : List nG := (rows.take j).map WW
theorem IK (rows : List dF) (j : Nat) (h : j < rows.length) : sU rows (j + 1) = sU rows j ++ [WW rows[j]] := by
 unfold sU; rw [List.take_succ_eq_append_getElem h, List.map_append]; rfl
theorem tY (rows : List dF) (j : Nat) (h : j ≤ rows.length) : (sU rows j).length = j := by simp [sU]; omega
theorem adW {α : Type} [Rep α] {w : World} {a : Option Addr} {n c : Nat} {l : List α} (h : Rd w [.slice a n c] l) (m : Nat) (hm : m ≤ l.length) : Rd w [.slice a m c] (l.take m) := by
 obtain ⟨a', c', e, hr⟩ := ah h
 simp only [Value.slice.injEq] at e
 obtain ⟨rfl, -, rfl⟩ := e
 have := Wq (Lp hr m)
 rw [List.length_take, Nat.min_eq_left hm] at this
 exact this
theorem zT {s : Sys} (h : ¬ 0 ≤ oH s) : fO s = (s.1, s.2.1, sU (aT s).1 (aT s).2.length) := by
 unfold fO; rw [if_neg h]; rfl
theorem yI {s : Sys} (h : 0 ≤ oH s) : fO s = (s.1, s.2.1, [(List.replicate s.2.1.toNat 0, 1)]) := by
 unfold fO; rw [if_pos h]
theorem aae {w : World} {g c : Nat} {e : TypeId} {v : Value} {n : Int} {l : List Int} {ps : List Nat} (hb : w.heap[g]? = some (.cells #[v, .int .i64 n] e (0, 0))) (ho : bY ps w v l) (hn : I64 n) (hc : 1 ≤ c) (hm : c ≤ maxLen) :
 bY (g :: ps) w (.slice (some ⟨g, 0, none⟩) 1 c) [((l, n) : nG)] := by
 refine .inr ⟨g, 0, c, _, e, [ps], rfl, hc, hm, hb, by simp, rfl, fun i hi => ?_⟩
 obtain rfl : i = 0 := by simp at hi; omega
 refine ⟨ps, [v, .int .i64 n], rfl, by have h := lS (q := []) (x := l) (y := n) (w := w) (p := ps) ⟨v, rfl, ho⟩ ⟨rfl, rfl, hn⟩; rw [List.append_nil] at h; exact h, fun k hk => ?_⟩
 match k, hk with
 | 0, _ => simp
 | 1, _ => simp
theorem Es (x : Sys) (v0 v1 v2 : Value) (w : World) (hx : Rd w [v0, v1, v2] x) (hok : yY x = true) :
 Calls prog 275 #[.agg #[v0, v1, v2]] w fun e w' => ∃ a n c, e = .returned (.agg #[.int .i64 x.1, .int .i64 x.2.1, .slice a n c]) ∧ aQ w.heap.size w' [.int .i64 x.1, .int .i64 x.2.1, .slice a n c] (fO x) ∧ Below w.heap.size w w' := by
 obtain ⟨p, u, l⟩ := x
 have HX := qH hx
 have z := au rfl hx
 obtain ⟨rfl, hIp⟩ := aG z.1
 have z2 := au rfl z.2
 obtain ⟨rfl, hIu⟩ := aG z2.1
 obtain ⟨a, c, rfl, _⟩ := ah z2.2
 have HK := qH hok
 have KO := qH (zQ hok)
 clear hx z z2 hok
 have hu2 := KO.out.hu
 simp only at hu2
 obtain ⟨U, hU⟩ : ∃ U : Nat, u = U := ⟨u.toNat, by omega⟩
 subst hU
 have hs1 := (((St.start w).alloc #[.int .i64 p, .int .i64 U, .slice a l.length c] 61 rfl).alloc #[.int .i64 0, .int .i64 0, .slice none 0 0] 61 (n := w.heap.size + 1) (by simp)).alloc #[.int .i64 p, .int .i64 U, .slice none 0 0] 61 (n := w.heap.size + 1 + 1) (by simp)
 obtain ⟨k0, k1, k2⟩ := hs1.c3 0 0 0 1 0 2
 go_enter func275, ntmps275
 go_wp2_with fail
 refine (Yk (p, (U : Int), l) _ _ _ _ (Rd.mono HX.out hs1.bel) HK.out).mono ?_
 rintro e w2 ⟨vr, vb, rfl, frr, frb, hb2⟩
 have rr := frr.rd
 have rb := frb.rd
 have hfl := KO.out.flat
 obtain ⟨ar, cr, er, _⟩ := ah rr
 rw [show (oU (p, (U : Int), l)).1.length = l.length from KO.out.iO.1] at er
 subst er
 obtain ⟨ab, cb, eb, _⟩ := ah rb
 rw [show (oU (p, (U : Int), l)).2.length = (aT (p, (U : Int), l)).2.length by rw [hfl]] at eb
 subst eb
 have RR := qH rr
 have RB := qH (show Rd w2 [.slice ab (aT (p, (U : Int), l)).2.length cb] (aT (p, (U : Int), l)).2 by
  have h2 : (oU (p, (U : Int), l)).2 = (aT (p, (U : Int), l)).2 := by rw [hfl]
  rw [← h2]; exact (by rw [h2]; rw [h2] at rb; exact rb))
 clear hfl
 have hs2 := hs1.step hb2
 have JR := qH (aQ.iv (frr.lower (lo' := w.heap.size + 1 + 1 + 1) (by simp)))
 clear rr rb frr frb
 clear k0 k1 k2
 obtain ⟨k0, k1, k2⟩ := hs2.c3 0 0 0 1 0 2
 go_wp2_with fail
 refine (FZ _ _ _ RR.out KO.out.ali).mono ?_
 rintro e w3 ⟨o0, n0, d0, o1, n1, d1, rfl, hb3, hat⟩
 have HAT := qH hat
 rw [ag4 KO.out]
 have hs3 := hs2.step hb3
 clear hat
 clear k0 k1 k2
 have hs5 := hs3.alloc #[.slice o0 n0 d0, .slice o1 n1 d1] 223 rfl
 obtain ⟨k0, k1, k2⟩ := hs5.c3 0 0 0 1 0 2
 by_cases hf : 0 ≤ oH (p, (U : Int), l)
 · rw [decide_eq_true hf]
   have HF := qH hf
   have hlo : w.heap.size + 1 + 1 + 1 ≤ w3.heap.size := by have := hs3.hi; simpa using this
   clear hf
   go_wp2_with (at_make; refine bV _ rfl _ _ 28 rfl eH (0 : Int) iL U (by omega) rfl rfl ?_; intro wM jF uM hzM; (have hzz : wM.heap.size = w3.heap.size + 1 + 1 := by simpa using hzM); have hs6 := hs5.step uM; have hs7 := hs6.alloc #[.slice (some ⟨w3.heap.size + 1, 0, none⟩) U U, .int .i64 1] 200 (n := w3.heap.size + 1 + 1) hzz.symm; have f2 := hs7.aC 2 rfl 2; have t2 := hs7.c 2 2; have hs8 := hs7.set (p := [_, _]) (by simp <;> omega) 2 (.slice (some ⟨w3.heap.size + 1 + 1, 0, none⟩) 1 1); have t20 := hs8.c 2 0; have t21 := hs8.c 2 1; have t22 := hs8.c 2 2; have g0 := hs8.aC 1 rfl 0; have g1 := hs8.aC 1 rfl 1; have g2 := hs8.aC 1 rfl 2; have y0 := hs8.c 1 0; have y1 := hs8.c 1 1; have y2 := hs8.c 1 2)
   have hs9 := ((hs8.set (p := [_]) (by simp <;> omega) 0 (.int .i64 p)).set (p := [_]) (by simp <;> omega) 1 (.int .i64 U)).set (p := [_]) (by simp <;> omega) 2 (.slice (some ⟨w3.heap.size + 1 + 1, 0, none⟩) 1 1)
   obtain ⟨x0, x1, x2⟩ := hs9.c3 1 0 1 1 1 2
   refine bodyPost_ret (v := .agg #[.int .i64 p, .int .i64 U, .slice (some ⟨w3.heap.size + 1 + 1, 0, none⟩) 1 1]) (by simp [results, results275, go_sem, x0, x1, x2]) rfl ⟨_, _, _, rfl, ?_, hs9.bel⟩
   rw [yI HF.out]
   have ahi : bY [w3.heap.size + 1] wM (.slice (some ⟨w3.heap.size + 1, 0, none⟩) U U) (List.replicate U (0 : Int)) := by simpa using jF
   have h7 := aae (c := 1) (n := 1) (iV wM (.cells #[.slice (some ⟨w3.heap.size + 1, 0, none⟩) U U, .int .i64 1] 200) hzz) (bK ahi (aB wM _)) ⟨by decide, by decide⟩ (Nat.le_refl _) (by decide)
   have ho := ((((aP.refl [w.heap.size + 1, w.heap.size + 1 + 1] (wM.alloc (.cells #[.slice (some ⟨w3.heap.size + 1, 0, none⟩) U U, .int .i64 1] 200))).setCell (p := ⟨w.heap.size + 1 + 1, 2, none⟩) (by simp) (.slice (some ⟨w3.heap.size + 1 + 1, 0, none⟩) 1 1)).setCell (p := ⟨w.heap.size + 1, 0, none⟩) (by simp) (.int .i64 p)).setCell (p := ⟨w.heap.size + 1, 1, none⟩) (by simp) (.int .i64 U)).setCell (p := ⟨w.heap.size + 1, 2, none⟩) (by simp) (.slice (some ⟨w3.heap.size + 1 + 1, 0, none⟩) 1 1)
   exact ⟨_, lS (p := []) ⟨rfl, rfl, hIp⟩ (lS (p := []) ⟨rfl, rfl, hIu⟩ ⟨_, rfl, dZ h7 ho (by simp; omega)⟩), by simp, by simp; omega⟩
 rw [decide_eq_false hf]
 have HF := qH hf
 have Dn := qH (zT hf)
 have hlo : w.heap.size + 1 + 1 + 1 ≤ w3.heap.size := by have := hs3.hi; simpa using this
 have hb4 := qH (hb3.trans ((aB w3 (.cells #[.slice o0 n0 d0, .slice o1 n1 d1] 223)).mono hb3.size))
 have RR2 := qH (Rd.mono RR.out hb4.out)
 have JR2 := qH (Iv.mono JR.out hb4.out)
 have hz2 : w2.heap.size ≤ w3.heap.size := hb3.size
 have hszA : (w3.alloc (.cells #[.slice o0 n0 d0, .slice o1 n1 d1] 223)).heap.size = w3.heap.size + 1 := by simp
 have HKO := KO
 have hle := KO.out.le
 have hll := KO.out.hl
 have hp2 := KO.out.hp
 simp only at hle hll hp2
 have hs6 := qH (St.sub (bx' := [(w.heap.size, #[.int .i64 p, .int .i64 U, .slice a l.length c], 61), (w.heap.size + 1, #[.int .i64 0, .int .i64 0, .slice none 0 0], 61), (w.heap.size + 1 + 1, #[.int .i64 p, .int .i64 U, .slice none 0 0], 61)]) hs5 (fun x hx => by simp at hx ⊢; rcases hx with rfl | rfl | rfl <;> simp))
 obtain ⟨_, _, e6, hrr⟩ := ah RR2.out
 rw [show (oU (p, (U : Int), l)).1.length = l.length from HKO.out.iO.1] at e6
 simp only [Value.slice.injEq] at e6
 obtain ⟨rfl, -, rfl⟩ := e6
 have hcr : (aT (p, (U : Int), l)).2.length ≤ cr := by have := (aN hrr).1; rw [show (oU (p, (U : Int), l)).1.length = l.length from HKO.out.iO.1] at this; omega
 have hcr2 : ((aT (p, (U : Int), l)).2.length : Int) ≤ cr := by omega
 clear hf JR HAT hs1 hs2 hs3 hs5 hb2 hb3 hb4 k0 k1 k2 HX KO RR RB hrr
 go_wp2_with fail
 generalize w3.alloc (.cells #[.slice o0 n0 d0, .slice o1 n1 d1] 223) = WA at *
 go_loopw [38] (fun i wl => ∃ (j : Nat) (va : Option Addr) (vc : Nat), j ≤ (aT (p, (U : Int), l)).2.length ∧ i = .int .i64 j ∧ Hid (St w (w3.heap.size + 1) wl [(w.heap.size, #[.int .i64 p, .int .i64 U, .slice a l.length c], 61), (w.heap.size + 1, #[.int .i64 0, .int .i64 0, .slice none 0 0], 61), (w.heap.size + 1 + 1, #[.int .i64 p, .int .i64 U, .slice va j vc], 61)]) ∧ Hid (Acc (w3.heap.size + 1) wl.heap.size 200 wl (.slice va j vc) (sU (aT (p, (U : Int), l)).1 j)) ∧ Hid (Iv (w.heap.size + 1 + 1 + 1) w2.heap.size wl [.slice ar l.length cr] (oU (p, (U : Int), l)).1)) (fun i _ => (aT (p, (U : Int), l)).2.length - (intOf i).toNat)
 case atStart => exact ⟨0, none, 0, Nat.zero_le _, rfl, hs6.out, Acc.nil _ _ _ _, JR2.out⟩
 obtain ⟨j, va, vc, hj, rfl, hst, hac, hbl⟩ := hrel
 have aw2 := hst.out.hi
 by_cases hlt : j < (aT (p, (U : Int), l)).2.length
 rotate_left
 · obtain rfl : j = (aT (p, (U : Int), l)).2.length := by omega
   have hs7 := hst.out
   obtain ⟨t20, t21, t22⟩ := hs7.c3 2 0 2 1 2 2
   have g0 := hs7.aC 1 rfl 0
   have g1 := hs7.aC 1 rfl 1
   have g2 := hs7.aC 1 rfl 2
   obtain ⟨y0, y1, y2⟩ := hs7.c3 1 0 1 1 1 2
   have hs9 := ((hs7.set (p := [_]) (by simp <;> omega) 0 (.int .i64 p)).set (p := [_]) (by simp <;> omega) 1 (.int .i64 U)).set (p := [_]) (by simp <;> omega) 2 (.slice va (aT (p, (U : Int), l)).2.length vc)
   obtain ⟨x0, x1, x2⟩ := hs9.c3 1 0 1 1 1 2
   go_wp2_with fail
   refine bodyPost_ret (v := .agg #[.int .i64 p, .int .i64 U, .slice va (aT (p, (U : Int), l)).2.length vc]) (by simp [results, results275, go_sem, x0, x1, x2]) rfl ⟨_, _, _, rfl, ?_, hs9.bel⟩
   rw [Dn.out]
   obtain ⟨ps, ho, hn, hk⟩ := hac.out.zB
   have hoo := (((aP.refl [w.heap.size + 1] wr).setCell (p := ⟨w.heap.size + 1, 0, none⟩) (by simp) (.int .i64 p)).setCell (p := ⟨w.heap.size + 1, 1, none⟩) (by simp) (.int .i64 U)).setCell (p := ⟨w.heap.size + 1, 2, none⟩) (by simp) (.slice va (aT (p, (U : Int), l)).2.length vc)
   exact ⟨[] ++ ([] ++ ps), lS (p := []) ⟨rfl, rfl, hIp⟩ (lS (p := []) ⟨rfl, rfl, hIu⟩ ⟨_, rfl, dZ ho hoo (fun k h1 h2 => by have := (hk k h1).1; simp at h2; omega)⟩), by simpa using hn, fun k h1 => by have := (hk k (by simpa using h1)).1; omega⟩
 have hjr : j < (aT (p, (U : Int), l)).1.length := by rw [HKO.out.len]; simp only; omega
 have hjI : j < (oU (p, (U : Int), l)).1.length := by rw [HKO.out.iO.1]; simp only; omega
 have hRT := qH (Iv.rd hbl.out)
 obtain ⟨b2, e2, y0, y1, rfl, f0, f1, hrow⟩ := dL rfl hRT.out j hjI
 rw [Yn HKO.out j hjr hjI] at hrow
 have hgd := HKO.out.good _ (List.getElem_mem hjr)
 have hgr := hgd.right
 have hg := Au hgd
 have hrr : zK (flat (aT (p, (U : Int), l)).1[j]).1 = (aT (p, (U : Int), l)).1[j].2.1 := by simp [zK, flat, List.getD]
 have hst2 := IK (aT (p, (U : Int), l)).1 j hjr
 have hlj := tY (aT (p, (U : Int), l)).1 j (by omega)
 have hlen := hgd.len
 have htk : (flat (aT (p, (U : Int), l)).1[j]).1.take U = (aT (p, (U : Int), l)).1[j].1 := by
  simp only [Int.toNat_natCast] at hlen
  unfold flat
  rw [List.take_append_of_le_length (by omega), List.take_of_length_le (by omega)]
 simp only [Int.toNat_natCast] at hg hlen
 have z0 := (au rfl hrow).1
 have z1 := (au rfl hrow).2
 obtain ⟨a6, c6, e6, hr6⟩ := ah z0
 have hcap : U + 1 ≤ c6 := by have := (aN hr6).1; rw [hg.1] at this; exact this
 rw [hg.1] at e6
 obtain ⟨a7, c7, e7, _⟩ := ah z1
 rw [hg.2.1] at e7
 subst e6 e7
 have hl1 := adW z0 U (by rw [hg.1]; omega)
 rw [htk] at hl1
 have HL := qH hl1
 have HRW := qH hrow
 have HST := qH hst2
 have HG := qH hg
 have HRR := qH hrr
 have HLJ := qH hlj
 have HLEN := qH hlen
 clear hrow hst2 hg hrr z0 z1 hr6 hl1 htk hlj hlen hgd
 have heq : WW (aT (p, (U : Int), l)).1[j] = ((aT (p, (U : Int), l)).1[j].1, (aT (p, (U : Int), l)).1[j].2.1) := rfl
 rw [heq] at HST
 clear heq
 generalize flat (aT (p, (U : Int), l)).1[j] = Y at *
 generalize (aT (p, (U : Int), l)).1[j].2.1 = RV at *
 generalize (aT (p, (U : Int), l)).1[j].1 = Y1 at *
 simp only at hgr
 have hjb : (j : Int) < (aT (p, (U : Int), l)).2.length := by omega
 have hjl : (j : Int) < l.length := by omega
 have hcap2 : (U : Int) ≤ c6 := by omega
 have hIR : I64 RV := ⟨by omega, by omega⟩
 have hq := hst.out.alloc #[.slice a6 (U + 1) c6, .slice a7 l.length c7] 223 rfl
 have hqd := hq.drew
 go_wp2_with fail
 refine BG (fun w' => cV w' (w.heap.size + 1 + 1) 2 (.slice va j vc) ∧ cV w' wr.heap.size 0 (.slice a6 (U + 1) c6) ∧ cV w' wr.heap.size 1 (.slice a7 l.length c7) ∧ cI w' w.heap.size 1 U) [(0, 0), (1, 0), (2, 0), (3, 0), (4, 0), (5, 0), (6, 0), (8, 0), (7, 1), (9, 1), (10, 0), (11, 1), (12, 1), (13, 0), (14, 2)] ?_ ?_
 · exact hqd.c4 2 2 3 0 3 1 0 1
 refine nH ?_
 refine wU fun K hK => ?_
 go_wp2_with (go_at_call 121; refine (jm Y1 _ _ (Rd.mono HL.out ((aB wr _).trans (belowD _ |>.mono (by simp)))) (by rw [HLEN.out]; omega)).mono ?_; rintro e w4 ⟨b4, rfl, Iz, hb4⟩)
 have hq4 := hqd.step hb4
 obtain ⟨m4, n4, rfl, _⟩ := Iz.len
 have HA4 := qH Iz
 clear Iz
 refine ⟨(hq4.c4 2 2 3 0 3 1 0 1), ?_⟩
 refine nH ?_
 refine wU fun K hK => ?_
 have aqE := qH (Rd.mono HRW.out (((aB wr (.cells #[.slice a6 (U + 1) c6, .slice a7 l.length c7] 223)).trans (belowD _ |>.mono (by simp))).trans (hb4.mono (by simp))))
 go_wp2_with (go_at_call 161; refine (N8 Y _ _ _ aqE.out (by rw [HG.out.1]; omega) (by rw [HG.out.1]; omega)).mono ?_; rintro e w5 ⟨rfl, hb5⟩)
 rw [HRR.out]
 have hq5 := hq4.step hb5
 have aw4 := hb5.size
 refine ⟨(hq5.c4 2 2 3 0 3 1 0 1), ?_⟩
 refine nH ?_
 refine wU fun K hK => ?_
 go_wp2_with fail
 have BQ := aB w5 (.cells #[.slice m4 Y1.length n4, .int .i64 RV] 200)
 have hq6 := hq5.step BQ
 refine ⟨(hq6.c4 2 2 3 0 3 1 0 1), ?_⟩
 refine nH ?_
 refine wU fun K hK => ?_
 obtain ⟨ps5, ho5, hn5, hk5⟩ := ((HA4.out.mono hb5).mono BQ).zB
 have IY : aQ wr.heap.size (w5.alloc (.cells #[.slice m4 Y1.length n4, .int .i64 RV] 200)) [.slice m4 Y1.length n4, .int .i64 RV] ((Y1, RV) : nG) :=
  ⟨ps5 ++ [], lS ⟨_, rfl, ho5⟩ ⟨rfl, rfl, hIR⟩, by simpa using hn5, fun k hk => by have h := (hk5 k (by simpa using hk)).1; simp at h; omega⟩
 have hbr : Below wr.heap.size wr (w5.alloc (.cells #[.slice m4 Y1.length n4, .int .i64 RV] 200)) := ((((aB wr (.cells #[.slice a6 (U + 1) c6, .slice a7 l.length c7] 223)).trans (belowD _ |>.mono (by simp))).trans (hb4.mono (by simp))).trans (hb5.mono (by have := hb4.size; simp at this; omega))).trans (BQ.mono (by have := hb4.size; simp at this; omega))
 have hzw := hbr.size
 refine iq _ _ _ _ rfl BA rfl (hac.out.mono hbr) IY (by omega) hzw ⟨w5.heap.size, 0, none⟩ 1 rfl (fun z u hz => by
  match z with
  | 0 => simp at hz; subst hz; exact aA (heap_alloc_new w5 _)
  | 1 => simp at hz; subst hz; exact aA (heap_alloc_new w5 _)
  | z + 2 => simp at hz) (by rw [HLJ.out]; omega) ?_
 intro a8 c8 w8 F6 JZ hK8
 rw [HLJ.out] at F6 ⊢
 rw [← HST.out] at F6
 have hkk := hK8 wr.heap.size (Nat.le_refl _) (by have := hb4.size; simp at this; simp; omega)
 have hq7 := ((hst.out.step hbr).qA JZ)
 refine hK _ _ ⟨⟨hq7.c 2 2, uw (hq6.c 3 0) hkk, uw (hq6.c 3 1) hkk, hq7.c 0 1⟩, ?_⟩
 have r2 := hq7.c 2 2
 have r3 := hq7.aC 2 rfl 2
 have aqF := qH ((Iv.mono hbl.out hbr).frame (fun k h1 h2 => JZ.block k (by omega)))
 have Et := qH (show Acc (w3.heap.size + 1) (w8.setCell ⟨w.heap.size + 1 + 1, 2, none⟩ (.slice a8 (j + 1) c8)).heap.size 200 (w8.setCell ⟨w.heap.size + 1 + 1, 2, none⟩ (.slice a8 (j + 1) c8)) (.slice a8 (j + 1) c8) (sU (aT (p, (U : Int), l)).1 (j + 1)) from by
  have e : (w8.setCell ⟨w.heap.size + 1 + 1, 2, none⟩ (.slice a8 (j + 1) c8)).heap.size = w8.heap.size := by simp [World.setCell]
  rw [e]; exact F6.setCell (by simp <;> omega) _)
 have HQ8 := qH (hq7.set (p := [_, _]) (by simp <;> omega) 2 (.slice a8 (j + 1) c8))
 clear F6 ho5 hn5 hk5 IY
 refine nH ?_
 refine XU fun K hK => ?_
 go_wp2_with fail
 refine elN ?_
 go_wp2_with fail
 go_roundw
 case rel => exact ⟨j + 1, a8, c8, hlt, by go_num, HQ8.out, Et.out, Iv.uy aqF.out (.inl (by simp <;> omega)) _⟩
 simp [intOf]; omega
theorem Uh {lo : Nat} {w : World} {g n c : Nat} {R : List dF} (h : aQ lo w [.slice (some ⟨g, 0, none⟩) n c] R) :
 ∃ rss : List (List Nat), rss.length = R.length ∧ (List.flatten rss).Nodup ∧ (∀ k, k ∈ List.flatten rss → lo ≤ k ∧ k < w.heap.size) ∧
  ∀ i (hi : i < R.length), ∃ p p1 v0 v2, rss[i]? = some p ∧ (∀ k, k ∈ p1 → k ∈ p) ∧ p1.Nodup ∧ Own p1 w [v0] R[i].1 ∧ I64 R[i].2.1 ∧ w.cell? ⟨g, i * 3, none⟩ = some v0 ∧ w.cell? ⟨g, i * 3 + 1, none⟩ = some (.int .i64 R[i].2.1) ∧ w.cell? ⟨g, i * 3 + 2, none⟩ = some v2 := by
 obtain ⟨ps, ⟨v, e, ho⟩, hnd, hlo⟩ := h
 obtain rfl : .slice (some ⟨g, 0, none⟩) n c = v := by simpa using e
 have hlt := Rep.jK (α := List dF) (ps := ps) (w := w) (vs := [.slice (some ⟨g, 0, none⟩) n c]) (x := R) ⟨_, rfl, ho⟩
 rcases ho with ⟨rfl, rfl, _⟩ | ⟨g', o', c', cur, e', cZ, hv, _, _, hh, rfl, h5, h6⟩
 · exact ⟨[], rfl, by simp, by simp, fun i hi => absurd hi (Nat.not_lt_zero _)⟩
 simp only [Value.slice.injEq, Option.some.injEq, Addr.mk.injEq, and_true] at hv
 obtain ⟨⟨rfl, rfl⟩, rfl, rfl⟩ := hv
 refine ⟨cZ, h5, (List.nodup_cons.1 hnd).2, fun k hk => ⟨hlo k (List.mem_cons_of_mem _ hk), hlt k (List.mem_cons_of_mem _ hk)⟩, fun i hi => ?_⟩
 obtain ⟨p, vs, hp, hO, hc⟩ := h6 i hi
 have hl := Rep.dI (Rep.bP hO)
 match vs, hl with
 | [v0, v1, v2], _ =>
  obtain ⟨p1, q1, rfl, ho1, ho2⟩ := pK rfl hO
  obtain ⟨p2, q2, rfl, ho3, _⟩ := pK rfl ho2
  obtain ⟨_, e1, hI⟩ := ho3
  obtain rfl : v1 = .int .i64 R[i].2.1 := by simpa using e1
  have hpn : (p1 ++ (p2 ++ q2)).Nodup := by
   have h7 := (List.nodup_cons.1 hnd).2
   exact (List.pairwise_flatten.1 h7).1 _ (List.mem_of_getElem? hp)
  refine ⟨_, p1, v0, v2, hp, fun k hk => by simp [hk], (List.nodup_append.1 hpn).1, ho1, hI, ?_, ?_, ?_⟩
  · rw [aA hh]; have := hc 0 (by simp); simpa using this
  · rw [aA hh]; have := hc 1 (by simp); simpa using this
  rw [aA hh]; have := hc 2 (by simp); simpa using this
theorem Ui {rss cZ : List (List Nat)} (h : (List.flatten rss).Nodup) (hs : ∀ (i : Nat) p, cZ[i]? = some p → p.Nodup ∧ ∃ q, rss[i]? = some q ∧ ∀ k, k ∈ p → k ∈ q) : (List.flatten cZ).Nodup := by
 refine Bg (fun k p hp => (hs k p hp).1) (fun a b p q hab hp hq k hk hkq => ?_)
 obtain ⟨_, p', hp', hs1⟩ := hs a p hp
 obtain ⟨_, q', hq', hs2⟩ := hs b q hq
 have h2 := (List.pairwise_flatten.1 h).2
 rw [List.pairwise_iff_getElem] at h2
 obtain ⟨ha, ea⟩ := List.getElem?_eq_some_iff.1 hp'
 obtain ⟨hb, eb⟩ := List.getElem?_eq_some_iff.1 hq'
 rcases Nat.lt_or_gt_of_ne hab with h3 | h3
 · exact h2 a b ha hb h3 k (by rw [ea]; exact hs1 k hk) k (by rw [eb]; exact hs2 k hkq) rfl
 exact h2 b a hb ha h3 k (by rw [eb]; exact hs2 k hkq) k (by rw [ea]; exact hs1 k hk) rfl
theorem Fe {α : Type} [Rep α] {A : Nat → Prop} {e : TypeId} {w : World} {v : Value} {l : List α} {xs : List Value} {cZ : List (List Nat)} (h : w.ownsRow 0 e (sz α) v l.length xs) (hp : cZ.length = l.length)
 (hel : ∀ i (hi : i < l.length), ∃ p vs, cZ[i]? = some p ∧ Own p w vs l[i] ∧ ∀ k, k < vs.length → xs[i * sz α + k]? = vs[k]?) (hn : (v.ownBlock.toList ++ List.flatten cZ).Nodup) (hA : ∀ k, k ∈ v.ownBlock.toList ++ List.flatten cZ → A k) : bM A e w v l := by
 have ho : Own (v.ownBlock.toList ++ List.flatten cZ) w [v] l := ⟨_, rfl, yE h hp hel⟩
 exact ⟨xs, cZ, h, hp, hn, fun k hk => ⟨hA k hk, Rep.jK ho k hk⟩, hel⟩
theorem Kw (x : Sys) (sb : Nat) (v0 v1 v2 : Value) (w : World) (hx : Rd w [v0, v1, v2] x) (c0 : w.cell? ⟨sb, 0, none⟩ = some v0) (c1 : w.cell? ⟨sb, 1, none⟩ = some v1) (c2 : w.cell? ⟨sb, 2, none⟩ = some v2) (hok : jo x = true) :
 Calls prog 264 #[.pointer (some ⟨sb, 0, none⟩)] w fun e w' => ∃ a n c, e = .returned (.agg #[.int .i64 x.1, .int .i64 x.2.1, .slice a n c]) ∧ bM (fun z => w.heap.size ≤ z) 200 w' (.slice a n c) (fO x).2.2 ∧ n = (fO x).2.2.length ∧ Below w.heap.size w w' := by
 obtain ⟨p, u, l⟩ := x
 have HX := qH hx
 have z := au rfl hx
 obtain ⟨rfl, hIp⟩ := aG z.1
 have z2 := au rfl z.2
 obtain ⟨rfl, hIu⟩ := aG z2.1
 obtain ⟨a, c, rfl, _⟩ := ah z2.2
 have HK := qH hok
 have KO := qH (adH hok)
 clear hx z z2 hok
 have hu2 := KO.out.hu
 simp only at hu2
 obtain ⟨U, hU⟩ : ∃ U : Nat, u = U := ⟨u.toNat, by omega⟩
 subst hU
 have xq := qC (St.start w).bel c0
 clear xq
 obtain ⟨xq, J3⟩ := iQ (St.start w).bel c0 c1
 clear xq J3
 obtain ⟨xq, J3, WX⟩ := fQ (St.start w).bel c0 c1 c2
 have hs1 := (St.start w).alloc #[.int .i64 0, .int .i64 0, .slice none 0 0] 61 (n := w.heap.size) (by simp)
 clear xq J3 WX
 obtain ⟨aF, aH, ig⟩ := hs1.c3 0 0 0 1 0 2
 obtain ⟨xq, J3, WX⟩ := fQ hs1.bel c0 c1 c2
 go_enter func264, ntmps264
 go_wp2_with fail
 refine (Qz (p, (U : Int), l) _ _ _ _ _ (Rd.mono HX.out hs1.bel) xq J3 WX HK.out).mono ?_
 rintro e w2 ⟨g4, c4, rfl, fr, hbw2⟩
 have auP : w.heap.size + 1 ≤ w2.heap.size := hZ hbw2
 have hs3 := hs1.step hbw2
 clear aF aH ig xq J3 WX
 obtain ⟨aF, aH, ig⟩ := hs3.c3 0 0 0 1 0 2
 obtain ⟨xq, J3, WX⟩ := fQ hs3.bel c0 c1 c2
 have FR := qH (show aQ (w.heap.size + 1) w2 [.slice (some ⟨g4, 0, none⟩) l.length c4] (aT (p, (U : Int), l)).1 by simpa using fr)
 clear fr
 obtain ⟨wB, hwB⟩ : ∃ x, x = w2 := ⟨_, rfl⟩
 subst hwB
 have HS1 := qH hs3
 have qh := qH (Below.refl wB.heap.size wB)
 go_upto_region 2 with fail
 go_cut [5] from 12 to 60 (fun x5 wx => ∃ g gL, x5 = .pointer (some ⟨g, 0, none⟩) ∧ Hid (St w wx.heap.size wx [(w.heap.size, #[.int .i64 0, .int .i64 0, .slice none 0 0], 61), (g, #[.int .i64 p, .int .i64 U, .slice (some ⟨gL, 0, none⟩) 0 0], 61)]) ∧ Hid (wx.ownsRow 0 200 2 (.slice (some ⟨gL, 0, none⟩) 0 0) 0 []) ∧ Hid (Below wB.heap.size wB wx ∧ g ≠ gL ∧ wB.heap.size ≤ g ∧ wB.heap.size ≤ gL ∧ g < wx.heap.size ∧ gL < wx.heap.size))
 case first =>
  refine iT (fun w' => cI w' w.heap.size 0 0 ∧ cI w' w.heap.size 1 0 ∧ cV w' w.heap.size 2 (.slice none 0 0) ∧ cI w' sb 0 p ∧ cI w' sb 1 U ∧ cV w' sb 2 (.slice a l.length c)) (.z [0,1,2,3,4,5,6,7] (.mF 8 (.float 9 (.hard 10 (.last 11 .nil))) 10 (.hard 8 (.float 9 (.last 11 .nil))))) ?_ ?_
  · exact (hs3.drew).d3 0 0 0 1 0 2 (fQ (hs3.drew).bel c0 c1 c2:)
  have hs4 := hs3.drew
  have LW := qH (qh.out.trans (((belowD _)).mono qh.out.size))
  clear qh
  clear aF aH ig xq J3 WX
  have Uj : wB.heap.size ≤ (wB.drew).heap.size := by simp
  generalize wB.drew = F7 at *
  refine aV ?_
  refine zH ?_ ?_
  · refine gX fun K hK => ?_
    go_wp2_with fail
    have oZ := qH (rV (size := 2) F7 200)
    have hs7 := hs4.alloc #[] 200 (n := F7.heap.size) (by simp)
    have aah := qH (LW.out.trans (((aB _ (.cells #[] 200))).mono LW.out.size))
    clear LW
    have aai : F7.heap.size + 1 ≤ ((F7.alloc (.cells #[] 200))).heap.size := by simp
    generalize (F7.alloc (.cells #[] 200)) = wL at *
    refine ⟨(hs7.d3 0 0 0 1 0 2 (fQ hs7.bel c0 c1 c2:)), ?_⟩
    refine aV ?_
    refine gX fun K hK => ?_
    go_wp2_with fail
    have hs9 := hs7.alloc #[.int .i64 0, .int .i64 0, .slice none 0 0] 61 (n := wL.heap.size) (by simp)
    have ahj := qH (aah.out.trans (((aB _ (.cells #[.int .i64 0, .int .i64 0, .slice none 0 0] 61))).mono aah.out.size))
    clear aah
    have adX := qH (ownsRow_below oZ.out (aB _ (.cells #[.int .i64 0, .int .i64 0, .slice none 0 0] 61)))
    clear oZ
    have QA : wL.heap.size + 1 ≤ ((wL.alloc (.cells #[.int .i64 0, .int .i64 0, .slice none 0 0] 61))).heap.size := by simp
    generalize (wL.alloc (.cells #[.int .i64 0, .int .i64 0, .slice none 0 0] 61)) = wA at *
    refine ⟨(hs9.d3 0 0 0 1 0 2 (fQ hs9.bel c0 c1 c2:)), ?_⟩
    refine aV ?_
    refine JY fun K hK => ?_
    obtain ⟨aF, aH, ig, aW, aY, bn⟩ := hs9.c6 0 0 0 1 0 2 2 0 2 1 2 2
    obtain ⟨xq, J3, WX⟩ := fQ hs9.bel c0 c1 c2
    have f0 := (hs9.aC 2 rfl 0)
    have f1 := (hs9.aC 2 rfl 1)
    have f2 := (hs9.aC 2 rfl 2)
    have PS := (hs9.box (wL.heap.size, #[.int .i64 0, .int .i64 0, .slice none 0 0], 61) (by simp)).2.1
    have hgL := (hs9.box (F7.heap.size, #[], 200) (by simp)).2.1
    have hgH := hs9.hi
    simp only at PS hgL
    have hq := ((hs9.set (p := [_, _]) (by simp <;> omega) 0 (.int .i64 p)).set (p := [_, _]) (by simp <;> omega) 1 (.int .i64 U)).set (p := [_, _]) (by simp <;> omega) 2 (.slice (some ⟨F7.heap.size, 0, none⟩) 0 0)
    go_wp2_with fail
    refine iF ?_
    go_wp2_with fail
    go_meet
    have ho := (((aP.refl [wL.heap.size] wA).setCell (p := ⟨wL.heap.size, 0, none⟩) (by simp) (.int .i64 p)).setCell (p := ⟨wL.heap.size, 1, none⟩) (by simp) (.int .i64 U)).setCell (p := ⟨wL.heap.size, 2, none⟩) (by simp) (.slice (some ⟨F7.heap.size, 0, none⟩) 0 0)
    refine ⟨wL.heap.size, F7.heap.size, rfl, (hq.up hq.hi (Nat.le_refl _)).sub (fun x hx => ?_), lK adX.out (fun k hk => ho.block k (by simp [Value.ownBlock] at hk ⊢; omega)), ⟨ahj.out.trans (ho.below (by simp; omega)), by omega, by omega, by omega, by rw [ho.size]; omega, by rw [ho.size]; omega⟩⟩
    simp only [List.mem_cons, List.not_mem_nil, or_false] at hx
    rcases hx with rfl | rfl <;> simp
  refine gX fun K hK => ?_
  go_wp2_with fail
  have kT := hs4.alloc #[.int .i64 0, .int .i64 0, .slice none 0 0] 61 (n := F7.heap.size) (by simp)
  have Uk := qH (LW.out.trans (((aB _ (.cells #[.int .i64 0, .int .i64 0, .slice none 0 0] 61))).mono LW.out.size))
  clear LW
  have QA : F7.heap.size + 1 ≤ ((F7.alloc (.cells #[.int .i64 0, .int .i64 0, .slice none 0 0] 61))).heap.size := by simp
  generalize (F7.alloc (.cells #[.int .i64 0, .int .i64 0, .slice none 0 0] 61)) = wA at *
  refine ⟨(kT.d3 0 0 0 1 0 2 (fQ kT.bel c0 c1 c2:)), ?_⟩
  refine aV ?_
  refine gX fun K hK => ?_
  go_wp2_with fail
  have oZ := qH (rV (size := 2) wA 200)
  have eU := kT.alloc #[] 200 (n := wA.heap.size) (by simp)
  have Oi := qH (Uk.out.trans (((aB _ (.cells #[] 200))).mono Uk.out.size))
  clear Uk
  have aai : wA.heap.size + 1 ≤ ((wA.alloc (.cells #[] 200))).heap.size := by simp
  generalize (wA.alloc (.cells #[] 200)) = wL at *
  refine ⟨(eU.d3 0 0 0 1 0 2 (fQ eU.bel c0 c1 c2:)), ?_⟩
  refine aV ?_
  refine JY fun K hK => ?_
  obtain ⟨aF, aH, ig, aJ, aK, jB⟩ := eU.c6 0 0 0 1 0 2 1 0 1 1 1 2
  obtain ⟨xq, J3, WX⟩ := fQ eU.bel c0 c1 c2
  have f0 := (eU.aC 1 rfl 0)
  have f1 := (eU.aC 1 rfl 1)
  have f2 := (eU.aC 1 rfl 2)
  have PS := (eU.box (F7.heap.size, #[.int .i64 0, .int .i64 0, .slice none 0 0], 61) (by simp)).2.1
  have hgL := (eU.box (wA.heap.size, #[], 200) (by simp)).2.1
  have hgH := eU.hi
  simp only at PS hgL
  have hq := ((eU.set (p := [_]) (by simp <;> omega) 0 (.int .i64 p)).set (p := [_]) (by simp <;> omega) 1 (.int .i64 U)).set (p := [_]) (by simp <;> omega) 2 (.slice (some ⟨wA.heap.size, 0, none⟩) 0 0)
  go_wp2_with fail
  refine iF ?_
  go_wp2_with fail
  go_meet
  have ho := (((aP.refl [F7.heap.size] wL).setCell (p := ⟨F7.heap.size, 0, none⟩) (by simp) (.int .i64 p)).setCell (p := ⟨F7.heap.size, 1, none⟩) (by simp) (.int .i64 U)).setCell (p := ⟨F7.heap.size, 2, none⟩) (by simp) (.slice (some ⟨wA.heap.size, 0, none⟩) 0 0)
  refine ⟨F7.heap.size, wA.heap.size, rfl, (hq.up hq.hi (Nat.le_refl _)).sub (fun x hx => ?_), lK oZ.out (fun k hk => ho.block k (by simp [Value.ownBlock] at hk ⊢; omega)), ⟨Oi.out.trans (ho.below (by simp; omega)), by omega, by omega, by omega, by rw [ho.size]; omega, by rw [ho.size]; omega⟩⟩
  simp only [List.mem_cons, List.not_mem_nil, or_false] at hx
  rcases hx with rfl | rfl <;> simp
 obtain ⟨g, gL, rfl, hst, hrow, hx⟩ := hcut
 have HRD := qH (Rd.mono (aQ.rd FR.out) hx.out.1)
 have aw5 := hx.out.2.2.2.2
 have hsz1 : w.heap.size + 1 ≤ wB.heap.size := by have := HS1.out.hi; omega
 have aw6 : wB.heap.size ≤ wc.heap.size := hx.out.1.size
 obtain ⟨aF, aH, ig, aJ, aK, jB⟩ := hst.out.c6 0 0 0 1 0 2 1 0 1 1 1 2
 obtain ⟨xq, J3, WX⟩ := fQ hst.out.bel c0 c1 c2
 go_wp2_with fail
 refine (Ua (aT (p, (U : Int), l)).1 _ _ _ HRD.out (by rw [KO.out.len]; exact KO.out.le) (by have := KO.out.len; have := KO.out.hl; omega)).mono ?_
 rintro e w16 ⟨rfl, rfl⟩
 rw [show iI (aT (p, (U : Int), l)).1 (aT (p, (U : Int), l)).2.length = oH (p, (U : Int), l) from rfl]
 have oZ := hrow
 by_cases hf : 0 ≤ oH (p, (U : Int), l)
 · have HF := qH hf
   have ahk := hx.out.2.1
   have hgL := hx.out.2.2.2.1
   have PS := hx.out.2.2.1
   go_upto_region 4 with fail
   refine iT (fun w' => cI w' w.heap.size 0 0 ∧ cI w' w.heap.size 1 0 ∧ cV w' w.heap.size 2 (.slice none 0 0) ∧ cI w' g 0 p ∧ cI w' g 1 U ∧ cV w' g 2 (.slice (some ⟨gL, 0, none⟩) 0 0) ∧ cI w' sb 0 p ∧ cI w' sb 1 U ∧ cV w' sb 2 (.slice a l.length c)) (.z [0,1,2,3,4,5] (.hard 6 (.float 7 (.hard 8 (.hard 9 (.float 10 (.last 11 .nil))))))) ?_ ?_
   · exact (hst.out.drew).d6 0 0 0 1 0 2 1 0 1 1 1 2 (fQ (hst.out.drew).bel c0 c1 c2:)
   have Eu := hst.out.drew
   have WY := qH (ownsRow_below oZ.out (belowD _))
   clear oZ
   clear aF aH ig aJ aK jB xq J3 WX
   have WZ : wc.heap.size ≤ (wc.drew).heap.size := by simp
   generalize wc.drew = zU at *
   refine aV ?_
   refine gX fun K hK => ?_
   refine jA _ _ _ 28 rfl eH (0 : Int) iL U (by omega) rfl rfl ?_
   intro wM jF uM hzM
   have YX : Hid (bY [zU.heap.size] wM (.slice (some ⟨zU.heap.size, 0, none⟩) U U) (List.replicate U (0 : Int))) := qH (by simpa using jF)
   have hgM : zU.heap.size < wM.heap.size := by rw [hzM]; simp
   clear jF hzM
   have W9 : zU.heap.size ≤ wM.heap.size := hZ uM
   have jC := Eu.step uM
   have Xa := qH (ownsRow_below WY.out uM)
   clear WY
   refine hK _ _ ⟨(jC.d6 0 0 0 1 0 2 1 0 1 1 1 2 (fQ jC.bel c0 c1 c2:)), ?_⟩
   refine aV ?_
   refine gX fun K hK => ?_
   go_wp2_with fail
   have je := jC.alloc #[.slice (some ⟨zU.heap.size, 0, none⟩) U U, .int .i64 1] 200 (n := wM.heap.size) (by simp)
   have Xb := qH (ownsRow_below Xa.out (aB _ (.cells #[.slice (some ⟨zU.heap.size, 0, none⟩) U U, .int .i64 1] 200)))
   clear Xa
   have aaj := qH (bK YX.out (aB _ (.cells #[.slice (some ⟨zU.heap.size, 0, none⟩) U U, .int .i64 1] 200)))
   clear YX
   refine ⟨(je.d6 0 0 0 1 0 2 1 0 1 1 1 2 (fQ je.bel c0 c1 c2:)), ?_⟩
   refine aV ?_
   refine gX fun K hK => ?_
   refine jZ _ _ _ _ rfl BA (v := .slice (some ⟨gL, 0, none⟩) 0 0) rfl Xb.out (vs := [.slice (some ⟨zU.heap.size, 0, none⟩) U U, .int .i64 1]) rfl (Bh _ _ _ _) ⟨wM.heap.size, 0, none⟩ 1 rfl (E8 (je.c 2 0) (je.c 2 1)) (by omega) ?_
   intro gN cN wN hat oV jJ IL
   have hgN : gN = gL ∨ gN = wM.heap.size + 1 := by simpa [Value.ownBlock] using hat.imp Eq.symm id
   have jJ : But [gL] (wM.alloc (.cells #[.slice (some ⟨zU.heap.size, 0, none⟩) U U, .int .i64 1] 200)) wN := jJ
   have HRN := qH (show wN.ownsRow 0 200 2 (.slice (some ⟨gN, 0, none⟩) 1 cN) 1 [.slice (some ⟨zU.heap.size, 0, none⟩) U U, .int .i64 1] from oV)
   clear hat oV
   have F8 := je.sK jJ (fun k hk => by simp at hk; omega) (fun x hx => by simp at hx ⊢; rcases hx with rfl | rfl | rfl <;> simp <;> omega)
   clear Xb
   have afw : wM.heap.size + 1 ≤ wN.heap.size := by have h9 := jJ.size; (try simp at h9); omega
   have ahm := qH (X8 aaj.out jJ (fun k hk => by (try simp at hk ⊢) <;> omega))
   clear aaj
   refine hK _ _ ⟨(F8.d6 0 0 0 1 0 2 1 0 1 1 1 2 (fQ F8.bel c0 c1 c2:)), ?_⟩
   refine aV ?_
   refine JY fun K hK => ?_
   obtain ⟨aF, aH, ig, aJ, aK, jB, aW, aY⟩ := F8.c8 0 0 0 1 0 2 1 0 1 1 1 2 2 0 2 1
   obtain ⟨xq, J3, WX⟩ := fQ F8.bel c0 c1 c2
   have f2 := (F8.aC 1 rfl 2)
   have hq := F8.set (p := [_]) (by simp <;> omega) 2 (.slice (some ⟨gN, 0, none⟩) 1 cN)
   go_wp2_with fail
   refine iF ?_
   obtain ⟨y0, y1, y2⟩ := hq.c3 1 0 1 1 1 2
   have f3 := hq.aC 0 rfl 0
   have f4 := hq.aC 0 rfl 1
   have f5 := hq.aC 0 rfl 2
   obtain ⟨z0, z1, z2⟩ := hq.c3 0 0 0 1 0 2
   have hq9 := ((hq.set (p := []) (by simp <;> omega) 0 (.int .i64 p)).set (p := []) (by simp <;> omega) 1 (.int .i64 U)).set (p := []) (by simp <;> omega) 2 (.slice (some ⟨gN, 0, none⟩) 1 cN)
   obtain ⟨x0, x1, x2⟩ := hq9.c3 0 0 0 1 0 2
   go_wp2_with fail
   refine bodyPost_ret (v := .agg #[.int .i64 p, .int .i64 U, .slice (some ⟨gN, 0, none⟩) 1 cN]) (by simp [results, results264, go_sem, x0, x1, x2]) rfl ⟨_, _, _, rfl, and_assoc.1 ⟨?_, hq9.bel⟩⟩
   rw [yI HF.out]
   have Yo : bM (fun z => w.heap.size < z ∧ z ≠ g) 200 wN (.slice (some ⟨gN, 0, none⟩) 1 cN) [((List.replicate U 0, 1) : nG)] := Fe (cZ := [[zU.heap.size]]) HRN.out rfl (fun i hi => by
    obtain rfl : i = 0 := by simp at hi; omega
    refine ⟨[zU.heap.size], [.slice (some ⟨zU.heap.size, 0, none⟩) U U, .int .i64 1], rfl, ?_, fun k hk => by simp⟩
    have h := lS (q := []) (x := List.replicate U (0 : Int)) (y := (1 : Int)) (w := wN) (p := [zU.heap.size]) ⟨_, rfl, ahm.out⟩ ⟨rfl, rfl, ⟨by decide, by decide⟩⟩
    simpa using h) (by simp [Value.ownBlock]; omega) (fun k hk => by simp [Value.ownBlock] at hk; omega)
   exact ⟨((((Yo.setCell (b := g) (o := 2) (.slice (some ⟨gN, 0, none⟩) 1 cN) (by simp)).setCell (b := w.heap.size) (o := 0) (.int .i64 p) (by simp)).setCell (b := w.heap.size) (o := 1) (.int .i64 U) (by simp)).setCell (b := w.heap.size) (o := 2) (.slice (some ⟨gN, 0, none⟩) 1 cN) (by simp)).wk (fun z hz => Nat.le_of_lt hz.1), rfl⟩
 have hm1 : oH (p, (U : Int), l) < 0 := by omega
 have HF := qH hf
 have hle := KO.out.le
 have hlen := KO.out.len
 have hll := KO.out.hl
 have hp2 := KO.out.hp
 simp only at hle hlen hll hp2
 obtain ⟨rss, hr1, hr2, hr3, hr4⟩ := Uh FR.out
 have ROWS := qH hr4
 have HR2 := qH hr2
 have HR3 := qH hr3
 have ahk := hx.out.2.1
 have PS := hx.out.2.2.1
 have HBC := qH hx.out.1
 have HLN := qH hlen
 have hL0 : Hid (gL ≠ g ∧ wB.heap.size ≤ gL ∧ gL < wc.heap.size) := qH ⟨fun h => hx.out.2.1 h.symm, hx.out.2.2.2.1, hx.out.2.2.2.2.2⟩
 have Oc := hst
 clear hf hr1 hr2 hr3 hr4 hlen hx hst FR HS1 aF aH ig aJ aK jB
 go_wp2_with fail
 go_loopw [6] (fun i wl => ∃ (j gv cv : Nat) (xs : List Value) (cZ : List (List Nat)), j ≤ (aT (p, (U : Int), l)).2.length ∧ i = .int .i64 j ∧ Hid (St w wl.heap.size wl [(w.heap.size, #[.int .i64 0, .int .i64 0, .slice none 0 0], 61), (g, #[.int .i64 p, .int .i64 U, .slice (some ⟨gv, 0, none⟩) j cv], 61)]) ∧ Hid (wl.ownsRow 0 200 2 (.slice (some ⟨gv, 0, none⟩) j cv) j xs) ∧ Hid (gv ≠ g ∧ wB.heap.size ≤ gv ∧ gv < wl.heap.size) ∧ Hid (cZ.length = j ∧ ∀ (i : Nat) p, cZ[i]? = some p → p.Nodup ∧ ∃ q, rss[i]? = some q ∧ ∀ k, k ∈ p → k ∈ q) ∧ Hid (∀ i (hi : i < (sU (aT (p, (U : Int), l)).1 j).length), ∃ q vs, cZ[i]? = some q ∧ Own q wB vs (sU (aT (p, (U : Int), l)).1 j)[i] ∧ ∀ k, k < vs.length → xs[i * 2 + k]? = vs[k]?) ∧ Hid (Below wB.heap.size wB wl)) (fun i _ => (aT (p, (U : Int), l)).2.length - (intOf i).toNat)
 case atStart => exact ⟨0, gL, 0, [], [], Nat.zero_le _, rfl, Oc.out, hrow.out, hL0.out, ⟨rfl, fun i p h => by simp at h⟩, fun i hi => by simp [sU] at hi, HBC.out⟩
 obtain ⟨j, gv, cv, xs, cZ, hj, rfl, hst, hrw, hgv, hps, hel, hbl⟩ := hrel
 have ahn : wB.heap.size ≤ wr.heap.size := hbl.out.size
 have hgw := (hst.out.box (g, #[.int .i64 p, .int .i64 U, .slice (some ⟨gv, 0, none⟩) j cv], 61) (by simp)).2.1
 simp only at hgw
 obtain ⟨aF, aH, ig, aJ, aK, jB⟩ := hst.out.c6 0 0 0 1 0 2 1 0 1 1 1 2
 obtain ⟨xq, J3, WX⟩ := fQ hst.out.bel c0 c1 c2
 by_cases hlt : j < (aT (p, (U : Int), l)).2.length
 rotate_left
 · obtain rfl : j = (aT (p, (U : Int), l)).2.length := by omega
   have f0 := (hst.out.aC 0 rfl 0)
   have f1 := (hst.out.aC 0 rfl 1)
   have f2 := (hst.out.aC 0 rfl 2)
   have alM := hgv.out.1
   have alN := hgv.out.2.1
   have aqH := hgv.out.2.2
   have hq9 := ((hst.out.set (p := []) (by simp <;> omega) 0 (.int .i64 p)).set (p := []) (by simp <;> omega) 1 (.int .i64 U)).set (p := []) (by simp <;> omega) 2 (.slice (some ⟨gv, 0, none⟩) (aT (p, (U : Int), l)).2.length cv)
   obtain ⟨x0, x1, x2⟩ := hq9.c3 0 0 0 1 0 2
   go_wp2_with fail
   refine bodyPost_ret (v := .agg #[.int .i64 p, .int .i64 U, .slice (some ⟨gv, 0, none⟩) (aT (p, (U : Int), l)).2.length cv]) (by simp [results, results264, go_sem, x0, x1, x2]) rfl ⟨_, _, _, rfl, and_assoc.1 ⟨?_, hq9.bel⟩⟩
   rw [zT (by have := HF.out; omega)]
   have hlj := tY (aT (p, (U : Int), l)).1 (aT (p, (U : Int), l)).2.length (by have := HLN.out; omega)
   have hin : ∀ k, k ∈ List.flatten cZ → w.heap.size + 1 ≤ k ∧ k < wB.heap.size := fun k hk => by
    obtain ⟨q, hq, hkq⟩ := List.mem_flatten.1 hk
    obtain ⟨i, hi⟩ := List.mem_iff_getElem?.1 hq
    obtain ⟨_, r, hr, hs⟩ := hps.out.2 i q hi
    exact HR3.out k (List.mem_flatten.2 ⟨r, List.mem_of_getElem? hr, hs k hkq⟩)
   have Yo : bM (fun z => w.heap.size < z) 200 wr (.slice (some ⟨gv, 0, none⟩) (aT (p, (U : Int), l)).2.length cv) (sU (aT (p, (U : Int), l)).1 (aT (p, (U : Int), l)).2.length) := Fe (cZ := cZ) (by rw [hlj]; exact hrw.out) (by rw [hlj]; exact hps.out.1) (fun i hi => by
    obtain ⟨q, vs, h1, h2, h3⟩ := hel.out i hi
    exact ⟨q, vs, h1, Own.mono h2 hbl.out, h3⟩) (by
    simp only [Value.ownBlock, Option.toList_some, List.singleton_append, List.nodup_cons]
    exact ⟨fun h => by have := hin _ h; omega, Ui HR2.out hps.out.2⟩) (fun k hk => by
    simp only [Value.ownBlock, Option.toList_some, List.singleton_append, List.mem_cons] at hk
    rcases hk with rfl | hk
    · omega
    · have := hin k hk; omega)
   exact ⟨(((Yo.setCell (b := w.heap.size) (o := 0) (.int .i64 p) (by simp)).setCell (b := w.heap.size) (o := 1) (.int .i64 U) (by simp)).setCell (b := w.heap.size) (o := 2) (.slice (some ⟨gv, 0, none⟩) (aT (p, (U : Int), l)).2.length cv) (by simp)).wk (fun z hz => Nat.le_of_lt hz), hlj.symm⟩
 have hjr : j < (aT (p, (U : Int), l)).1.length := by rw [HLN.out]; omega
 have hjl : (j : Int) < l.length := by omega
 obtain ⟨pj, p1, vl, vb, hpj, hsub, hnd1, ho1, hI1, q0, q1, q2⟩ := ROWS.out j hjr
 have hgd := KO.out.good _ (List.getElem_mem hjr)
 have aal := hgd.len
 simp only [Int.toNat_natCast] at aal
 obtain ⟨al, cl, evl, _⟩ := ah (Rep.bP ho1)
 rw [aal] at evl
 subst evl
 have HST := qH (IK (aT (p, (U : Int), l)).1 j hjr)
 have HO1 := qH (lS (q := []) ho1 (show Own [] wB [.int .i64 (aT (p, (U : Int), l)).1[j].2.1] (aT (p, (U : Int), l)).1[j].2.1 from ⟨rfl, rfl, hI1⟩))
 have HPJ := qH (show p1.Nodup ∧ ∃ q, rss[j]? = some q ∧ ∀ k, k ∈ p1 → k ∈ q from ⟨hnd1, pj, hpj, hsub⟩)
 have hg4 := World.block_lt_of_cell? wB _ q0
 simp only at hg4
 obtain ⟨r0, r1⟩ := iQ hbl.out q0 q1
 have HRW := hrw
 clear ho1 aal hgd hpj hsub hnd1 q0 q1 q2
 generalize hRV : (aT (p, (U : Int), l)).1[j].2.1 = RV at *
 have HRV := qH hRV
 clear hRV
 have qh := hbl
 go_upto_region 9 with fail
 refine iT (fun w' => cI w' w.heap.size 0 0 ∧ cI w' w.heap.size 1 0 ∧ cV w' w.heap.size 2 (.slice none 0 0) ∧ cI w' g 0 p ∧ cI w' g 1 U ∧ cV w' g 2 (.slice (some ⟨gv, 0, none⟩) j cv) ∧ cI w' sb 0 p ∧ cI w' sb 1 U ∧ cV w' sb 2 (.slice a l.length c) ∧ cV w' g4 (j * 3) (.slice al U cl) ∧ cI w' g4 (j * 3 + 1) RV) (.z [0,1,2,3,4,5,6,7,8,9,10,11,12] (.hard 13 (.hard 14 (.float 15 (.last 16 .nil))))) ?_ ?_
 · exact ⟨(hst.out.drew).c 0 0, (hst.out.drew).c 0 1, (hst.out.drew).c 0 2, (hst.out.drew).c 1 0, (hst.out.drew).c 1 1, (hst.out.drew).c 1 2, qC (hst.out.drew).bel c0, qC (hst.out.drew).bel c1, qC (hst.out.drew).bel c2, qC (belowD _) r0, qC (belowD _) r1⟩
 have y9 := hst.out.drew
 have afx := qC (belowD _) r0
 clear r0
 have afy := qC (belowD _) r1
 clear r1
 have aam := qH (ownsRow_below HRW.out (belowD _))
 clear HRW
 have Ul := qH (qh.out.trans (((belowD _)).mono qh.out.size))
 clear qh
 clear aF aH ig aJ aK jB xq J3 WX
 have aoh : wr.heap.size ≤ (wr.drew).heap.size := by simp
 generalize wr.drew = aan at *
 refine aV ?_
 refine gX fun K hK => ?_
 go_wp2_with fail
 have rW := y9.alloc #[.slice al U cl, .int .i64 RV] 200 (n := aan.heap.size) (by simp)
 have aao := qC (aB _ (.cells #[.slice al U cl, .int .i64 RV] 200)) afx
 clear afx
 have aap := qC (aB _ (.cells #[.slice al U cl, .int .i64 RV] 200)) afy
 clear afy
 have IQ := qH (ownsRow_below aam.out (aB _ (.cells #[.slice al U cl, .int .i64 RV] 200)))
 clear aam
 have Um := qH (Ul.out.trans (((aB _ (.cells #[.slice al U cl, .int .i64 RV] 200))).mono Ul.out.size))
 clear Ul
 refine ⟨⟨rW.c 0 0, rW.c 0 1, rW.c 0 2, rW.c 1 0, rW.c 1 1, rW.c 1 2, qC rW.bel c0, qC rW.bel c1, qC rW.bel c2, aao, aap⟩, ?_⟩
 refine aV ?_
 refine gX fun K hK => ?_
 refine jZ _ _ _ _ rfl BA (v := .slice (some ⟨gv, 0, none⟩) j cv) rfl IQ.out (vs := [.slice al U cl, .int .i64 RV]) rfl (Bh _ _ _ _) ⟨aan.heap.size, 0, none⟩ 1 rfl (E8 (rW.c 2 0) (rW.c 2 1)) (by omega) ?_
 intro gN cN wN hat oV jJ IL
 have hgN : gN = gv ∨ gN = aan.heap.size + 1 := by simpa [Value.ownBlock] using hat.imp Eq.symm id
 have jJ : But [gv] (aan.alloc (.cells #[.slice al U cl, .int .i64 RV] 200)) wN := jJ
 clear hat
 have alM := hgv.out.1
 have alN := hgv.out.2.1
 have aqH := hgv.out.2.2
 have F8 := rW.sK jJ (fun k hk => by simp at hk; omega) (fun x hx => by simp at hx ⊢; rcases hx with rfl | rfl | rfl <;> simp <;> omega)
 have HRN := qH oV
 clear oV
 clear IQ
 have afw : aan.heap.size + 1 ≤ wN.heap.size := by have h9 := jJ.size; (try simp at h9); omega
 have alO := uw aao (jJ.block _ (by (try simp) <;> omega) (by (try simp) <;> omega))
 clear aao
 have alP := uw aap (jJ.block _ (by (try simp) <;> omega) (by (try simp) <;> omega))
 clear aap
 have aho := qH (Um.out.trans (jJ.below (by (try simp) <;> omega) Um.out.size))
 clear Um
 refine hK _ _ ⟨⟨F8.c 0 0, F8.c 0 1, F8.c 0 2, F8.c 1 0, F8.c 1 1, F8.c 1 2, qC F8.bel c0, qC F8.bel c1, qC F8.bel c2, alO, alP⟩, ?_⟩
 refine aV ?_
 refine JY fun K hK => ?_
 obtain ⟨aF, aH, ig, aJ, aK, jB, aW, aY⟩ := F8.c8 0 0 0 1 0 2 1 0 1 1 1 2 2 0 2 1
 obtain ⟨xq, J3, WX⟩ := fQ F8.bel c0 c1 c2
 have f2 := (F8.aC 1 rfl 2)
 have hq := F8.set (p := [_]) (by simp <;> omega) 2 (.slice (some ⟨gN, 0, none⟩) (j + 1) cN)
 go_wp2_with fail
 refine iF ?_
 go_wp2_with fail
 go_roundw
 case rel =>
  have ho := (aP.refl [g] wN).setCell (p := ⟨g, 2, none⟩) (by simp) (.slice (some ⟨gN, 0, none⟩) (j + 1) cN)
  have hlj := tY (aT (p, (U : Int), l)).1 j (by have := HLN.out; omega)
  have hnew := E5 (x := WW (aT (p, (U : Int), l)).1[j]) (xs := xs) (cZ := cZ) (w := wB) (us := [.slice al U cl, .int .i64 RV]) (q := p1 ++ []) (by rw [hlj]; exact hrw.out.1) (by rw [hlj]; exact hps.out.1) hel.out (by
   have h := HO1.out
   rw [← HRV.out] at h ⊢
   exact h)
  rw [← HST.out] at hnew
  refine ⟨j + 1, gN, cN, xs ++ [.slice al U cl, .int .i64 RV], cZ ++ [p1 ++ []], hlt, by go_num, (hq.up (by have := hq.hi; exact this) (Nat.le_refl _)).sub (fun x hx => ?_), lK HRN.out (fun k hk => ho.block k ?_), ?_, ?_, qH hnew, aho.out.setCell (by simpa using PS) _⟩
  · simp only [List.mem_cons, List.not_mem_nil, or_false] at hx
    rcases hx with rfl | rfl <;> simp
  · simp only [Value.ownBlock, Option.some.injEq] at hk
    subst hk
    simp <;> omega
  · exact ⟨by omega, by omega, by rw [ho.size]; omega⟩
  refine ⟨by simp [hps.out.1], fun i q hq => ?_⟩
  by_cases hi : i < cZ.length
  · rw [List.getElem?_append_left hi] at hq; exact hps.out.2 i q hq
  rw [List.getElem?_append_right (by omega)] at hq
  have h0 : i - cZ.length = 0 := by
   have := (List.getElem?_eq_some_iff.1 hq).1; simp at this; omega
  rw [h0] at hq
  simp only [List.getElem?_cons_zero, Option.some.injEq, List.append_nil] at hq
  subst hq
  obtain rfl : i = j := by have := hps.out.1; omega
  exact HPJ.out
 simp [intOf]; omega
theorem LX {lo : Nat} {e : TypeId} {w : World} {p u : Int} {v : Value} {l : List nG} (hp : I64 p) (hu : I64 u) (h : bM (fun z => lo ≤ z) e w v l) : aQ lo w [.int .i64 p, .int .i64 u, v] ((p, u, l) : Sys) := by
 obtain ⟨ps, ho, hn, hA⟩ := h.ip
 exact ⟨[] ++ ([] ++ ps), lS (p := []) ⟨rfl, rfl, hp⟩ (lS (p := []) ⟨rfl, rfl, hu⟩ ho), by simpa using hn, fun k hk => hA k (by simpa using hk)⟩
theorem xu {w : World} : Own [] w [.int .i64 0, .int .i64 0, .slice none 0 0] ((0, 0, []) : Sys) :=
 lS (p := []) ⟨rfl, rfl, ⟨by decide, by decide⟩⟩ (lS (p := []) ⟨rfl, rfl, ⟨by decide, by decide⟩⟩ ⟨_, rfl, .inl ⟨rfl, rfl, none, 0, rfl, Nat.zero_le _⟩⟩)
end Go.Proofs.YtoblfnoaepbhfaaGreat
