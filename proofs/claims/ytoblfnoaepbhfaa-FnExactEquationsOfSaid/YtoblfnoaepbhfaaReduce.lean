/-
  CONTRACTS: ReduceSystem. (Printed by wip/gensys.py.)
-/
import Derived.Test.YtoblfnoaepbhfaaSolve
import Derived.Test.YtoblfnoaepbhfaaKinds
namespace Go.Proofs.Ytoblfnoaepbhfaa
open Go.RowKit Go.Shelf Go.IntWalk
open Rep (Rd Own sz)
set_option linter.unusedSimpArgs false
set_option linter.unusedVariables false

def eqnOf (r : SRow) : Eqn := (r.1, r.2.1)
def redTo (rows : List SRow) (j : Nat) : List Eqn := (rows.take j).map eqnOf
theorem redTo_succ (rows : List SRow) (j : Nat) (h : j < rows.length) : redTo rows (j + 1) = redTo rows j ++ [eqnOf rows[j]] := by
  unfold redTo; rw [List.take_succ_eq_append_getElem h, List.map_append]; rfl
theorem redTo_length (rows : List SRow) (j : Nat) (h : j ≤ rows.length) : (redTo rows j).length = j := by simp [redTo]; omega
theorem rd_take {α : Type} [Rep α] {w : World} {a : Option Addr} {n c : Nat} {l : List α} (h : Rd w [.slice a n c] l) (m : Nat) (hm : m ≤ l.length) : Rd w [.slice a m c] (l.take m) := by
  obtain ⟨a', c', e, hr⟩ := rd_list h
  simp only [Value.slice.injEq] at e
  obtain ⟨rfl, -, rfl⟩ := e
  have := mk_rd (rdSl_take hr m)
  rw [List.length_take, Nat.min_eq_left hm] at this
  exact this
theorem reducedF_no {s : Sys} (h : ¬ 0 ≤ falseS s) : reducedF s = (s.1, s.2.1, redTo (elimS s).1 (elimS s).2.length) := by
  unfold reducedF; rw [if_neg h]; rfl
theorem reducedF_yes {s : Sys} (h : 0 ≤ falseS s) : reducedF s = (s.1, s.2.1, [(List.replicate s.2.1.toNat 0, 1)]) := by
  unfold reducedF; rw [if_pos h]
/-- One equation in a block of its own. -/
theorem own_eqn1 {w : World} {g c : Nat} {e : TypeId} {v : Value} {n : Int} {l : List Int} {ps : List Nat} (hb : w.heap[g]? = some (.cells #[v, .int .i64 n] e (0, 0))) (ho : OwnSl ps w v l) (hn : I64 n) (hc : 1 ≤ c) (hm : c ≤ maxLen) :
    OwnSl (g :: ps) w (.slice (some ⟨g, 0, none⟩) 1 c) [((l, n) : Eqn)] := by
  refine .inr ⟨g, 0, c, _, e, [ps], rfl, hc, hm, hb, by simp, rfl, fun i hi => ?_⟩
  obtain rfl : i = 0 := by simp at hi; omega
  refine ⟨ps, [v, .int .i64 n], rfl, by have h := mk_own (q := []) (x := l) (y := n) (w := w) (p := ps) ⟨v, rfl, ho⟩ ⟨rfl, rfl, hn⟩; rw [List.append_nil] at h; exact h, fun k hk => ?_⟩
  match k, hk with
  | 0, _ => simp
  | 1, _ => simp
theorem reduceF_small (x : Sys) : mc_System (reduceF x).1 ≤ 1000000 := by
  have hsum : ∀ (l : List Eqn) (U : Nat), (∀ e, e ∈ l → e.1.length = U) → (l.map mcEqn).sum = l.length * (U + 1) := by
    intro l U
    induction l with
    | nil => intro _; simp
    | cons e es ih =>
      intro h
      rw [List.map_cons, List.sum_cons, ih (fun x hx => h x (List.mem_cons_of_mem _ hx)), List.length_cons, Nat.add_mul, mcEqn, h e (List.mem_cons_self ..)]
      omega
  unfold reduceF
  split
  · rename_i h
    have K := elim_ok h
    have hu := K.hu
    unfold mc_System
    by_cases hf : 0 ≤ falseS x
    · simp only [reducedF_yes hf, List.map_cons, List.map_nil, List.sum_cons, List.sum_nil, mcEqn, List.length_replicate]; omega
    · simp only [reducedF_no hf]
      rw [hsum _ x.2.1.toNat (fun e he => by
        unfold redTo at he
        obtain ⟨r, hr, rfl⟩ := List.mem_map.1 he
        exact (K.good r (List.mem_of_mem_take hr)).len), redTo_length _ _ K.rref.le]
      have h1 := K.le
      have h2 := (validS_get (p := x.1) (u := x.2.1) (l := x.2.2) h).2.2.1
      have h3 : (elimS x).2.length * (x.2.1.toNat + 1) ≤ 24 * 13 := Nat.mul_le_mul (by omega) (by omega)
      omega
  · simp [mc_System]
set_option maxRecDepth 100000 in
set_option maxHeartbeats 8000000 in
theorem reducedSystemW_c (x : Sys) (v0 v1 v2 : Value) (w : World) (hx : Rd w [v0, v1, v2] x) (hok : wideS x = true) :
    Calls Try.prog 69 #[.agg #[v0, v1, v2]] w fun e w' => ∃ a n c, e = .returned (.agg #[.int .i64 x.1, .int .i64 x.2.1, .slice a n c]) ∧ Fresh w.heap.size w' [.int .i64 x.1, .int .i64 x.2.1, .slice a n c] (reducedF x) ∧ Below w.heap.size w w' := by
  obtain ⟨p, u, l⟩ := x
  have HX := Lib.hid hx
  have z := rd_cons rfl hx
  obtain ⟨rfl, hIp⟩ := rd_i1 z.1
  have z2 := rd_cons rfl z.2
  obtain ⟨rfl, hIu⟩ := rd_i1 z2.1
  obtain ⟨a, c, rfl, _⟩ := rd_list z2.2
  have HK := Lib.hid hok
  have KO := Lib.hid (elimW_ok hok)
  clear hx z z2 hok
  have hu2 := KO.out.hu
  simp only at hu2
  obtain ⟨U, hU⟩ : ∃ U : Nat, u = U := ⟨u.toNat, by omega⟩
  subst hU
  have hs1 := (((St.start w).alloc #[.int .i64 p, .int .i64 U, .slice a l.length c] 28 rfl).alloc #[.int .i64 0, .int .i64 0, .slice none 0 0] 28 (n := w.heap.size + 1) (by simp)).alloc #[.int .i64 p, .int .i64 U, .slice none 0 0] 28 (n := w.heap.size + 1 + 1) (by simp)
  have k0 := hs1.cellAt 0 rfl 0 rfl
  have k1 := hs1.cellAt 0 rfl 1 rfl
  have k2 := hs1.cellAt 0 rfl 2 rfl
  go_enter Try.func69, Try.ntmps69
  go_wp2_with fail
  refine (reduced_f (p, (U : Int), l) _ _ _ _ (Rd.mono HX.out hs1.bel) HK.out).mono ?_
  rintro e w2 ⟨vr, vb, rfl, frr, frb, hb2⟩
  have rr := frr.rd
  have rb := frb.rd
  have hfl := KO.out.flat
  obtain ⟨ar, cr, er, _⟩ := rd_list rr
  rw [show (elimI (p, (U : Int), l)).1.length = l.length from KO.out.rowsI.1] at er
  subst er
  obtain ⟨ab, cb, eb, _⟩ := rd_list rb
  rw [show (elimI (p, (U : Int), l)).2.length = (elimS (p, (U : Int), l)).2.length by rw [hfl]] at eb
  subst eb
  have RR := Lib.hid rr
  have RB := Lib.hid (show Rd w2 [.slice ab (elimS (p, (U : Int), l)).2.length cb] (elimS (p, (U : Int), l)).2 by
    have h2 : (elimI (p, (U : Int), l)).2 = (elimS (p, (U : Int), l)).2 := by rw [hfl]
    rw [← h2]; exact (by rw [h2]; rw [h2] at rb; exact rb))
  clear hfl
  have hs2 := hs1.step hb2
  have JR := Lib.hid (Fresh.iv (frr.lower (lo' := w.heap.size + 1 + 1 + 1) (by simp)))
  clear rr rb frr frb
  clear k0 k1 k2
  have k0 := hs2.cellAt 0 rfl 0 rfl
  have k1 := hs2.cellAt 0 rfl 1 rfl
  have k2 := hs2.cellAt 0 rfl 2 rfl
  go_wp2_with fail
  refine (contradiction_c _ _ _ RR.out KO.out.contr).mono ?_
  rintro e w3 ⟨o0, n0, d0, o1, n1, d1, rfl, hb3, hat⟩
  have HAT := Lib.hid hat
  rw [contrI KO.out]
  have hs3 := hs2.step hb3
  clear hat
  clear k0 k1 k2
  have hs5 := hs3.alloc #[.slice o0 n0 d0, .slice o1 n1 d1] 160 rfl
  have k0 := hs5.cellAt 0 rfl 0 rfl
  have k1 := hs5.cellAt 0 rfl 1 rfl
  have k2 := hs5.cellAt 0 rfl 2 rfl
  by_cases hf : 0 ≤ falseS (p, (U : Int), l)
  · rw [decide_eq_true hf]
    have HF := Lib.hid hf
    have hlo : w.heap.size + 1 + 1 + 1 ≤ w3.heap.size := by have := hs3.hi; simpa using this
    clear hf
    go_wp2_with (at_make; refine wpList_make_rep _ rfl _ _ 104 rfl E_ints (0 : Int) own0_int U (by omega) rfl rfl ?_; intro wM hownM hbM hzM; (have hzz : wM.heap.size = w3.heap.size + 1 + 1 := by simpa using hzM); have hs6 := hs5.step hbM; have hs7 := hs6.alloc #[.slice (some ⟨w3.heap.size + 1, 0, none⟩) U U, .int .i64 1] 114 (n := w3.heap.size + 1 + 1) hzz.symm; have f2 := hs7.freeAt 2 rfl 2; have t2 := hs7.cellAt 2 rfl 2 rfl; have hs8 := hs7.set (p := [_, _]) (by simp <;> omega) 2 (.slice (some ⟨w3.heap.size + 1 + 1, 0, none⟩) 1 1); have t20 := hs8.cellAt 2 rfl 0 rfl; have t21 := hs8.cellAt 2 rfl 1 rfl; have t22 := hs8.cellAt 2 rfl 2 rfl; have g0 := hs8.freeAt 1 rfl 0; have g1 := hs8.freeAt 1 rfl 1; have g2 := hs8.freeAt 1 rfl 2; have y0 := hs8.cellAt 1 rfl 0 rfl; have y1 := hs8.cellAt 1 rfl 1 rfl; have y2 := hs8.cellAt 1 rfl 2 rfl)
    have hs9 := ((hs8.set (p := [_]) (by simp <;> omega) 0 (.int .i64 p)).set (p := [_]) (by simp <;> omega) 1 (.int .i64 U)).set (p := [_]) (by simp <;> omega) 2 (.slice (some ⟨w3.heap.size + 1 + 1, 0, none⟩) 1 1)
    have x0 := hs9.cellAt 1 rfl 0 rfl
    have x1 := hs9.cellAt 1 rfl 1 rfl
    have x2 := hs9.cellAt 1 rfl 2 rfl
    refine bodyPost_ret (v := .agg #[.int .i64 p, .int .i64 U, .slice (some ⟨w3.heap.size + 1 + 1, 0, none⟩) 1 1]) (by simp [results, Try.results69, go_sem, x0, x1, x2]) rfl ⟨_, _, _, rfl, ?_, hs9.bel⟩
    rw [reducedF_yes HF.out]
    have hownM' : OwnSl [w3.heap.size + 1] wM (.slice (some ⟨w3.heap.size + 1, 0, none⟩) U U) (List.replicate U (0 : Int)) := by simpa using hownM
    have h7 := own_eqn1 (c := 1) (n := 1) (heap_alloc_at wM (.cells #[.slice (some ⟨w3.heap.size + 1, 0, none⟩) U U, .int .i64 1] 114) hzz) (ownSl_mono hownM' (belowA wM _)) ⟨by decide, by decide⟩ (Nat.le_refl _) (by decide)
    have ho := ((((OnlyAt.refl [w.heap.size + 1, w.heap.size + 1 + 1] (wM.alloc (.cells #[.slice (some ⟨w3.heap.size + 1, 0, none⟩) U U, .int .i64 1] 114))).setCell (p := ⟨w.heap.size + 1 + 1, 2, none⟩) (by simp) (.slice (some ⟨w3.heap.size + 1 + 1, 0, none⟩) 1 1)).setCell (p := ⟨w.heap.size + 1, 0, none⟩) (by simp) (.int .i64 p)).setCell (p := ⟨w.heap.size + 1, 1, none⟩) (by simp) (.int .i64 U)).setCell (p := ⟨w.heap.size + 1, 2, none⟩) (by simp) (.slice (some ⟨w3.heap.size + 1 + 1, 0, none⟩) 1 1)
    exact ⟨_, mk_own (p := []) ⟨rfl, rfl, hIp⟩ (mk_own (p := []) ⟨rfl, rfl, hIu⟩ ⟨_, rfl, ownSl_only h7 ho (by simp; omega)⟩), by simp, by simp; omega⟩
  · rw [decide_eq_false hf]
    have HF := Lib.hid hf
    have HRF := Lib.hid (reducedF_no hf)
    have hlo : w.heap.size + 1 + 1 + 1 ≤ w3.heap.size := by have := hs3.hi; simpa using this
    have hb4 := Lib.hid (hb3.trans ((belowA w3 (.cells #[.slice o0 n0 d0, .slice o1 n1 d1] 160)).mono hb3.size))
    have RR2 := Lib.hid (Rd.mono RR.out hb4.out)
    have JR2 := Lib.hid (Iv.mono JR.out hb4.out)
    have hz2 : w2.heap.size ≤ w3.heap.size := hb3.size
    have hszA : (w3.alloc (.cells #[.slice o0 n0 d0, .slice o1 n1 d1] 160)).heap.size = w3.heap.size + 1 := by simp
    have HKO := KO
    have hle := KO.out.le
    have hll := KO.out.hl
    have hp2 := KO.out.hp
    simp only at hle hll hp2
    have hs6 := Lib.hid (St.sub (bx' := [(w.heap.size, #[.int .i64 p, .int .i64 U, .slice a l.length c], 28), (w.heap.size + 1, #[.int .i64 0, .int .i64 0, .slice none 0 0], 28), (w.heap.size + 1 + 1, #[.int .i64 p, .int .i64 U, .slice none 0 0], 28)]) hs5 (fun x hx => by simp at hx ⊢; rcases hx with rfl | rfl | rfl <;> simp))
    obtain ⟨_, _, e6, hrr⟩ := rd_list RR2.out
    rw [show (elimI (p, (U : Int), l)).1.length = l.length from HKO.out.rowsI.1] at e6
    simp only [Value.slice.injEq] at e6
    obtain ⟨rfl, -, rfl⟩ := e6
    have hcr : (elimS (p, (U : Int), l)).2.length ≤ cr := by have := (rdSl_len hrr).1; rw [show (elimI (p, (U : Int), l)).1.length = l.length from HKO.out.rowsI.1] at this; omega
    have hcr2 : ((elimS (p, (U : Int), l)).2.length : Int) ≤ cr := by omega
    clear hf JR HAT hs1 hs2 hs3 hs5 hb2 hb3 hb4 k0 k1 k2 HX KO RR RB hrr
    go_wp2_with fail
    generalize hWA : w3.alloc (.cells #[.slice o0 n0 d0, .slice o1 n1 d1] 160) = WA at *
    clear hWA
    go_loopw [38] (fun i wl => ∃ (j : Nat) (va : Option Addr) (vc : Nat), j ≤ (elimS (p, (U : Int), l)).2.length ∧ i = .int .i64 j ∧ Hid (St w (w3.heap.size + 1) wl [(w.heap.size, #[.int .i64 p, .int .i64 U, .slice a l.length c], 28), (w.heap.size + 1, #[.int .i64 0, .int .i64 0, .slice none 0 0], 28), (w.heap.size + 1 + 1, #[.int .i64 p, .int .i64 U, .slice va j vc], 28)]) ∧ Hid (Acc (w3.heap.size + 1) wl.heap.size 114 wl (.slice va j vc) (redTo (elimS (p, (U : Int), l)).1 j)) ∧ Hid (Iv (w.heap.size + 1 + 1 + 1) w2.heap.size wl [.slice ar l.length cr] (elimI (p, (U : Int), l)).1)) (fun i _ => (elimS (p, (U : Int), l)).2.length - (intOf i).toNat)
    case atStart => exact ⟨0, none, 0, Nat.zero_le _, rfl, hs6.out, Acc.nil _ _ _ _, JR2.out⟩
    case round =>
      obtain ⟨j, va, vc, hj, rfl, hst, hac, hbl⟩ := hrel
      have hszw := hst.out.hi
      by_cases hlt : j < (elimS (p, (U : Int), l)).2.length
      · have hjr : j < (elimS (p, (U : Int), l)).1.length := by rw [HKO.out.len]; simp only; omega
        have hjI : j < (elimI (p, (U : Int), l)).1.length := by rw [HKO.out.rowsI.1]; simp only; omega
        have hRT := Lib.hid (Iv.rd hbl.out)
        obtain ⟨b2, e2, y0, y1, rfl, f0, f1, hrow⟩ := rd_two_at rfl hRT.out j hjI
        rw [elim_rowI HKO.out j hjr hjI] at hrow
        have hgd := HKO.out.good _ (List.getElem_mem hjr)
        have hgr := hgd.right
        have hg := flat_good hgd
        have hrr : rightR (flat (elimS (p, (U : Int), l)).1[j]).1 = (elimS (p, (U : Int), l)).1[j].2.1 := by simp [rightR, flat, List.getD]
        have hst2 := redTo_succ (elimS (p, (U : Int), l)).1 j hjr
        have hlj := redTo_length (elimS (p, (U : Int), l)).1 j (by omega)
        have hlen := hgd.len
        have htk : (flat (elimS (p, (U : Int), l)).1[j]).1.take U = (elimS (p, (U : Int), l)).1[j].1 := by
          simp only [Int.toNat_natCast] at hlen
          unfold flat
          rw [List.take_append_of_le_length (by omega), List.take_of_length_le (by omega)]
        simp only [Int.toNat_natCast] at hg hlen
        have z0 := (rd_cons rfl hrow).1
        have z1 := (rd_cons rfl hrow).2
        obtain ⟨a6, c6, e6, hr6⟩ := rd_list z0
        have hcap : U + 1 ≤ c6 := by have := (rdSl_len hr6).1; rw [hg.1] at this; exact this
        rw [hg.1] at e6
        obtain ⟨a7, c7, e7, _⟩ := rd_list z1
        rw [hg.2.1] at e7
        subst e6 e7
        have hl1 := rd_take z0 U (by rw [hg.1]; omega)
        rw [htk] at hl1
        have HL := Lib.hid hl1
        have HRW := Lib.hid hrow
        have HST := Lib.hid hst2
        have HG := Lib.hid hg
        have HRR := Lib.hid hrr
        have HLJ := Lib.hid hlj
        have HLEN := Lib.hid hlen
        clear hrow hst2 hg hrr z0 z1 hr6 hl1 htk hlj hlen hgd
        have heq : eqnOf (elimS (p, (U : Int), l)).1[j] = ((elimS (p, (U : Int), l)).1[j].1, (elimS (p, (U : Int), l)).1[j].2.1) := rfl
        rw [heq] at HST
        clear heq
        generalize flat (elimS (p, (U : Int), l)).1[j] = Y at *
        generalize (elimS (p, (U : Int), l)).1[j].2.1 = RV at *
        generalize (elimS (p, (U : Int), l)).1[j].1 = Y1 at *
        simp only at hgr
        have hjb : (j : Int) < (elimS (p, (U : Int), l)).2.length := by omega
        have hjl : (j : Int) < l.length := by omega
        have hcap2 : (U : Int) ≤ c6 := by omega
        have hIR : I64 RV := ⟨by omega, by omega⟩
        have hq := hst.out.alloc #[.slice a6 (U + 1) c6, .slice a7 l.length c7] 160 rfl
        have hqd := hq.drew
        go_wp2_with fail
        refine wp_region_noPanic (wp_region_el (fun w' => w'.cell? ⟨w.heap.size + 1 + 1, 2, none⟩ = some (.slice va j vc) ∧ w'.cell? ⟨wr.heap.size, 0, none⟩ = some (.slice a6 (U + 1) c6) ∧ w'.cell? ⟨wr.heap.size, 1, none⟩ = some (.slice a7 l.length c7) ∧ w'.cell? ⟨w.heap.size, 1, none⟩ = some (.int .i64 U)) [(0, 0), (1, 0), (2, 0), (3, 0), (4, 0), (5, 0), (6, 0), (8, 0), (7, 1), (9, 1), (10, 0), (11, 1), (12, 1), (13, 0), (14, 2)] (by kernel_rfl) (by kernel_rfl) (by kernel_rfl) rfl ?_ (fun _ _ _ _ _ h => h) ?_)
        · exact ⟨hqd.cellAt 2 rfl 2 rfl, hqd.cellAt 3 rfl 0 rfl, hqd.cellAt 3 rfl 1 rfl, hqd.cellAt 0 rfl 1 rfl⟩
        (repeat (first | (apply el_skip rfl (by rfl); try simp only [Act.put, List.setIfInBounds_toArray, List.set_cons_zero, List.set_cons_succ]) | (apply el_float rfl (by rfl); (· (intro w' hS; go_simp <;> with_reducible rfl)); (try simp only [Act.put, List.setIfInBounds_toArray, List.set_cons_zero, List.set_cons_succ]))))
        refine el_hard rfl (by rfl) (fun K hK => ?_)
        go_wp2_with (go_at_call 100; refine (cloneIntsA_c Y1 _ _ (Rd.mono HL.out ((belowA wr _).trans (belowD _ |>.mono (by simp)))) (by rw [HLEN.out]; omega)).mono ?_; rintro e w4 ⟨b4, rfl, hA4, hb4⟩)
        have hq4 := hqd.step hb4
        obtain ⟨m4, n4, rfl, _⟩ := hA4.len
        have HA4 := Lib.hid hA4
        clear hA4
        refine ⟨⟨hq4.cellAt 2 rfl 2 rfl, hq4.cellAt 3 rfl 0 rfl, hq4.cellAt 3 rfl 1 rfl, hq4.cellAt 0 rfl 1 rfl⟩, ?_⟩
        (repeat (first | (apply el_skip rfl (by rfl); try simp only [Act.put, List.setIfInBounds_toArray, List.set_cons_zero, List.set_cons_succ]) | (apply el_float rfl (by rfl); (· (intro w' hS; go_simp <;> with_reducible rfl)); (try simp only [Act.put, List.setIfInBounds_toArray, List.set_cons_zero, List.set_cons_succ]))))
        refine el_hard rfl (by rfl) (fun K hK => ?_)
        have HRW4 := Lib.hid (Rd.mono HRW.out (((belowA wr (.cells #[.slice a6 (U + 1) c6, .slice a7 l.length c7] 160)).trans (belowD _ |>.mono (by simp))).trans (hb4.mono (by simp))))
        go_wp2_with (go_at_call 101; refine (right_c Y _ _ _ HRW4.out (by rw [HG.out.1]; omega) (by rw [HG.out.1]; omega)).mono ?_; rintro e w5 ⟨rfl, hb5⟩)
        rw [HRR.out]
        have hq5 := hq4.step hb5
        have hz45 := hb5.size
        refine ⟨⟨hq5.cellAt 2 rfl 2 rfl, hq5.cellAt 3 rfl 0 rfl, hq5.cellAt 3 rfl 1 rfl, hq5.cellAt 0 rfl 1 rfl⟩, ?_⟩
        (repeat (first | (apply el_skip rfl (by rfl); try simp only [Act.put, List.setIfInBounds_toArray, List.set_cons_zero, List.set_cons_succ]) | (apply el_float rfl (by rfl); (· (intro w' hS; go_simp <;> with_reducible rfl)); (try simp only [Act.put, List.setIfInBounds_toArray, List.set_cons_zero, List.set_cons_succ]))))
        refine el_hard rfl (by rfl) (fun K hK => ?_)
        go_wp2_with fail
        have hbA := belowA w5 (.cells #[.slice m4 Y1.length n4, .int .i64 RV] 114)
        have hq6 := hq5.step hbA
        refine ⟨⟨hq6.cellAt 2 rfl 2 rfl, hq6.cellAt 3 rfl 0 rfl, hq6.cellAt 3 rfl 1 rfl, hq6.cellAt 0 rfl 1 rfl⟩, ?_⟩
        (repeat (first | (apply el_skip rfl (by rfl); try simp only [Act.put, List.setIfInBounds_toArray, List.set_cons_zero, List.set_cons_succ]) | (apply el_float rfl (by rfl); (· (intro w' hS; go_simp <;> with_reducible rfl)); (try simp only [Act.put, List.setIfInBounds_toArray, List.set_cons_zero, List.set_cons_succ]))))
        refine el_hard rfl (by rfl) (fun K hK => ?_)
        obtain ⟨ps5, ho5, hn5, hk5⟩ := ((HA4.out.mono hb5).mono hbA).ownSl
        have IY : Fresh wr.heap.size (w5.alloc (.cells #[.slice m4 Y1.length n4, .int .i64 RV] 114)) [.slice m4 Y1.length n4, .int .i64 RV] ((Y1, RV) : Eqn) :=
          ⟨ps5 ++ [], mk_own ⟨_, rfl, ho5⟩ ⟨rfl, rfl, hIR⟩, by simpa using hn5, fun k hk => by have h := (hk5 k (by simpa using hk)).1; simp at h; omega⟩
        have hbr : Below wr.heap.size wr (w5.alloc (.cells #[.slice m4 Y1.length n4, .int .i64 RV] 114)) := ((((belowA wr (.cells #[.slice a6 (U + 1) c6, .slice a7 l.length c7] 160)).trans (belowD _ |>.mono (by simp))).trans (hb4.mono (by simp))).trans (hb5.mono (by have := hb4.size; simp at this; omega))).trans (hbA.mono (by have := hb4.size; simp at this; omega))
        have hzw := hbr.size
        refine wp_append_acc _ _ _ _ rfl E_eqns rfl (hac.out.mono hbr) IY (by omega) hzw ⟨w5.heap.size, 0, none⟩ 1 rfl (fun z u hz => by
          match z with
          | 0 => simp at hz; subst hz; exact cell_at_block (heap_alloc_new w5 _)
          | 1 => simp at hz; subst hz; exact cell_at_block (heap_alloc_new w5 _)
          | z + 2 => simp at hz) (by rw [HLJ.out]; omega) ?_
        intro a8 c8 w8 hA8 hB8 hK8
        rw [HLJ.out] at hA8 ⊢
        rw [← HST.out] at hA8
        have hkk := hK8 wr.heap.size (Nat.le_refl _) (by have := hb4.size; simp at this; simp; omega)
        have hq7 := ((hst.out.step hbr).stepB hB8)
        refine hK _ _ ⟨⟨hq7.cellAt 2 rfl 2 rfl, cellK (hq6.cellAt 3 rfl 0 rfl) hkk, cellK (hq6.cellAt 3 rfl 1 rfl) hkk, hq7.cellAt 0 rfl 1 rfl⟩, ?_⟩
        have r2 := hq7.cellAt 2 rfl 2 rfl
        have r3 := hq7.freeAt 2 rfl 2
        have HA8 := Lib.hid hA8
        have HBL8 := Lib.hid ((Iv.mono hbl.out hbr).frame (fun k h1 h2 => hB8.block k (by omega)))
        have HA9 := Lib.hid (show Acc (w3.heap.size + 1) (w8.setCell ⟨w.heap.size + 1 + 1, 2, none⟩ (.slice a8 (j + 1) c8)).heap.size 114 (w8.setCell ⟨w.heap.size + 1 + 1, 2, none⟩ (.slice a8 (j + 1) c8)) (.slice a8 (j + 1) c8) (redTo (elimS (p, (U : Int), l)).1 (j + 1)) from by
          have e : (w8.setCell ⟨w.heap.size + 1 + 1, 2, none⟩ (.slice a8 (j + 1) c8)).heap.size = w8.heap.size := by simp [World.setCell]
          rw [e]; exact hA8.setCell (by simp <;> omega) _)
        have HQ8 := Lib.hid (hq7.set (p := [_, _]) (by simp <;> omega) 2 (.slice a8 (j + 1) c8))
        clear hA8 ho5 hn5 hk5 IY
        (repeat (first | (apply el_skip rfl (by rfl); try simp only [Act.put, List.setIfInBounds_toArray, List.set_cons_zero, List.set_cons_succ]) | (apply el_float rfl (by rfl); (· (intro w' hS; go_simp <;> with_reducible rfl)); (try simp only [Act.put, List.setIfInBounds_toArray, List.set_cons_zero, List.set_cons_succ]))))
        refine el_last rfl (by rfl) (fun K hK => ?_)
        go_wp2_with fail
        refine el_nil (NoPanic.normal ?_)
        go_wp2_with fail
        go_roundw
        case rel => exact ⟨j + 1, a8, c8, hlt, by go_num, HQ8.out, HA9.out, Iv.setOut HBL8.out (.inl (by simp <;> omega)) _⟩
        case measure => simp [intOf]; omega
      · obtain rfl : j = (elimS (p, (U : Int), l)).2.length := by omega
        have hs7 := hst.out
        have t20 := hs7.cellAt 2 rfl 0 rfl
        have t21 := hs7.cellAt 2 rfl 1 rfl
        have t22 := hs7.cellAt 2 rfl 2 rfl
        have g0 := hs7.freeAt 1 rfl 0
        have g1 := hs7.freeAt 1 rfl 1
        have g2 := hs7.freeAt 1 rfl 2
        have y0 := hs7.cellAt 1 rfl 0 rfl
        have y1 := hs7.cellAt 1 rfl 1 rfl
        have y2 := hs7.cellAt 1 rfl 2 rfl
        have hs9 := ((hs7.set (p := [_]) (by simp <;> omega) 0 (.int .i64 p)).set (p := [_]) (by simp <;> omega) 1 (.int .i64 U)).set (p := [_]) (by simp <;> omega) 2 (.slice va (elimS (p, (U : Int), l)).2.length vc)
        have x0 := hs9.cellAt 1 rfl 0 rfl
        have x1 := hs9.cellAt 1 rfl 1 rfl
        have x2 := hs9.cellAt 1 rfl 2 rfl
        go_wp2_with fail
        refine bodyPost_ret (v := .agg #[.int .i64 p, .int .i64 U, .slice va (elimS (p, (U : Int), l)).2.length vc]) (by simp [results, Try.results69, go_sem, x0, x1, x2]) rfl ⟨_, _, _, rfl, ?_, hs9.bel⟩
        rw [HRF.out]
        obtain ⟨ps, ho, hn, hk⟩ := hac.out.ownSl
        have hoo := (((OnlyAt.refl [w.heap.size + 1] wr).setCell (p := ⟨w.heap.size + 1, 0, none⟩) (by simp) (.int .i64 p)).setCell (p := ⟨w.heap.size + 1, 1, none⟩) (by simp) (.int .i64 U)).setCell (p := ⟨w.heap.size + 1, 2, none⟩) (by simp) (.slice va (elimS (p, (U : Int), l)).2.length vc)
        exact ⟨[] ++ ([] ++ ps), mk_own (p := []) ⟨rfl, rfl, hIp⟩ (mk_own (p := []) ⟨rfl, rfl, hIu⟩ ⟨_, rfl, ownSl_only ho hoo (fun k h1 h2 => by have := (hk k h1).1; simp at h2; omega)⟩), by simpa using hn, fun k h1 => by have := (hk k (by simpa using h1)).1; omega⟩
theorem reducedSystem_c (x : Sys) (v0 v1 v2 : Value) (w : World) (hx : Rd w [v0, v1, v2] x) (hok : validS x = true) :
    Calls Try.prog 69 #[.agg #[v0, v1, v2]] w fun e w' => ∃ a n c, e = .returned (.agg #[.int .i64 x.1, .int .i64 x.2.1, .slice a n c]) ∧ Fresh w.heap.size w' [.int .i64 x.1, .int .i64 x.2.1, .slice a n c] (reducedF x) ∧ Below w.heap.size w w' :=
  reducedSystemW_c x v0 v1 v2 w hx (wideS_of hok)

end Go.Proofs.Ytoblfnoaepbhfaa
