import Derived.Test.YtoblfnoaepbhfaaGreatSysOQz
set_option linter.unusedSimpArgs false
set_option linter.unusedVariables false
set_option maxHeartbeats 16000000
set_option maxRecDepth 100000
namespace Go.Proofs.YtoblfnoaepbhfaaGreat
open Go.Proofs.Tryz
open Go.RowKit Go.Shelf Go.IntWalk
open Rep (Rd Own sz)
theorem Jo {α : Type} [Rep α] {A : Nat → Prop} {e : TypeId} {w : World} {g : Nat} (h : w.ownsRow 0 e (sz α) (.slice (some ⟨g, 0, none⟩) 0 0) 0 []) (hA : A g) (hg : g < w.heap.size) : bM (α := α) A e w (.slice (some ⟨g, 0, none⟩) 0 0) [] :=
 ⟨[], [], h, rfl, by simp [Value.ownBlock], fun k hk => by simp [Value.ownBlock] at hk; subst hk; exact ⟨hA, hg⟩, fun i hi => absurd hi (Nat.not_lt_zero _)⟩
theorem QZ (t : dB) (x : Inst) (tb xb : Nat) (t0 t1 x0 x1 : Value) (w : World) (ht : Rd w [t0, t1] t) (hx : Rd w [x0, x1] x) (hok : cu t x = true)
 (jr : w.cell? ⟨tb, 0, none⟩ = some t0) (jD : w.cell? ⟨tb, 1, none⟩ = some t1) (xc0 : w.cell? ⟨xb, 0, none⟩ = some x0) (gJ : w.cell? ⟨xb, 1, none⟩ = some x1) :
 Calls prog 80 #[.pointer (some ⟨tb, 0, none⟩), .pointer (some ⟨xb, 0, none⟩)] w fun e w' => ∃ u0 u1 u2, e = .returned (.tuple #[.agg #[u0, u1, u2], .int .i64 (pq t x).2]) ∧ aQ w.heap.size w' [u0, u1, u2] (pq t x).1 ∧ Below w.heap.size w w' := by
 have hV := (aX hok).2.1
 have hcl := (aX hok).2.2.1
 have hs1 := (dV (aX hok).1).1
 have Xz := qH (Jj hok)
 obtain ⟨size, rs⟩ := t
 obtain ⟨vars, cs⟩ := x
 simp only at hV hcl hs1
 obtain ⟨V, rfl⟩ : ∃ V : Nat, vars = (V : Int) := ⟨vars.toNat, by omega⟩
 have PW := qH (au rfl hx).2
 have HRS := qH (au rfl ht).2
 have zt := au rfl ht
 obtain ⟨rfl, _⟩ := aG zt.1
 obtain ⟨at0, ct0, rfl, _⟩ := ah zt.2
 have zx := au rfl hx
 obtain ⟨rfl, _⟩ := aG zx.1
 obtain ⟨ax, cx, rfl, _⟩ := ah zx.2
 have hIs : I64 size := jf _ (by omega) (by omega)
 have hIV : I64 (V : Int) := jf _ (by omega) (by omega)
 clear hok ht hx zt zx
 have bU := qC (St.start w).bel jr
 clear bU
 obtain ⟨bU, cO⟩ := iQ (St.start w).bel jr jD
 clear bU cO
 obtain ⟨bU, cO, bg⟩ := fQ (St.start w).bel jr jD xc0
 clear bU cO bg
 obtain ⟨bU, cO, bg, bI⟩ := jc (St.start w).bel jr jD xc0 gJ
 have hs1 := (St.start w).alloc #[.int .i64 0, .int .i64 0, .slice none 0 0] 61 (n := w.heap.size) (by simp)
 clear bU cO bg bI
 obtain ⟨aF, aH, ig⟩ := hs1.c3 0 0 0 1 0 2
 obtain ⟨bU, cO, bg, bI⟩ := jc hs1.bel jr jD xc0 gJ
 go_enter func80, ntmps80
 go_wp2_with fail
 refine (Hr size _).mono ?_
 rintro e w2 ⟨rfl, rfl⟩
 cases h1 : sW size
 · have H1 := qH (show pq (size, rs) ((V : Int), cs) = ((0, 0, []), 4) by unfold pq; simp only; rw [h1]; rfl)
   clear h1
   have aij := hs1.aC 0 rfl 0
   have aik := hs1.aC 0 rfl 1
   have ail := hs1.aC 0 rfl 2
   go_wp2_with fail
   have x0 := (hs1.c 0 0)
   have x1 := (hs1.c 0 1)
   have x2 := (hs1.c 0 2)
   refine bodyPost_ret (v := .tuple #[.agg #[.int .i64 0, .int .i64 0, .slice none 0 0], .int .i64 4]) (by simp [results, results80, go_sem, x0, x1, x2]) rfl ⟨_, _, _, by rw [H1.out], ?_, hs1.bel⟩
   rw [H1.out]; exact ⟨[], xu, by simp, by simp⟩
 have KD := qH h1
 clear h1
 go_upto_region 3 with fail
 have QA : w.heap.size + 1 ≤ ((w.alloc (.cells #[.int .i64 0, .int .i64 0, .slice none 0 0] 61))).heap.size := by simp
 generalize (w.alloc (.cells #[.int .i64 0, .int .i64 0, .slice none 0 0] 61)) = wA at *
 have Jp := qH (Below.refl wA.heap.size wA)
 go_cut [6] from 21 to 30 (fun x6 wx => ∃ g gL : Nat, x6 = .pointer (some ⟨g, 0, none⟩) ∧ Hid (St w wx.heap.size wx [(w.heap.size, #[.int .i64 0, .int .i64 0, .slice none 0 0], 61), (g, #[.int .i64 size, .int .i64 V, .slice (some ⟨gL, 0, none⟩) 0 0], 61)]) ∧ Hid (bM (α := nG) (fun z => z = gL) 200 wx (.slice (some ⟨gL, 0, none⟩) 0 0) []) ∧ Hid (Below wA.heap.size wA wx ∧ g ≠ gL ∧ wA.heap.size ≤ g ∧ wA.heap.size ≤ gL ∧ g < wx.heap.size ∧ gL < wx.heap.size))
 case first =>
  refine iT (fun w' => cI w' w.heap.size 0 0 ∧ cI w' w.heap.size 1 0 ∧ cV w' w.heap.size 2 (.slice none 0 0) ∧ cI w' tb 0 size ∧ cV w' tb 1 (.slice at0 rs.length ct0) ∧ cI w' xb 0 V ∧ cV w' xb 1 (.slice ax cs.length cx)) (.z [0,1,2,3,4,5,6,7] (.mF 8 (.float 9 (.hard 10 (.last 11 .nil))) 10 (.hard 8 (.float 9 (.last 11 .nil))))) ?_ ?_
  · exact (hs1.drew).d3 0 0 0 1 0 2 (jc (hs1.drew).bel jr jD xc0 gJ:)
  have hs3 := hs1.drew
  have MK := qH (Jp.out.trans (((belowD _)).mono Jp.out.size))
  clear Jp
  clear aF aH ig bU cO bg bI
  have OU : wA.heap.size ≤ (wA.drew).heap.size := by simp
  generalize wA.drew = GY at *
  refine aV ?_
  refine zH ?_ ?_
  · refine gX fun K hK => ?_
    go_wp2_with fail
    have oZ := qH (rV (size := 2) GY 200)
    have hs6 := hs3.alloc #[] 200 (n := GY.heap.size) (by simp)
    have abg := qH (MK.out.trans (((aB _ (.cells #[] 200))).mono MK.out.size))
    clear MK
    have aai : GY.heap.size + 1 ≤ ((GY.alloc (.cells #[] 200))).heap.size := by simp
    generalize (GY.alloc (.cells #[] 200)) = wL at *
    refine ⟨(hs6.d3 0 0 0 1 0 2 (jc hs6.bel jr jD xc0 gJ:)), ?_⟩
    refine aV ?_
    refine gX fun K hK => ?_
    go_wp2_with fail
    have hs8 := hs6.alloc #[.int .i64 0, .int .i64 0, .slice none 0 0] 61 (n := wL.heap.size) (by simp)
    have amr := qH (abg.out.trans (((aB _ (.cells #[.int .i64 0, .int .i64 0, .slice none 0 0] 61))).mono abg.out.size))
    clear abg
    have aex := qH (ownsRow_below oZ.out (aB _ (.cells #[.int .i64 0, .int .i64 0, .slice none 0 0] 61)))
    clear oZ
    have abh : wL.heap.size + 1 ≤ ((wL.alloc (.cells #[.int .i64 0, .int .i64 0, .slice none 0 0] 61))).heap.size := by simp
    generalize (wL.alloc (.cells #[.int .i64 0, .int .i64 0, .slice none 0 0] 61)) = wG at *
    refine ⟨(hs8.d3 0 0 0 1 0 2 (jc hs8.bel jr jD xc0 gJ:)), ?_⟩
    refine aV ?_
    refine JY fun K hK => ?_
    obtain ⟨aF, aH, ig, aW, aY, bn⟩ := hs8.c6 0 0 0 1 0 2 2 0 2 1 2 2
    obtain ⟨bU, cO, bg, bI⟩ := jc hs8.bel jr jD xc0 gJ
    have f0 := (hs8.aC 2 rfl 0)
    have f1 := (hs8.aC 2 rfl 1)
    have f2 := (hs8.aC 2 rfl 2)
    have PS := (hs8.box (wL.heap.size, #[.int .i64 0, .int .i64 0, .slice none 0 0], 61) (by simp)).2.1
    have hgL := (hs8.box (GY.heap.size, #[], 200) (by simp)).2.1
    have hgH := hs8.hi
    simp only at PS hgL
    have hq := ((hs8.set (p := [_, _]) (by simp <;> omega) 0 (.int .i64 size)).set (p := [_, _]) (by simp <;> omega) 1 (.int .i64 V)).set (p := [_, _]) (by simp <;> omega) 2 (.slice (some ⟨GY.heap.size, 0, none⟩) 0 0)
    go_wp2_with fail
    refine iF ?_
    go_wp2_with fail
    go_meet
    have ho := (((aP.refl [wL.heap.size] wG).setCell (p := ⟨wL.heap.size, 0, none⟩) (by simp) (.int .i64 size)).setCell (p := ⟨wL.heap.size, 1, none⟩) (by simp) (.int .i64 V)).setCell (p := ⟨wL.heap.size, 2, none⟩) (by simp) (.slice (some ⟨GY.heap.size, 0, none⟩) 0 0)
    refine ⟨wL.heap.size, GY.heap.size, rfl, (hq.up hq.hi (Nat.le_refl _)).sub (fun x hx => ?_), Jo (lK aex.out (fun k hk => ho.block k (by simp [Value.ownBlock] at hk ⊢; omega))) rfl (by rw [ho.size]; omega), amr.out.trans (ho.below (by simp; omega)), by omega, by omega, by omega, by rw [ho.size]; omega, by rw [ho.size]; omega⟩
    simp only [List.mem_cons, List.not_mem_nil, or_false] at hx
    rcases hx with rfl | rfl <;> simp
  refine gX fun K hK => ?_
  go_wp2_with fail
  have hs11 := hs3.alloc #[.int .i64 0, .int .i64 0, .slice none 0 0] 61 (n := GY.heap.size) (by simp)
  have UZ := qH (MK.out.trans (((aB _ (.cells #[.int .i64 0, .int .i64 0, .slice none 0 0] 61))).mono MK.out.size))
  clear MK
  have abh : GY.heap.size + 1 ≤ ((GY.alloc (.cells #[.int .i64 0, .int .i64 0, .slice none 0 0] 61))).heap.size := by simp
  generalize (GY.alloc (.cells #[.int .i64 0, .int .i64 0, .slice none 0 0] 61)) = wG at *
  refine ⟨(hs11.d3 0 0 0 1 0 2 (jc hs11.bel jr jD xc0 gJ:)), ?_⟩
  refine aV ?_
  refine gX fun K hK => ?_
  go_wp2_with fail
  have oZ := qH (rV (size := 2) wG 200)
  have fV := hs11.alloc #[] 200 (n := wG.heap.size) (by simp)
  have ain := qH (UZ.out.trans (((aB _ (.cells #[] 200))).mono UZ.out.size))
  clear UZ
  have aai : wG.heap.size + 1 ≤ ((wG.alloc (.cells #[] 200))).heap.size := by simp
  generalize (wG.alloc (.cells #[] 200)) = wL at *
  refine ⟨(fV.d3 0 0 0 1 0 2 (jc fV.bel jr jD xc0 gJ:)), ?_⟩
  refine aV ?_
  refine JY fun K hK => ?_
  obtain ⟨aF, aH, ig, aJ, aK, jB⟩ := fV.c6 0 0 0 1 0 2 1 0 1 1 1 2
  obtain ⟨bU, cO, bg, bI⟩ := jc fV.bel jr jD xc0 gJ
  have f0 := (fV.aC 1 rfl 0)
  have f1 := (fV.aC 1 rfl 1)
  have f2 := (fV.aC 1 rfl 2)
  have PS := (fV.box (GY.heap.size, #[.int .i64 0, .int .i64 0, .slice none 0 0], 61) (by simp)).2.1
  have hgL := (fV.box (wG.heap.size, #[], 200) (by simp)).2.1
  have hgH := fV.hi
  simp only at PS hgL
  have hq := ((fV.set (p := [_]) (by simp <;> omega) 0 (.int .i64 size)).set (p := [_]) (by simp <;> omega) 1 (.int .i64 V)).set (p := [_]) (by simp <;> omega) 2 (.slice (some ⟨wG.heap.size, 0, none⟩) 0 0)
  go_wp2_with fail
  refine iF ?_
  go_wp2_with fail
  go_meet
  have ho := (((aP.refl [GY.heap.size] wL).setCell (p := ⟨GY.heap.size, 0, none⟩) (by simp) (.int .i64 size)).setCell (p := ⟨GY.heap.size, 1, none⟩) (by simp) (.int .i64 V)).setCell (p := ⟨GY.heap.size, 2, none⟩) (by simp) (.slice (some ⟨wG.heap.size, 0, none⟩) 0 0)
  refine ⟨GY.heap.size, wG.heap.size, rfl, (hq.up hq.hi (Nat.le_refl _)).sub (fun x hx => ?_), Jo (lK oZ.out (fun k hk => ho.block k (by simp [Value.ownBlock] at hk ⊢; omega))) rfl (by rw [ho.size]; omega), ain.out.trans (ho.below (by simp; omega)), by omega, by omega, by omega, by rw [ho.size]; omega, by rw [ho.size]; omega⟩
  simp only [List.mem_cons, List.not_mem_nil, or_false] at hx
  rcases hx with rfl | rfl <;> simp
 obtain ⟨g, gL, rfl, Oc, Yo, hx0⟩ := hcut
 obtain ⟨w1, rfl⟩ : ∃ x, x = wc := ⟨_, rfl⟩
 obtain ⟨BQ, ax5, hgA, ax6, hg1, ax7⟩ := hx0.out
 have hzA : w.heap.size + 1 ≤ wA.heap.size := hs1.hi
 clear Jp
 obtain ⟨aF, aH, ig, aJ, aK, jB⟩ := Oc.out.c6 0 0 0 1 0 2 1 0 1 1 1 2
 obtain ⟨bU, cO, bg, bI⟩ := jc Oc.out.bel jr jD xc0 gJ
 clear BQ
 go_wp2_with fail
 go_loopw [7] (fun kv wl => ∃ (k : Nat) (va : Option Addr) (vc : Nat), k ≤ cs.length ∧ kv = .int .i64 k ∧ Hid (St w w1.heap.size wl [(w.heap.size, #[.int .i64 0, .int .i64 0, .slice none 0 0], 61), (g, #[.int .i64 size, .int .i64 V, .slice va (fK (size, rs) V cs k).length vc], 61)]) ∧ Hid (bM (fun z => w.heap.size + 1 ≤ z ∧ z ≠ g ∧ z < wl.heap.size) 200 wl (.slice va (fK (size, rs) V cs k).length vc) (fK (size, rs) V cs k)) ∧ Hid (∀ (q : Nat) (h : q < cs.length), q < k → kN size (lC (size, rs) cs[q]) = true)) (fun kv _ => cs.length - (intOf kv).toNat)
 case atStart => exact ⟨0, some ⟨gL, 0, none⟩, 0, Nat.zero_le _, rfl, Oc.out, Yo.out.wk (fun z hz => by subst hz; omega), fun q _ h => absurd h (Nat.not_lt_zero _)⟩
 clear Oc Yo
 obtain ⟨k, va, vc, hk, rfl, hst, hac, ams⟩ := hrel
 obtain ⟨wK, rfl⟩ : ∃ x, x = wr := ⟨_, rfl⟩
 have hlo := hst.out.hi
 obtain ⟨aF, aH, ig, aJ, aK, jB⟩ := hst.out.c6 0 0 0 1 0 2 1 0 1 1 1 2
 obtain ⟨bU, cO, bg, bI⟩ := jc hst.out.bel jr jD xc0 gJ
 by_cases hlt : k < cs.length
 rotate_left
 · have hke : k = cs.length := by omega
   have hnk : ¬ ((k : Int) < cs.length) := by omega
   have H1 := qH (show pq (size, rs) ((V : Int), cs) = (if 24 < (fK (size, rs) V cs k).length then ((0, 0, []), 3) else ((size, (V : Int), fK (size, rs) V cs k), 0)) by
    have h3 : Cc (size, rs) ((V : Int), cs) = true := by
     unfold Cc
     rw [List.all_eq_true]
     intro c hc
     obtain ⟨q, hq, rfl⟩ := List.getElem_of_mem hc
     exact ams.out q hq (by simp only at hq; omega)
    rw [hke]
    unfold pq
    simp only
    rw [KD.out, h3]; rfl)
   clear hke
   by_cases h24 : 24 < (fK (size, rs) V cs k).length
   · have ah2 : (24 : Int) < (fK (size, rs) V cs k).length := by omega
     have H2 := qH (show pq (size, rs) ((V : Int), cs) = ((0, 0, []), 3) by rw [H1.out, if_pos h24])
     clear h24
     have aij := hst.out.aC 0 rfl 0
     have aik := hst.out.aC 0 rfl 1
     have ail := hst.out.aC 0 rfl 2
     go_wp2_with fail
     have arJ := hst.out.set (p := []) (by simp <;> omega) 0 (.int .i64 0)
     have arK := arJ.set (p := []) (by simp <;> omega) 1 (.int .i64 0)
     have aey := arK.set (p := []) (by simp <;> omega) 2 (.slice none 0 0)
     have x0 := (aey.c 0 0)
     have x1 := (aey.c 0 1)
     have x2 := (aey.c 0 2)
     refine bodyPost_ret (v := .tuple #[.agg #[.int .i64 0, .int .i64 0, .slice none 0 0], .int .i64 3]) (by simp [results, results80, go_sem, x0, x1, x2]) rfl ⟨_, _, _, by rw [H2.out], ?_, aey.bel⟩
     rw [H2.out]; exact ⟨[], xu, by simp, by simp⟩
   have ah2 : ¬ ((24 : Int) < (fK (size, rs) V cs k).length) := by omega
   have H2 := qH (show pq (size, rs) ((V : Int), cs) = ((size, (V : Int), fK (size, rs) V cs k), 0) by rw [H1.out, if_neg h24])
   have D8 := qH (LX (lo := w.heap.size + 1) hIs hIV (hac.out.wk (fun z hz => hz.1)))
   clear h24
   have aij := hst.out.aC 0 rfl 0
   have aik := hst.out.aC 0 rfl 1
   have ail := hst.out.aC 0 rfl 2
   go_wp2_with fail
   have arL := hst.out.set (p := []) (by simp <;> omega) 0 (.int .i64 size)
   have arM := arL.set (p := []) (by simp <;> omega) 1 (.int .i64 V)
   have KE := arM.set (p := []) (by simp <;> omega) 2 (.slice va (fK (size, rs) V cs k).length vc)
   have x0 := (KE.c 0 0)
   have x1 := (KE.c 0 1)
   have x2 := (KE.c 0 2)
   refine bodyPost_ret (v := .tuple #[.agg #[.int .i64 size, .int .i64 V, .slice va (fK (size, rs) V cs k).length vc], .int .i64 0]) (by simp [results, results80, go_sem, x0, x1, x2]) rfl ⟨_, _, _, by rw [H2.out], ?_, KE.bel⟩
   rw [H2.out]
   exact (((D8.out.setCell (a := ⟨w.heap.size, 0, none⟩) (by (try simp) <;> omega) _).setCell (a := ⟨w.heap.size, 1, none⟩) (by (try simp) <;> omega) _).setCell (a := ⟨w.heap.size, 2, none⟩) (by (try simp) <;> omega) _).lower (by omega)
 have QH : (k : Int) < cs.length := by omega
 obtain ⟨bc, oc, c0, c1, ec, vk, qc1, hrc⟩ := dL rfl PW.out k hlt
 subst ec
 obtain ⟨hrk, hci, AX⟩ := Xz.out _ (List.getElem_mem hlt)
 have hSU := Cb (size, rs) V cs k hlt
 generalize hck : cs[k] = CK at *
 obtain ⟨ci, sc⟩ := CK
 simp only at hci AX
 obtain ⟨n, rfl⟩ : ∃ n : Nat, ci = (n : Int) := ⟨ci.toNat, by omega⟩
 have hn : n < rs.length := by omega
 have hni : (n : Int) < rs.length := by omega
 have hra : lC (size, rs) ((n : Int), sc) = rs[n] := by unfold lC; simp only [Int.toNat_natCast]; rw [List.getD, List.getElem?_eq_getElem hn]; rfl
 have hcE : QX (size, rs) V ((n : Int), sc) = (QV size rs[n]).2.2.map (vX size V sc) := by unfold QX; rw [hra]
 have amu : (kN size (lC (size, rs) ((n : Int), sc)) = kN size rs[n]) := by rw [hra]
 rw [hra] at hrk AX
 (try simp only at hrk)
 obtain ⟨br, Bq, r0, r1, er, vw, vC, hrr⟩ := dL rfl HRS.out n hn
 subst er
 generalize rs[n] = RL at *
 obtain ⟨ar, tl⟩ := RL
 have zc := au rfl hrc
 obtain ⟨rfl, _⟩ := aG zc.1
 obtain ⟨Tq, OI, rfl, _⟩ := ah zc.2
 have zr := au rfl hrr
 obtain ⟨rfl, _⟩ := aG zr.1
 obtain ⟨arx, crx, rfl, _⟩ := ah zr.2
 have qU := qH zc.2
 have Yq := qH hrr
 have Ti := qH hrk
 have Y5 := qH (iR AX)
 have Oh := qH hSU
 have HCE := qH hcE
 have HAE := qH amu
 have HCK := qH hck
 have hAR := (gV hrk).2.1
 simp only at hAR
 have U0 := qH zr.2
 have HTU := qH (Jk hrk)
 clear hrc hrr hrk AX hSU hcE hra amu hck zc zr hci
 clear aF aH ig aJ aK jB bU cO bg bI
 obtain ⟨aF, aH, ig, aJ, aK, jB⟩ := hst.out.c6 0 0 0 1 0 2 1 0 1 1 1 2
 obtain ⟨bU, cO, bg, bI, mQ, mV, mW, mX⟩ := sN hst.out.bel jr jD xc0 gJ vk qc1 vw vC
 have HBK := qH (Below.refl wK.heap.size wK)
 go_upto_region 7 with fail
 refine iT (fun w' => cI w' w.heap.size 0 0 ∧ cI w' w.heap.size 1 0 ∧ cV w' w.heap.size 2 (.slice none 0 0) ∧ cI w' g 0 size ∧ cI w' g 1 V ∧ cV w' g 2 (.slice va (fK (size, rs) V cs k).length vc) ∧ cI w' tb 0 size ∧ cV w' tb 1 (.slice (some ⟨br, Bq, none⟩) rs.length ct0) ∧ cI w' xb 0 V ∧ cV w' xb 1 (.slice (some ⟨bc, oc, none⟩) cs.length cx) ∧ cI w' bc (oc + k * 2) n ∧ cV w' bc (oc + k * 2 + 1) (.slice Tq sc.length OI) ∧ cI w' br (Bq + n * 2) ar ∧ cV w' br (Bq + n * 2 + 1) (.slice arx tl.length crx)) (.z [0,1,2,3,4,5,6,7,8,9,10,11,12,13] .nil) ?_ ?_
 · exact (hst.out.drew).d6 0 0 0 1 0 2 1 0 1 1 1 2 (sN (hst.out.drew).bel jr jD xc0 gJ vk qc1 vw vC:)
 have nZ := hst.out.drew
 have U1 := qH (HBK.out.trans (((belowD _)).mono HBK.out.size))
 clear HBK
 clear aF aH ig aJ aK jB bU cO bg bI mQ mV mW mX
 have aoD : wK.heap.size ≤ (wK.drew).heap.size := by simp
 generalize wK.drew = arO at *
 refine aV ?_
 obtain ⟨aF, aH, ig, aJ, aK, jB⟩ := nZ.c6 0 0 0 1 0 2 1 0 1 1 1 2
 obtain ⟨bU, cO, bg, bI, mQ, mV, mW, mX⟩ := sN nZ.bel jr jD xc0 gJ vk qc1 vw vC
 refine iF ?_
 go_wp2_with fail
 refine (aec size (ar, tl) br (Bq + n * 2) _ _ _ (Rd.mono Yq.out nZ.bel) (qC nZ.bel vw) (qC nZ.bel vC) KD.out Ti.out).mono ?_
 rintro e Xk ⟨rfl, Bo⟩
 have aaF : arO.heap.size ≤ Xk.heap.size := hZ Bo
 have kD := nZ.step Bo
 have OW := qH (U1.out.trans ((Bo).mono U1.out.size))
 clear U1
 clear aF aH ig aJ aK jB bU cO bg bI mQ mV mW mX
 obtain ⟨aF, aH, ig, aJ, aK, jB⟩ := kD.c6 0 0 0 1 0 2 1 0 1 1 1 2
 obtain ⟨bU, cO, bg, bI, mQ, mV, mW, mX⟩ := sN kD.bel jr jD xc0 gJ vk qc1 vw vC
 cases UJ : kN size (ar, tl)
 · have H1 := qH (show pq (size, rs) ((V : Int), cs) = ((0, 0, []), 4) by
    have h3 : Cc (size, rs) ((V : Int), cs) = false := by
     unfold Cc
     rw [List.all_eq_false]
     exact ⟨_, List.getElem_mem hlt, by rw [HCK.out, HAE.out, UJ]; decide⟩
    unfold pq
    simp only
    rw [KD.out, h3]; rfl)
   clear UJ
   have aij := kD.aC 0 rfl 0
   have aik := kD.aC 0 rfl 1
   have ail := kD.aC 0 rfl 2
   go_wp2_with fail
   have qw := kD.set (p := []) (by simp <;> omega) 0 (.int .i64 0)
   have je := qw.set (p := []) (by simp <;> omega) 1 (.int .i64 0)
   have nR := je.set (p := []) (by simp <;> omega) 2 (.slice none 0 0)
   have x0 := (nR.c 0 0)
   have x1 := (nR.c 0 1)
   have x2 := (nR.c 0 2)
   refine bodyPost_ret (v := .tuple #[.agg #[.int .i64 0, .int .i64 0, .slice none 0 0], .int .i64 4]) (by simp [results, results80, go_sem, x0, x1, x2]) rfl ⟨_, _, _, by rw [H1.out], ?_, nR.bel⟩
   rw [H1.out]; exact ⟨[], xu, by simp, by simp⟩
 have Oy := qH (show ∀ (q : Nat) (h : q < cs.length), q < k + 1 → kN size (lC (size, rs) cs[q]) = true from fun q h hq => by
  rcases Nat.lt_or_ge q k with h1 | h1
  · exact ams.out q h h1
  · obtain rfl : q = k := by omega
    rw [HCK.out, HAE.out, UJ])
 obtain ⟨N, hN, Tj, hEF, hE4, hEO⟩ := GL KD.out Ti.out UJ
 have hlp := MG UJ
 obtain ⟨A, rfl⟩ : ∃ A : Nat, ar = (A : Int) := ⟨ar.toNat, by omega⟩
 simp only at hEF hEO Tj hE4 hlp
 rw [Int.toNat_natCast] at hEF hEO Tj hE4
 have HOC := qH (fun W h => aek size A tl (.slice arx tl.length crx) N W h (lH KD.out) (by omega) hN Tj hlp HTU.out)
 generalize jO size A tl N = E at *
 have Oh := qH (show fK (size, rs) V cs (k + 1) = fK (size, rs) V cs k ++ E.map (vX size V sc) by rw [Oh.out, HCE.out, hEF])
 have HEO := qH hEO
 have hIA : I64 (A : Int) := jf _ (by omega) (by omega)
 clear UJ hEF hEO Tj hlp
 go_upto_region 10 with fail
 go_cut [9] from 60 to 73 (fun x9 wx => ∃ (gO : Nat) (a9 : Option Addr) (c9 : Nat), x9 = .pointer (some ⟨gO, 0, none⟩) ∧ Hid (St w wx.heap.size wx [(w.heap.size, #[.int .i64 0, .int .i64 0, .slice none 0 0], 61), (g, #[.int .i64 size, .int .i64 V, .slice va (fK (size, rs) V cs k).length vc], 61), (gO, #[.int .i64 size, .int .i64 A, .slice a9 E.length c9], 61)]) ∧ Hid (Ip (fun z => wK.heap.size ≤ z ∧ z ≠ gO ∧ z < wx.heap.size) wx [.slice a9 E.length c9] E) ∧ Hid (Below wK.heap.size wK wx ∧ wK.heap.size ≤ gO ∧ gO < wx.heap.size))
 case first =>
  refine iT (fun w' => cI w' w.heap.size 0 0 ∧ cI w' w.heap.size 1 0 ∧ cV w' w.heap.size 2 (.slice none 0 0) ∧ cI w' g 0 size ∧ cI w' g 1 V ∧ cV w' g 2 (.slice va (fK (size, rs) V cs k).length vc) ∧ cI w' tb 0 size ∧ cV w' tb 1 (.slice (some ⟨br, Bq, none⟩) rs.length ct0) ∧ cI w' xb 0 V ∧ cV w' xb 1 (.slice (some ⟨bc, oc, none⟩) cs.length cx) ∧ cI w' bc (oc + k * 2) n ∧ cV w' bc (oc + k * 2 + 1) (.slice Tq sc.length OI) ∧ cI w' br (Bq + n * 2) (A : Int) ∧ cV w' br (Bq + n * 2 + 1) (.slice arx tl.length crx)) (.z [0,1,2,3,4,5,6,7,8,9,10,11] (.mF 12 (.hard 13 (.last 14 .nil)) 13 (.hard 12 (.last 14 .nil)))) ?_ ?_
  · exact (kD.drew).d6 0 0 0 1 0 2 1 0 1 1 1 2 (sN (kD.drew).bel jr jD xc0 gJ vk qc1 vw vC:)
  have Ez := kD.drew
  have EH := qH (OW.out.trans (((belowD _)).mono OW.out.size))
  clear OW
  clear aF aH ig aJ aK jB bU cO bg bI mQ mV mW mX
  have aez : Xk.heap.size ≤ (Xk.drew).heap.size := by simp
  generalize Xk.drew = xB at *
  refine aV ?_
  refine zH ?_ ?_
  · refine gX fun K hK => ?_
    go_wp2_with (go_at_call 141; refine (HOC.out _ (Rd.mono U0.out Ez.bel)).mono ?_; rintro e ML ⟨a9, n9, c9, rfl, jG, rfl, abj⟩)
    have arP : xB.heap.size ≤ ML.heap.size := hZ abj
    have yN := Ez.step abj
    have U2 := qH (EH.out.trans ((abj).mono EH.out.size))
    clear EH
    have HEX := qH jG.tight.ip
    clear jG
    refine ⟨(yN.d6 0 0 0 1 0 2 1 0 1 1 1 2 (sN yN.bel jr jD xc0 gJ vk qc1 vw vC:)), ?_⟩
    refine aV ?_
    refine gX fun K hK => ?_
    go_wp2_with fail
    have qV := yN.alloc #[.int .i64 0, .int .i64 0, .slice none 0 0] 61 (n := ML.heap.size) (by simp)
    have abk := qH (U2.out.trans (((aB _ (.cells #[.int .i64 0, .int .i64 0, .slice none 0 0] 61))).mono U2.out.size))
    clear U2
    have abl := qH (Ip.mono HEX.out (aB _ (.cells #[.int .i64 0, .int .i64 0, .slice none 0 0] 61)))
    clear HEX
    have afX : ML.heap.size + 1 ≤ ((ML.alloc (.cells #[.int .i64 0, .int .i64 0, .slice none 0 0] 61))).heap.size := by simp
    generalize (ML.alloc (.cells #[.int .i64 0, .int .i64 0, .slice none 0 0] 61)) = wO at *
    refine ⟨(qV.d6 0 0 0 1 0 2 1 0 1 1 1 2 (sN qV.bel jr jD xc0 gJ vk qc1 vw vC:)), ?_⟩
    refine aV ?_
    refine JY fun K hK => ?_
    obtain ⟨aF, aH, ig, aJ, aK, jB, aW, aY⟩ := qV.c8 0 0 0 1 0 2 1 0 1 1 1 2 2 0 2 1
    have bn := qV.c 2 2
    obtain ⟨bU, cO, bg, bI, mQ, mV, mW, mX⟩ := sN qV.bel jr jD xc0 gJ vk qc1 vw vC
    have UL := qV.aC 2 rfl 0
    have UM := qV.aC 2 rfl 1
    have aa6 := qV.aC 2 rfl 2
    have hgO := (qV.box (ML.heap.size, #[.int .i64 0, .int .i64 0, .slice none 0 0], 61) (by simp)).2.1
    simp only at hgO
    go_wp2_with fail
    refine iF ?_
    have vF := qV.set (p := [_, _]) (by simp <;> omega) 0 (.int .i64 size)
    have xA := vF.set (p := [_, _]) (by simp <;> omega) 1 (.int .i64 A)
    have iY := xA.set (p := [_, _]) (by simp <;> omega) 2 (.slice a9 E.length c9)
    have aio := qH (((abk.out.setCell (p := ⟨ML.heap.size, 0, none⟩) (by (try simp) <;> omega) (.int .i64 size)).setCell (p := ⟨ML.heap.size, 1, none⟩) (by (try simp) <;> omega) (.int .i64 A)).setCell (p := ⟨ML.heap.size, 2, none⟩) (by (try simp) <;> omega) (.slice a9 E.length c9))
    clear abk
    have aip := qH (Ip.setCell (b := ML.heap.size) (o := 2) (Ip.setCell (b := ML.heap.size) (o := 1) (Ip.setCell (b := ML.heap.size) (o := 0) abl.out (.int .i64 size) (by intro jG; (try simp only at jG); omega)) (.int .i64 A) (by intro jG; (try simp only at jG); omega)) (.slice a9 E.length c9) (by intro jG; (try simp only at jG); omega))
    clear abl
    clear aF aH ig aJ aK jB aW aY bn bU cO bg bI mQ mV mW mX
    have Q5 : wO.heap.size ≤ ((((wO.setCell ⟨ML.heap.size, 0, none⟩ (.int .i64 size)).setCell ⟨ML.heap.size, 1, none⟩ (.int .i64 A)).setCell ⟨ML.heap.size, 2, none⟩ (.slice a9 E.length c9))).heap.size := by simp [World.setCell]
    generalize (((wO.setCell ⟨ML.heap.size, 0, none⟩ (.int .i64 size)).setCell ⟨ML.heap.size, 1, none⟩ (.int .i64 A)).setCell ⟨ML.heap.size, 2, none⟩ (.slice a9 E.length c9)) = wP at *
    obtain ⟨aF, aH, ig, aJ, aK, jB, aW, aY⟩ := iY.c8 0 0 0 1 0 2 1 0 1 1 1 2 2 0 2 1
    have bn := iY.c 2 2
    obtain ⟨bU, cO, bg, bI, mQ, mV, mW, mX⟩ := sN iY.bel jr jD xc0 gJ vk qc1 vw vC
    go_wp2_with fail
    go_meet
    refine ⟨ML.heap.size, a9, c9, rfl, (iY.up iY.hi (Nat.le_refl _)).sub (fun x hx => ?_), (aip.out).wk (fun z hz => ?_), aio.out, by omega, by omega⟩
    · simp only [List.mem_cons, List.not_mem_nil, or_false] at hx
      rcases hx with rfl | rfl | rfl <;> simp
    (try simp only at hz); omega
  refine gX fun K hK => ?_
  go_wp2_with fail
  have l7 := Ez.alloc #[.int .i64 0, .int .i64 0, .slice none 0 0] 61 (n := xB.heap.size) (by simp)
  have U3 := qH (EH.out.trans (((aB _ (.cells #[.int .i64 0, .int .i64 0, .slice none 0 0] 61))).mono EH.out.size))
  clear EH
  have afX : xB.heap.size + 1 ≤ ((xB.alloc (.cells #[.int .i64 0, .int .i64 0, .slice none 0 0] 61))).heap.size := by simp
  generalize (xB.alloc (.cells #[.int .i64 0, .int .i64 0, .slice none 0 0] 61)) = wO at *
  refine ⟨(l7.d6 0 0 0 1 0 2 1 0 1 1 1 2 (sN l7.bel jr jD xc0 gJ vk qc1 vw vC:)), ?_⟩
  refine aV ?_
  refine gX fun K hK => ?_
  go_wp2_with (go_at_call 141; refine (HOC.out _ (Rd.mono U0.out l7.bel)).mono ?_; rintro e w40 ⟨a9, n9, c9, rfl, jG, rfl, MN⟩)
  have air : wO.heap.size ≤ w40.heap.size := hZ MN
  have mY := l7.step MN
  have abm := qH (U3.out.trans ((MN).mono U3.out.size))
  clear U3
  have HEX := qH jG.tight.ip
  clear jG
  refine ⟨(mY.d6 0 0 0 1 0 2 1 0 1 1 1 2 (sN mY.bel jr jD xc0 gJ vk qc1 vw vC:)), ?_⟩
  refine aV ?_
  refine JY fun K hK => ?_
  obtain ⟨aF, aH, ig, aJ, aK, jB, aW, aY⟩ := mY.c8 0 0 0 1 0 2 1 0 1 1 1 2 2 0 2 1
  have bn := mY.c 2 2
  obtain ⟨bU, cO, bg, bI, mQ, mV, mW, mX⟩ := sN mY.bel jr jD xc0 gJ vk qc1 vw vC
  have UL := mY.aC 2 rfl 0
  have UM := mY.aC 2 rfl 1
  have aa6 := mY.aC 2 rfl 2
  have hgO := (mY.box (xB.heap.size, #[.int .i64 0, .int .i64 0, .slice none 0 0], 61) (by simp)).2.1
  simp only at hgO
  go_wp2_with fail
  refine iF ?_
  have pV := mY.set (p := [_, _]) (by simp <;> omega) 0 (.int .i64 size)
  have wQ := pV.set (p := [_, _]) (by simp <;> omega) 1 (.int .i64 A)
  have A8 := wQ.set (p := [_, _]) (by simp <;> omega) 2 (.slice a9 E.length c9)
  have ais := qH (((abm.out.setCell (p := ⟨xB.heap.size, 0, none⟩) (by (try simp) <;> omega) (.int .i64 size)).setCell (p := ⟨xB.heap.size, 1, none⟩) (by (try simp) <;> omega) (.int .i64 A)).setCell (p := ⟨xB.heap.size, 2, none⟩) (by (try simp) <;> omega) (.slice a9 E.length c9))
  clear abm
  have ait := qH (Ip.setCell (b := xB.heap.size) (o := 2) (Ip.setCell (b := xB.heap.size) (o := 1) (Ip.setCell (b := xB.heap.size) (o := 0) HEX.out (.int .i64 size) (by intro jG; (try simp only at jG); omega)) (.int .i64 A) (by intro jG; (try simp only at jG); omega)) (.slice a9 E.length c9) (by intro jG; (try simp only at jG); omega))
  clear HEX
  clear aF aH ig aJ aK jB aW aY bn bU cO bg bI mQ mV mW mX
  have Q5 : w40.heap.size ≤ ((((w40.setCell ⟨xB.heap.size, 0, none⟩ (.int .i64 size)).setCell ⟨xB.heap.size, 1, none⟩ (.int .i64 A)).setCell ⟨xB.heap.size, 2, none⟩ (.slice a9 E.length c9))).heap.size := by simp [World.setCell]
  generalize (((w40.setCell ⟨xB.heap.size, 0, none⟩ (.int .i64 size)).setCell ⟨xB.heap.size, 1, none⟩ (.int .i64 A)).setCell ⟨xB.heap.size, 2, none⟩ (.slice a9 E.length c9)) = wP at *
  obtain ⟨aF, aH, ig, aJ, aK, jB, aW, aY⟩ := A8.c8 0 0 0 1 0 2 1 0 1 1 1 2 2 0 2 1
  have bn := A8.c 2 2
  obtain ⟨bU, cO, bg, bI, mQ, mV, mW, mX⟩ := sN A8.bel jr jD xc0 gJ vk qc1 vw vC
  go_wp2_with fail
  go_meet
  refine ⟨xB.heap.size, a9, c9, rfl, (A8.up A8.hi (Nat.le_refl _)).sub (fun x hx => ?_), (ait.out).wk (fun z hz => ?_), ais.out, by omega, by omega⟩
  · simp only [List.mem_cons, List.not_mem_nil, or_false] at hx
    rcases hx with rfl | rfl | rfl <;> simp
  (try simp only at hz); omega
 obtain ⟨gO, a9, c9, rfl, abn, hEB, hxB⟩ := hcut
 obtain ⟨wB, rfl⟩ : ∃ x, x = wc := ⟨_, rfl⟩
 obtain ⟨hbB, ax9, aya⟩ := hxB.out
 have ayb := hbB.size
 have HAB := qH ((hac.out.mono hbB).wk (C := fun z => w.heap.size + 1 ≤ z ∧ z ≠ g ∧ (z < wK.heap.size ∨ wB.heap.size ≤ z) ∧ z < wB.heap.size) (fun z hz => by (try simp only at hz); omega))
 clear OW
 obtain ⟨aF, aH, ig, aJ, aK, jB, aW, aY⟩ := abn.out.c8 0 0 0 1 0 2 1 0 1 1 1 2 2 0 2 1
 have bn := abn.out.c 2 2
 obtain ⟨bU, cO, bg, bI, mQ, mV, mW, mX⟩ := sN abn.out.bel jr jD xc0 gJ vk qc1 vw vC
 clear hbB
 go_wp2_with fail
 go_loopw [10] (fun jv wl => ∃ (j : Nat) (va : Option Addr) (vc : Nat), j ≤ E.length ∧ jv = .int .i64 j ∧ Hid (St w wB.heap.size wl [(w.heap.size, #[.int .i64 0, .int .i64 0, .slice none 0 0], 61), (g, #[.int .i64 size, .int .i64 V, .slice va (gW (size, rs) V cs k sc E j).length vc], 61), (gO, #[.int .i64 size, .int .i64 A, .slice a9 E.length c9], 61)]) ∧ Hid (bM (fun z => w.heap.size + 1 ≤ z ∧ z ≠ g ∧ (z < wK.heap.size ∨ wB.heap.size ≤ z) ∧ z < wl.heap.size) 200 wl (.slice va (gW (size, rs) V cs k sc E j).length vc) (gW (size, rs) V cs k sc E j)) ∧ Hid (Ip (fun z => wK.heap.size ≤ z ∧ z ≠ gO ∧ z < wB.heap.size) wl [.slice a9 E.length c9] E)) (fun jv _ => E.length - (intOf jv).toNat)
 case atStart => exact ⟨0, va, vc, Nat.zero_le _, rfl, by rw [yR]; exact abn.out, by rw [yR]; exact HAB.out, hEB.out⟩
 clear HAB hEB abn
 obtain ⟨j, vb, vd, hj, rfl, hst2, UO, hE2⟩ := hrel
 obtain ⟨wJ, rfl⟩ : ∃ x, x = wr := ⟨_, rfl⟩
 have hs4 := hst2.out
 have hlo2 := hs4.hi
 have arz : (gW (size, rs) V cs k sc E j).length ≤ 200 := by
  have h1 := EG (t := (size, rs)) (V := V) (cs := cs.take k) KD.out (fun c hc => by
   obtain ⟨q, hq, rfl⟩ := List.getElem_of_mem hc
   rw [List.length_take] at hq
   rw [List.getElem_take]
   exact ⟨(Xz.out _ (List.getElem_mem _)).1, Oy.out q (by omega) (by omega)⟩) (cs.take k).length (Nat.le_refl _)
  have h2 : fK (size, rs) V (cs.take k) (cs.take k).length = fK (size, rs) V cs k := by unfold fK; rw [List.take_length]
  rw [h2, List.length_take] at h1
  unfold gW
  rw [List.length_append, List.length_take, List.length_map]
  omega
 obtain ⟨aF, aH, ig, aJ, aK, jB, aW, aY⟩ := hs4.c8 0 0 0 1 0 2 1 0 1 1 1 2 2 0 2 1
 have bn := hs4.c 2 2
 obtain ⟨bU, cO, bg, bI, mQ, mV, mW, mX⟩ := sN hs4.bel jr jD xc0 gJ vk qc1 vw vC
 by_cases hlt2 : j < E.length
 rotate_left
 · have hje : j = E.length := by omega
   have hnj : ¬ ((j : Int) < E.length) := by omega
   have AO := qH (show gW (size, rs) V cs k sc E j = fK (size, rs) V cs (k + 1) by rw [hje, Oh.out, MI])
   clear hje
   have ah4 := UO
   have arR := hs4.low (B' := w1.heap.size) (bx' := [(w.heap.size, #[.int .i64 0, .int .i64 0, .slice none 0 0], 61), (g, #[.int .i64 size, .int .i64 V, .slice vb (gW (size, rs) V cs k sc E j).length vd], 61)]) (by omega) (by (try simp) <;> omega) (fun x hx => by simp only [List.mem_cons, List.not_mem_nil, or_false] at hx; rcases hx with rfl | rfl <;> (refine ⟨?_, ?_⟩ <;> (try simp) <;> (try omega)))
   go_wp2_with fail
   go_roundw
   case rel =>
    refine ⟨k + 1, vb, vd, hlt, by go_num, ?_, ?_, Oy.out⟩
    · rw [← AO.out]; exact arR
    rw [← AO.out]; exact ah4.out.wk (fun z hz => ⟨hz.1, hz.2.1, hz.2.2.2⟩)
   simp [intOf]; omega
 have hjI : (j : Int) < E.length := by omega
 obtain ⟨be, oe, ee⟩ : ∃ be oe, a9 = some ⟨be, oe, none⟩ := (dL rfl hE2.out.rd j hlt2).elim (fun be h => h.elim (fun oe h => h.elim (fun _ h => h.elim (fun _ h => ⟨be, oe, h.1⟩))))
 subst ee
 obtain ⟨v0, v1, qe0, qe1, UQ⟩ := aa1 rfl hE2.out j hlt2
 have hbe := World.block_lt_of_cell? wJ _ qe0
 simp only at hbe
 have aa8 := HEO.out _ (List.getElem_mem hlt2)
 have hTK := Jm (t := (size, rs)) (V := V) (cs := cs) (k := k) (sc := sc) hlt2
 generalize E[j] = EJ at *
 obtain ⟨L, R⟩ := EJ
 have ze := au rfl UQ.rd
 obtain ⟨rfl, hIR⟩ := aG ze.2
 obtain ⟨aL, cL, rfl, _⟩ := ah ze.1
 have HLI := qH (aa2 rfl UQ)
 have J4 := qH (show gW (size, rs) V cs k sc E (j + 1) = gW (size, rs) V cs k sc E j ++ [(dG size V sc L sc.length, R)] from hTK)
 have FC := qH (nV (U := A) aa8)
 have UR := UO
 have HE2 := hE2
 clear ze UQ aa8 hTK UO hE2
 have qh := qH (Below.refl wJ.heap.size wJ)
 go_upto_region 14 with fail
 go_cut [11] from 81 to 92 (fun x11 wx => ∃ gE gM : Nat, x11 = .pointer (some ⟨gE, 0, none⟩) ∧ Hid (St w wx.heap.size wx [(w.heap.size, #[.int .i64 0, .int .i64 0, .slice none 0 0], 61), (g, #[.int .i64 size, .int .i64 V, .slice vb (gW (size, rs) V cs k sc E j).length vd], 61), (gO, #[.int .i64 size, .int .i64 A, .slice (some ⟨be, oe, none⟩) E.length c9], 61), (gE, #[.slice (some ⟨gM, 0, none⟩) V V, .int .i64 R], 200)]) ∧ Hid (bY [gM] wx (.slice (some ⟨gM, 0, none⟩) V V) (List.replicate V (0 : Int))) ∧ Hid (Below wJ.heap.size wJ wx ∧ gE ≠ gM ∧ wJ.heap.size ≤ gE ∧ wJ.heap.size ≤ gM ∧ gE < wx.heap.size ∧ gM < wx.heap.size))
 case first =>
  refine iT (fun w' => cI w' w.heap.size 0 0 ∧ cI w' w.heap.size 1 0 ∧ cV w' w.heap.size 2 (.slice none 0 0) ∧ cI w' g 0 size ∧ cI w' g 1 V ∧ cV w' g 2 (.slice vb (gW (size, rs) V cs k sc E j).length vd) ∧ cI w' gO 0 size ∧ cI w' gO 1 A ∧ cV w' gO 2 (.slice (some ⟨be, oe, none⟩) E.length c9) ∧ cI w' tb 0 size ∧ cV w' tb 1 (.slice (some ⟨br, Bq, none⟩) rs.length ct0) ∧ cI w' xb 0 V ∧ cV w' xb 1 (.slice (some ⟨bc, oc, none⟩) cs.length cx) ∧ cI w' bc (oc + k * 2) n ∧ cV w' bc (oc + k * 2 + 1) (.slice Tq sc.length OI) ∧ cI w' br (Bq + n * 2) (A : Int) ∧ cV w' br (Bq + n * 2 + 1) (.slice arx tl.length crx) ∧ cV w' be (oe + j * 2) (.slice aL L.length cL) ∧ cI w' be (oe + j * 2 + 1) R) (.z [0,1,2,3,5,6,7,8,9,10] (.mF 4 (.float 11 (.hard 12 (.last 13 .nil))) 12 (.hard 4 (.float 11 (.last 13 .nil))))) ?_ ?_
  · exact ⟨(hs4.drew).c 0 0, (hs4.drew).c 0 1, (hs4.drew).c 0 2, (hs4.drew).c 1 0, (hs4.drew).c 1 1, (hs4.drew).c 1 2, (hs4.drew).c 2 0, (hs4.drew).c 2 1, (hs4.drew).c 2 2, qC (hs4.drew).bel jr, qC (hs4.drew).bel jD, qC (hs4.drew).bel xc0, qC (hs4.drew).bel gJ, qC (hs4.drew).bel vk, qC (hs4.drew).bel qc1, qC (hs4.drew).bel vw, qC (hs4.drew).bel vC, qC (belowD _) qe0, qC (belowD _) qe1⟩
  have xC := hs4.drew
  have OX := qC (belowD _) qe0
  clear qe0
  have OY := qC (belowD _) qe1
  clear qe1
  have GZ := qH (bM.mono UR.out (belowD _))
  clear UR
  have OZ := qH (Ip.mono HE2.out (belowD _))
  clear HE2
  have O1 := qH (Ip.mono HLI.out (belowD _))
  clear HLI
  have EI := qH (qh.out.trans (((belowD _)).mono qh.out.size))
  clear qh
  clear aF aH ig aJ aK jB aW aY bn bU cO bg bI mQ mV mW mX
  have aoE : wJ.heap.size ≤ (wJ.drew).heap.size := by simp
  generalize wJ.drew = Ba at *
  refine aV ?_
  refine zH ?_ ?_
  · refine gX fun K hK => ?_
    refine jA _ _ _ 28 rfl eH (0 : Int) iL V (by omega) rfl rfl ?_
    intro wM jF uM hzM
    have YX : Hid (bY [Ba.heap.size] wM (.slice (some ⟨Ba.heap.size, 0, none⟩) V V) (List.replicate V (0 : Int))) := qH (by simpa using jF)
    have hgM : Ba.heap.size < wM.heap.size := by rw [hzM]; simp
    clear jF hzM
    have W9 : Ba.heap.size ≤ wM.heap.size := hZ uM
    have rX := xC.step uM
    have U4 := qC uM OX
    clear OX
    have U5 := qC uM OY
    clear OY
    have aeA := qH (bM.mono GZ.out uM)
    clear GZ
    have aiu := qH (Ip.mono OZ.out uM)
    clear OZ
    have aiv := qH (Ip.mono O1.out uM)
    clear O1
    have U6 := qH (EI.out.trans ((uM).mono EI.out.size))
    clear EI
    refine hK _ _ ⟨⟨rX.c 0 0, rX.c 0 1, rX.c 0 2, rX.c 1 0, rX.c 1 1, rX.c 1 2, rX.c 2 0, rX.c 2 1, rX.c 2 2, qC rX.bel jr, qC rX.bel jD, qC rX.bel xc0, qC rX.bel gJ, qC rX.bel vk, qC rX.bel qc1, qC rX.bel vw, qC rX.bel vC, U4, U5⟩, ?_⟩
    refine aV ?_
    refine gX fun K hK => ?_
    go_wp2_with fail
    have hs63 := rX.alloc #[.slice none 0 0, .int .i64 0] 200 (n := wM.heap.size) (by simp)
    have aiw := qC (aB _ (.cells #[.slice none 0 0, .int .i64 0] 200)) U4
    clear U4
    have aix := qC (aB _ (.cells #[.slice none 0 0, .int .i64 0] 200)) U5
    clear U5
    clear aeA
    clear aiu
    clear aiv
    have aiy := qH (U6.out.trans (((aB _ (.cells #[.slice none 0 0, .int .i64 0] 200))).mono U6.out.size))
    clear U6
    have aiz := qH (bK YX.out (aB _ (.cells #[.slice none 0 0, .int .i64 0] 200)))
    clear YX
    have abh : wM.heap.size + 1 ≤ ((wM.alloc (.cells #[.slice none 0 0, .int .i64 0] 200))).heap.size := by simp
    generalize (wM.alloc (.cells #[.slice none 0 0, .int .i64 0] 200)) = wG at *
    refine ⟨⟨hs63.c 0 0, hs63.c 0 1, hs63.c 0 2, hs63.c 1 0, hs63.c 1 1, hs63.c 1 2, hs63.c 2 0, hs63.c 2 1, hs63.c 2 2, qC hs63.bel jr, qC hs63.bel jD, qC hs63.bel xc0, qC hs63.bel gJ, qC hs63.bel vk, qC hs63.bel qc1, qC hs63.bel vw, qC hs63.bel vC, aiw, aix⟩, ?_⟩
    refine aV ?_
    refine JY fun K hK => ?_
    obtain ⟨aF, aH, ig, aJ, aK, jB, aW, aY⟩ := hs63.c8 0 0 0 1 0 2 1 0 1 1 1 2 2 0 2 1
    obtain ⟨bn, dM, fF⟩ := hs63.c3 2 2 3 0 3 1
    obtain ⟨bU, cO, bg, bI, mQ, mV, mW, mX⟩ := sN hs63.bel jr jD xc0 gJ vk qc1 vw vC
    have f0 := (hs63.aC 3 rfl 0)
    have f1 := (hs63.aC 3 rfl 1)
    have PS := (hs63.box (wM.heap.size, #[.slice none 0 0, .int .i64 0], 200) (by simp)).2.1
    simp only at PS
    have hq := (hs63.set (p := [_, _, _]) (by simp <;> omega) 0 (.slice (some ⟨Ba.heap.size, 0, none⟩) V V)).set (p := [_, _, _]) (by simp <;> omega) 1 (.int .i64 R)
    go_wp2_with fail
    refine iF ?_
    go_wp2_with fail
    go_meet
    have ho := ((aP.refl [wM.heap.size] wG).setCell (p := ⟨wM.heap.size, 0, none⟩) (by simp) (.slice (some ⟨Ba.heap.size, 0, none⟩) V V)).setCell (p := ⟨wM.heap.size, 1, none⟩) (by simp) (.int .i64 R)
    refine ⟨wM.heap.size, Ba.heap.size, rfl, (hq.up hq.hi (Nat.le_refl _)).sub (fun x hx => ?_), dZ aiz.out ho (fun k h1 h2 => by simp at h1 h2; omega), aiy.out.trans (ho.below (by simp; omega)), by omega, by omega, by omega, by rw [ho.size]; omega, by rw [ho.size]; omega⟩
    simp only [List.mem_cons, List.not_mem_nil, or_false] at hx
    rcases hx with rfl | rfl | rfl | rfl <;> simp
  refine gX fun K hK => ?_
  go_wp2_with fail
  have uP := xC.alloc #[.slice none 0 0, .int .i64 0] 200 (n := Ba.heap.size) (by simp)
  have U7 := qC (aB _ (.cells #[.slice none 0 0, .int .i64 0] 200)) OX
  clear OX
  have U8 := qC (aB _ (.cells #[.slice none 0 0, .int .i64 0] 200)) OY
  clear OY
  have aeB := qH (bM.mono GZ.out (aB _ (.cells #[.slice none 0 0, .int .i64 0] 200)))
  clear GZ
  have aiA := qH (Ip.mono OZ.out (aB _ (.cells #[.slice none 0 0, .int .i64 0] 200)))
  clear OZ
  have aiB := qH (Ip.mono O1.out (aB _ (.cells #[.slice none 0 0, .int .i64 0] 200)))
  clear O1
  have U9 := qH (EI.out.trans (((aB _ (.cells #[.slice none 0 0, .int .i64 0] 200))).mono EI.out.size))
  clear EI
  have abh : Ba.heap.size + 1 ≤ ((Ba.alloc (.cells #[.slice none 0 0, .int .i64 0] 200))).heap.size := by simp
  generalize (Ba.alloc (.cells #[.slice none 0 0, .int .i64 0] 200)) = wG at *
  refine ⟨⟨uP.c 0 0, uP.c 0 1, uP.c 0 2, uP.c 1 0, uP.c 1 1, uP.c 1 2, uP.c 2 0, uP.c 2 1, uP.c 2 2, qC uP.bel jr, qC uP.bel jD, qC uP.bel xc0, qC uP.bel gJ, qC uP.bel vk, qC uP.bel qc1, qC uP.bel vw, qC uP.bel vC, U7, U8⟩, ?_⟩
  refine aV ?_
  refine gX fun K hK => ?_
  refine jA _ _ _ 28 rfl eH (0 : Int) iL V (by omega) rfl rfl ?_
  intro wM jF uM hzM
  have YX : Hid (bY [wG.heap.size] wM (.slice (some ⟨wG.heap.size, 0, none⟩) V V) (List.replicate V (0 : Int))) := qH (by simpa using jF)
  have hgM : wG.heap.size < wM.heap.size := by rw [hzM]; simp
  clear jF hzM
  have W9 : wG.heap.size ≤ wM.heap.size := hZ uM
  have o8 := uP.step uM
  have aiC := qC uM U7
  clear U7
  have aiD := qC uM U8
  clear U8
  clear aeB
  clear aiA
  clear aiB
  have aiE := qH (U9.out.trans ((uM).mono U9.out.size))
  clear U9
  refine hK _ _ ⟨⟨o8.c 0 0, o8.c 0 1, o8.c 0 2, o8.c 1 0, o8.c 1 1, o8.c 1 2, o8.c 2 0, o8.c 2 1, o8.c 2 2, qC o8.bel jr, qC o8.bel jD, qC o8.bel xc0, qC o8.bel gJ, qC o8.bel vk, qC o8.bel qc1, qC o8.bel vw, qC o8.bel vC, aiC, aiD⟩, ?_⟩
  refine aV ?_
  refine JY fun K hK => ?_
  obtain ⟨aF, aH, ig, aJ, aK, jB, aW, aY⟩ := o8.c8 0 0 0 1 0 2 1 0 1 1 1 2 2 0 2 1
  obtain ⟨bn, dM, fF⟩ := o8.c3 2 2 3 0 3 1
  obtain ⟨bU, cO, bg, bI, mQ, mV, mW, mX⟩ := sN o8.bel jr jD xc0 gJ vk qc1 vw vC
  have f0 := (o8.aC 3 rfl 0)
  have f1 := (o8.aC 3 rfl 1)
  have PS := (o8.box (Ba.heap.size, #[.slice none 0 0, .int .i64 0], 200) (by simp)).2.1
  simp only at PS
  have hq := (o8.set (p := [_, _, _]) (by simp <;> omega) 0 (.slice (some ⟨wG.heap.size, 0, none⟩) V V)).set (p := [_, _, _]) (by simp <;> omega) 1 (.int .i64 R)
  go_wp2_with fail
  refine iF ?_
  go_wp2_with fail
  go_meet
  have ho := ((aP.refl [Ba.heap.size] wM).setCell (p := ⟨Ba.heap.size, 0, none⟩) (by simp) (.slice (some ⟨wG.heap.size, 0, none⟩) V V)).setCell (p := ⟨Ba.heap.size, 1, none⟩) (by simp) (.int .i64 R)
  refine ⟨Ba.heap.size, wG.heap.size, rfl, (hq.up hq.hi (Nat.le_refl _)).sub (fun x hx => ?_), dZ YX.out ho (fun k h1 h2 => by simp at h1 h2; omega), aiE.out.trans (ho.below (by simp; omega)), by omega, by omega, by omega, by rw [ho.size]; omega, by rw [ho.size]; omega⟩
  simp only [List.mem_cons, List.not_mem_nil, or_false] at hx
  rcases hx with rfl | rfl | rfl | rfl <;> simp
 obtain ⟨gE, gM, rfl, OT, abd, hxC⟩ := hcut
 obtain ⟨hbC, ahk, hg5, hg6, hg7, hg8⟩ := hxC.out
 have hzC := hbC.size
 have HA3 := qH ((UR.out).mono hbC)
 have YA := qH ((HE2.out).mono hbC)
 have HL3 := qH ((HLI.out).mono hbC)
 have HQE := qH (qC hbC (qe0))
 have HLS := qH (show L.length = sc.length by have h1 : L.length = A := FC.out.1; have h2 : (sc.length : Int) = (A : Int) := Y5.out.1; omega)
 clear UR
 clear HE2
 clear HLI
 clear qh
 clear aF aH ig aJ aK jB aW aY bn bU cO bg bI mQ mV mW mX
 clear qe0
 clear qe1
 obtain ⟨aF, aH, ig, aJ, aK, jB, aW, aY⟩ := OT.out.c8 0 0 0 1 0 2 1 0 1 1 1 2 2 0 2 1
 obtain ⟨bn, dM, fF⟩ := OT.out.c3 2 2 3 0 3 1
 obtain ⟨bU, cO, bg, bI, mQ, mV, mW, mX⟩ := sN OT.out.bel jr jD xc0 gJ vk qc1 vw vC
 have HS3 := qH (show bY [gM] wc (.slice (some ⟨gM, 0, none⟩) V V) (dG size V sc L 0) from abd.out)
 clear hbC
 go_wp2_with fail
 go_loopw [12] (fun iv wl => ∃ i : Nat, i ≤ L.length ∧ iv = .int .i64 i ∧ Hid (But [gM] wc wl) ∧ Hid (bY [gM] wl (.slice (some ⟨gM, 0, none⟩) V V) (dG size V sc L i))) (fun iv _ => L.length - (intOf iv).toNat)
 case atStart => exact ⟨0, Nat.zero_le _, rfl, But.refl _ _, HS3.out⟩
 clear HS3 abd
 obtain ⟨i, hi, rfl, Em, how⟩ := hrel
 have hzT := Em.out.size
 have hs6 := OT.out.sK Em.out (fun k hk => by simp at hk; omega) (fun x hx => by simp only [List.mem_cons, List.not_mem_nil, or_false] at hx ⊢; rcases hx with rfl | rfl | rfl | rfl <;> (try simp only) <;> omega)
 have hbP := Em.out.lU (A := fun z => z = gM) (fun k hk => by simpa using hk)
 have qe2 := alf hbP HQE.out (fun h => by omega)
 obtain ⟨aF, aH, ig, aJ, aK, jB, aW, aY⟩ := hs6.c8 0 0 0 1 0 2 1 0 1 1 1 2 2 0 2 1
 obtain ⟨bn, dM, fF⟩ := hs6.c3 2 2 3 0 3 1
 obtain ⟨bU, cO, bg, bI, mQ, mV, mW, mX⟩ := sN hs6.bel jr jD xc0 gJ vk qc1 vw vC
 by_cases hlt3 : i < L.length
 rotate_left
 · have hil : i = L.length := by omega
   have hnl : ¬ ((i : Int) < L.length) := by omega
   have amx : bY [gM] wr (.slice (some ⟨gM, 0, none⟩) V V) (dG size V sc L sc.length) := by rw [← HLS.out, ← hil]; exact how.out
   clear hil
   have HA4 := qH (HA3.out.lU hbP (fun k h1 h2 => by (try simp only at h1 h2); omega))
   have HE4 := qH (YA.out.lU hbP (fun k h1 h2 => by (try simp only at h1 h2); omega))
   have HKE := qH (show Ip (fun z => z = gM) wr [.slice (some ⟨gM, 0, none⟩) V V, .int .i64 R] ((dG size V sc L sc.length, R) : nG) from vO (A := fun z => z = gM) (B := fun _ => False) ⟨[gM], ⟨_, rfl, amx⟩, by simp, fun k hk => by simpa using hk⟩ ⟨[], ⟨rfl, rfl, hIR⟩, by simp, by simp⟩ (fun k _ h => h) (fun k h => h) (fun k h => h.elim))
   have q9 := (hs6.c 3 0)
   have q10 := (hs6.c 3 1)
   have q11 := (hs6.c 1 2)
   have q12 := (hs6.c 2 2)
   have q13 := qe2
   clear aF aH ig aJ aK jB aW aY bn dM fF bU cO bg bI mQ mV mW mX
   clear qe2
   have arS := hs6.low (B' := wB.heap.size) (bx' := [(w.heap.size, #[.int .i64 0, .int .i64 0, .slice none 0 0], 61), (g, #[.int .i64 size, .int .i64 V, .slice vb (gW (size, rs) V cs k sc E j).length vd], 61), (gO, #[.int .i64 size, .int .i64 A, .slice (some ⟨be, oe, none⟩) E.length c9], 61)]) (by omega) (by (try simp) <;> omega) (fun x hx => by simp only [List.mem_cons, List.not_mem_nil, or_false] at hx; rcases hx with rfl | rfl | rfl <;> (refine ⟨?_, ?_⟩ <;> (try simp) <;> (try omega)))
   have zA := aB wr (.cells #[.slice (some ⟨gM, 0, none⟩) V V, .int .i64 R] 200)
   have xw := qH (arS.step zA)
   have abe := J4
   clear hbP amx how
   go_wp2_with (at_builtin; refine bW _ rfl _ _ _ rfl BA rfl (bM.mono HA4.out (aB _ _)) (Ip.mono HKE.out (aB _ _)) (fun z h1 h2 => by (try simp only at h1 h2); omega) ⟨wr.heap.size, 0, none⟩ 1 rfl (E8 (aA (heap_alloc_new _ _)) (aA (heap_alloc_new _ _))) (by omega) ?_; intro a7 c7 w7 Z8 Oe; have hs8 := xw.out.lU Oe (fun z hz => by have := hz.1; omega) (fun x hx hA => by have h1 := hA.1; have h2 := hA.2.1; have h3 := hA.2.2; simp only [List.mem_cons, List.not_mem_nil, or_false] at hx; rcases hx with rfl | rfl | rfl <;> (try simp only at h1 h2 h3) <;> omega); have q2 := hs8.c 1 2; have f2 := hs8.aC 1 rfl 2)
   have hz7 := Oe.size
   have Y3 : wr.heap.size < w7.heap.size := by (try simp at hz7); omega
   have HA8 := qH ((bM.setCell (b := g) (o := 2) Z8.tight (.slice a7 ((gW (size, rs) V cs k sc E j).length + 1) c7) (by intro jG; (try simp at jG); omega)).wk (C := fun z => w.heap.size + 1 ≤ z ∧ z ≠ g ∧ (z < wK.heap.size ∨ wB.heap.size ≤ z) ∧ z < w7.heap.size) (fun z hz => by
    have h2 := hz.2
    rcases hz.1 with h | h | h
    · (try simp only at h); omega
    · (try simp only at h); omega
    · simp at h; omega))
   have HE8 := qH (Ip.setCell (b := g) (o := 2) ((HE4.out.mono zA).lU Oe (fun k h1 h2 => by (try simp only at h1 h2); omega)) (.slice a7 ((gW (size, rs) V cs k sc E j).length + 1) c7) (by intro jG; (try simp only at jG); omega))
   have HQ8 := qH (hs8.set (p := [_]) (by simp <;> omega) 2 (.slice a7 ((gW (size, rs) V cs k sc E j).length + 1) c7))
   have HSZ := qH (show (w7.setCell ⟨g, 2, none⟩ (.slice a7 ((gW (size, rs) V cs k sc E j).length + 1) c7)).heap.size = w7.heap.size by simp [World.setCell])
   go_wp2_with fail
   go_roundw
   case measure => simp [intOf]; omega
   refine ⟨j + 1, a7, c7, hlt2, by go_num, ?_, ?_, HE8.out⟩
   · rw [abe.out, List.length_append]; exact HQ8.out
   rw [abe.out, List.length_append]; exact HA8.out.wk (fun z hz => by rw [HSZ.out]; exact hz)
 have hiI : (i : Int) < L.length := by omega
 have aif := Y5.out.1
 have hiS : i < sc.length := by rw [← HLS.out]; exact hlt3
 have ayd : (i : Int) < sc.length := by omega
 have hsb : L.length ≤ 4 := by have := HLS.out; omega
 clear aif
 have hLR := qH (HL3.out.lU hbP (fun k h1 h2 => by (try simp only at h1 h2); omega)).rd
 obtain ⟨bS, oS, eS, qS, _⟩ := aI ((Rd.mono qU.out hs6.bel)) i hiS
 subst eS
 obtain ⟨bL, oL, eL, qL, _⟩ := aI hLR.out i hlt3
 subst eL
 have hv := Y5.out.2 i hiS
 have hA := FC.out.2.1.get i hlt3
 have hSD : sc.getD i 0 = sc[i] := by rw [List.getD, List.getElem?_eq_getElem hiS]; rfl
 have hLD : L.getD i 0 = L[i] := by rw [List.getD, List.getElem?_eq_getElem hlt3]; rfl
 have hss : dG size V sc L (i + 1) = (dG size V sc L i).set (sc.getD i 0).toNat (((dG size V sc L i).getD (sc.getD i 0).toNat 0 + L.getD i 0) % size) := rfl
 rw [hSD, hLD] at hss
 obtain ⟨vn, hvn⟩ : ∃ vn : Nat, sc[i] = (vn : Int) := ⟨sc[i].toNat, by omega⟩
 rw [hvn] at hss qS hv
 rw [Int.toNat_natCast] at hss
 generalize L[i] = AV at *
 have hvV : vn < (dG size V sc L i).length := by rw [yO]; omega
 have hvI : (vn : Int) < V := by omega
 obtain ⟨g', o', c', hv', hps, hcd, hf0, _⟩ := lF how.out vn hvV
 simp only [Value.slice.injEq, Option.some.injEq, Addr.mk.injEq] at hv'
 obtain ⟨⟨rfl, rfl, -⟩, -, rfl⟩ := hv'
 have hO := (yP (show 0 < size by omega) V sc L i).get vn hvV
 have hOD : (dG size V sc L i).getD vn 0 = (dG size V sc L i)[vn] := by rw [List.getD, List.getElem?_eq_getElem hvV]; rfl
 rw [hOD] at hss hcd
 have HSS := qH hss
 generalize (dG size V sc L i)[vn] = OLD at *
 rw [Nat.zero_add] at hcd hf0
 have hw1 : IntKind.i64.wrap (OLD + AV) = OLD + AV := i64_in _ (by omega)
 have hT : (OLD + AV).tmod size = (OLD + AV) % size := Int.tmod_eq_emod_of_nonneg (by omega)
 have hm0 := Int.emod_nonneg (OLD + AV) (show size ≠ 0 by omega)
 have hm1 := Int.emod_lt_of_pos (OLD + AV) (show 0 < size by omega)
 have hp1 : size ≠ 0 := by omega
 have hw2 : IntKind.i64.wrap ((OLD + AV) % size) = (OLD + AV) % size := i64_in _ (by omega)
 have HNI := qH (show I64 ((OLD + AV) % size) from jf _ (by omega) (by omega))
 have HOW := how
 clear hss hSD hLD hOD hO hps how
 go_upto_region 19 with fail
 refine iT (fun w' => cI w' w.heap.size 0 0 ∧ cI w' w.heap.size 1 0 ∧ cV w' w.heap.size 2 (.slice none 0 0) ∧ cI w' g 0 size ∧ cI w' g 1 V ∧ cV w' g 2 (.slice vb (gW (size, rs) V cs k sc E j).length vd) ∧ cI w' gO 0 size ∧ cI w' gO 1 A ∧ cV w' gO 2 (.slice (some ⟨be, oe, none⟩) E.length c9) ∧ cV w' gE 0 (.slice (some ⟨gM, 0, none⟩) V V) ∧ cI w' gE 1 R ∧ cI w' tb 0 size ∧ cV w' tb 1 (.slice (some ⟨br, Bq, none⟩) rs.length ct0) ∧ cI w' xb 0 V ∧ cV w' xb 1 (.slice (some ⟨bc, oc, none⟩) cs.length cx) ∧ cI w' bc (oc + k * 2) n ∧ cV w' bc (oc + k * 2 + 1) (.slice (some ⟨bS, oS, none⟩) sc.length OI) ∧ cI w' br (Bq + n * 2) (A : Int) ∧ cV w' br (Bq + n * 2 + 1) (.slice arx tl.length crx) ∧ cV w' be (oe + j * 2) (.slice (some ⟨bL, oL, none⟩) L.length cL) ∧ cI w' bS (oS + i) vn ∧ cI w' bL (oL + i) AV ∧ cI w' gM vn OLD) (.z [0,1,2,3,4,5,6,7,8,9,10,11,12,13,14,15,16,17,18,19,20,21,22,23] (.last 24 .nil)) ?_ ?_
 · exact ⟨(hs6.drew).c 0 0, (hs6.drew).c 0 1, (hs6.drew).c 0 2, (hs6.drew).c 1 0, (hs6.drew).c 1 1, (hs6.drew).c 1 2, (hs6.drew).c 2 0, (hs6.drew).c 2 1, (hs6.drew).c 2 2, (hs6.drew).c 3 0, (hs6.drew).c 3 1, qC (hs6.drew).bel jr, qC (hs6.drew).bel jD, qC (hs6.drew).bel xc0, qC (hs6.drew).bel gJ, qC (hs6.drew).bel vk, qC (hs6.drew).bel qc1, qC (hs6.drew).bel vw, qC (hs6.drew).bel vC, qC (belowD _) qe2, qC (belowD _) qS, qC (belowD _) qL, qC (belowD _) hcd⟩
 have aiF := hs6.drew
 have arU := qC (belowD _) qe2
 clear qe2
 have avi := qC (belowD _) qS
 clear qS
 have avj := qC (belowD _) qL
 clear qL
 have arV := qC (belowD _) hcd
 clear hcd
 have aiG := qH (bK HOW.out (belowD _))
 clear HOW
 clear aF aH ig aJ aK jB aW aY bn dM fF bU cO bg bI mQ mV mW mX
 have aoF : wr.heap.size ≤ (wr.drew).heap.size := by simp
 generalize MO : wr.drew = amy at *
 have aeC := qH MO
 clear MO
 refine aV ?_
 refine JY fun K hK => ?_
 obtain ⟨aF, aH, ig, aJ, aK, jB, aW, aY⟩ := aiF.c8 0 0 0 1 0 2 1 0 1 1 1 2 2 0 2 1
 obtain ⟨bn, dM, fF⟩ := aiF.c3 2 2 3 0 3 1
 obtain ⟨bU, cO, bg, bI, mQ, mV, mW, mX⟩ := sN aiF.bel jr jD xc0 gJ vk qc1 vw vC
 obtain ⟨g', o', c', hv', hps, hcd2, hf2, hset⟩ := lF (aiG.out) vn hvV
 simp only [Value.slice.injEq, Option.some.injEq, Addr.mk.injEq] at hv'
 obtain ⟨⟨rfl, rfl, -⟩, -, rfl⟩ := hv'
 have h9 := hset ((OLD + AV) % size) HNI.out
 rw [Nat.zero_add] at h9 hf2
 rw [← HSS.out] at h9
 have H9 := qH h9
 have HBD := qH (show But [gM] wc amy from by rw [← aeC.out]; exact Em.out.trans (Hq (belowD _)))
 clear h9 hset hcd2 hps hf0
 go_wp2_with fail
 refine iF ?_
 go_wp2_with fail
 go_roundw
 case rel => exact ⟨i + 1, hlt3, by go_num, HBD.out.trans ((aP.refl [gM] amy).setCell (p := ⟨gM, vn, none⟩) (by simp) _).but, H9.out⟩
 simp [intOf]; omega
end Go.Proofs.YtoblfnoaepbhfaaGreat
