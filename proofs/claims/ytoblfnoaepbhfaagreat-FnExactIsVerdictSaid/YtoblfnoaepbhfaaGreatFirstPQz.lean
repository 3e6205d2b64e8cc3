import Derived.Test.YtoblfnoaepbhfaaGreatPairBQz
import Derived.Test.YtoblfnoaepbhfaaGreatFailBQz
set_option linter.unusedSimpArgs false
set_option linter.unusedVariables false
set_option maxHeartbeats 8000000
set_option maxRecDepth 100000
namespace Go.Proofs.YtoblfnoaepbhfaaGreat
open Go.Proofs.Tryz
open Go.RowKit Go.Shelf Go.IntWalk
open Rep (Rd Own sz)
theorem Gp (t : dB) (x : Inst) (i j : Int) (y : List Int) (tb ib jb pb : Nat) (t0 t1 vy : Value) (w : World) (hok : cu t x = true) (ht : Rd w [t0, t1] t) (hy : Rd w [vy] y) (hl : y.length = 2)
 (h0 : w.cell? ⟨tb, 0, none⟩ = some t0) (h1 : w.cell? ⟨tb, 1, none⟩ = some t1) (hi : w.cell? ⟨ib, 0, none⟩ = some (.int .i64 i)) (hj : w.cell? ⟨jb, 0, none⟩ = some (.int .i64 j)) (hp : w.cell? ⟨pb, 0, none⟩ = some vy) :
 L6 251 #[.pointer (some ⟨tb, 0, none⟩), .pointer (some ⟨ib, 0, none⟩), .pointer (some ⟨jb, 0, none⟩), .pointer (some ⟨pb, 0, none⟩)] w x.2 (fun c => !iJ (t.2.getD c.1.toNat (0, [])).2 c.2 i j (y.getD 0 0) (y.getD 1 0)) := by
 intro W c u0 u1 hb hx hmem
 obtain ⟨k, hk, hck⟩ := List.getElem_of_mem hmem
 obtain ⟨n, h2, h3, h4, -, -⟩ := xH hok hk
 rw [hck] at h2 h4
 obtain ⟨g0, g1, gi, gj, gp⟩ := zI hb h0 h1 hi hj hp
 have HT := qH (Rd.mono ht hb)
 have HY := qH (Rd.mono hy hb)
 have Tm := qH h4
 clear h0 h1 hi hj hp ht hy hb hmem hok hck h4 hk
 show Calls prog 251 #[_, .pointer (some ⟨tb, 0, none⟩), .pointer (some ⟨ib, 0, none⟩), .pointer (some ⟨jb, 0, none⟩), .pointer (some ⟨pb, 0, none⟩)] W _
 obtain ⟨size, rs⟩ := t
 obtain ⟨ci, sc⟩ := c
 simp only at h2 h3 Tm
 subst h2
 have HC := qH hx
 have z := au rfl hx
 obtain ⟨rfl, _⟩ := aG z.1
 obtain ⟨a2, c2, rfl, _⟩ := ah z.2
 have zt := au rfl HT.out
 obtain ⟨rfl, _⟩ := aG zt.1
 obtain ⟨at0, ct0, rfl, _⟩ := ah zt.2
 obtain ⟨ay, cy, rfl, _⟩ := ah HY.out
 have hy0 : 0 < y.length := by omega
 have hy1 : 1 < y.length := by omega
 obtain ⟨b1, o1, rfl, q0, _⟩ := aI HY.out 0 hy0
 obtain ⟨b2, o2, e2, q1, _⟩ := aI HY.out 1 hy1
 simp only [Option.some.injEq, Addr.mk.injEq, and_true] at e2
 obtain ⟨rfl, rfl⟩ := e2
 have hyI : (0 : Int) < y.length := by omega
 have hyJ : (1 : Int) < y.length := by omega
 rw [show y.getD 0 0 = y[0] by rw [List.getD, List.getElem?_eq_getElem hy0]; rfl, show y.getD 1 0 = y[1] by rw [List.getD, List.getElem?_eq_getElem hy1]; rfl]
 rw [Nat.add_zero] at q0
 generalize y[0] = Y0 at *
 generalize y[1] = Y1 at *
 simp only [Int.toNat_natCast]
 have FC := qH (show rs.getD n (0, []) = rs[n] by rw [List.getD, List.getElem?_eq_getElem h3]; rfl)
 clear hx z zt hl
 have kH := qC (St.start W).bel g0
 clear kH
 obtain ⟨kH, lg⟩ := iQ (St.start W).bel g0 g1
 clear kH lg
 obtain ⟨kH, lg, gi_⟩ := fQ (St.start W).bel g0 g1 gi
 clear kH lg gi_
 obtain ⟨kH, lg, gi_, zn⟩ := jc (St.start W).bel g0 g1 gi gj
 clear kH lg gi_ zn
 obtain ⟨kH, lg, gi_, zn, CP⟩ := zI (St.start W).bel g0 g1 gi gj gp
 clear kH lg gi_ zn CP
 obtain ⟨kH, lg, gi_, zn, CP, dW⟩ := uZ (St.start W).bel g0 g1 gi gj gp q0
 clear kH lg gi_ zn CP dW
 obtain ⟨kH, lg, gi_, zn, CP, dW, dO⟩ := JX (St.start W).bel g0 g1 gi gj gp q0 q1
 have hs1 := (St.start W).alloc #[.int .i64 n, .slice a2 sc.length c2] 150 (n := W.heap.size) (by simp)
 clear kH lg gi_ zn CP dW dO
 obtain ⟨aF, aH⟩ := hs1.c2 0 0 0 1
 obtain ⟨kH, lg, gi_, zn, CP, dW, dO⟩ := JX hs1.bel g0 g1 gi gj gp q0 q1
 go_enter func251, ntmps251
 go_upto_region 1 with fail
 refine iT (fun w' => cI w' W.heap.size 0 n ∧ cV w' W.heap.size 1 (.slice a2 sc.length c2) ∧ cI w' tb 0 size ∧ cV w' tb 1 (.slice at0 rs.length ct0) ∧ cI w' ib 0 i ∧ cI w' jb 0 j ∧ cV w' pb 0 (.slice (some ⟨b1, o1, none⟩) y.length cy) ∧ cI w' b1 o1 Y0 ∧ cI w' b1 (o1 + 1) Y1) (.z [0,1,2,3,4,5,6,7,8,9] (.hard 10 (.z [11,12] .nil))) ?_ ?_
 · exact (hs1.drew).d2 0 0 0 1 (JX (hs1.drew).bel g0 g1 gi gj gp q0 q1:)
 have hs2 := hs1.drew
 clear aF aH kH lg gi_ zn CP dW dO
 have aa4 : W.heap.size + 1 ≤ ((W.alloc (.cells #[.int .i64 n, .slice a2 sc.length c2] 150)).drew).heap.size := by simp
 generalize (W.alloc (.cells #[.int .i64 n, .slice a2 sc.length c2] 150)).drew = wd3 at *
 refine aV ?_
 refine gX fun K hK => ?_
 go_wp2_with (go_at_call 252; refine (abO ((n : Int), sc) (size, rs) i j Y0 Y1 n _ _ _ _ _ (Rd.mono HC.out hs2.bel) (Rd.mono HT.out hs2.bel) rfl h3 Tm.out).mono ?_; rintro e w4 ⟨rfl, aa5⟩)
 have amg : wd3.heap.size ≤ w4.heap.size := hZ aa5
 have hs5 := hs2.step aa5
 refine ⟨(hs5.d2 0 0 0 1 (JX hs5.bel g0 g1 gi gj gp q0 q1:)), ?_⟩
 refine aV ?_
 obtain ⟨aF, aH⟩ := hs5.c2 0 0 0 1
 obtain ⟨kH, lg, gi_, zn, CP, dW, dO⟩ := JX hs5.bel g0 g1 gi gj gp q0 q1
 refine iF ?_
 go_wp2_with fail
 go_ret
 exact ⟨ak (by rw [FC.out]), hs5.bel⟩
theorem JK (t : dB) (x : Inst) (i j : Int) (tb xb ib jb : Nat) (t0 t1 x1 : Value) (w : World) (hok : cu t x = true) (ht : Rd w [t0, t1] t) (hx : Rd w [x1] x.2)
 (h0 : w.cell? ⟨tb, 0, none⟩ = some t0) (h1 : w.cell? ⟨tb, 1, none⟩ = some t1) (hi : w.cell? ⟨ib, 0, none⟩ = some (.int .i64 i)) (hj : w.cell? ⟨jb, 0, none⟩ = some (.int .i64 j)) (hx1 : w.cell? ⟨xb, 1, none⟩ = some x1) :
 ai7 250 #[.pointer (some ⟨xb, 0, none⟩), .pointer (some ⟨tb, 0, none⟩), .pointer (some ⟨ib, 0, none⟩), .pointer (some ⟨jb, 0, none⟩)] w t.1 2 (Gm t.2 x.2 i j) := by
 intro W y v hb hy hl hmem
 obtain ⟨g0, g1, gi, gj, gx⟩ := zI hb h0 h1 hi hj hx1
 have HT := qH (Rd.mono ht hb)
 have HX := qH (Rd.mono hx hb)
 have HY := qH hy
 have HL := qH hl
 have vW := qH hok
 clear h0 h1 hi hj hx1 ht hx hb hmem hok hl
 show Calls prog 250 #[_, .pointer (some ⟨xb, 0, none⟩), .pointer (some ⟨tb, 0, none⟩), .pointer (some ⟨ib, 0, none⟩), .pointer (some ⟨jb, 0, none⟩)] W _
 obtain ⟨size, rs⟩ := t
 obtain ⟨vars, cs⟩ := x
 obtain ⟨ax, cx, rfl, _⟩ := ah HX.out
 obtain ⟨ay, cy, rfl, _⟩ := ah HY.out
 have zt := au rfl HT.out
 obtain ⟨rfl, _⟩ := aG zt.1
 obtain ⟨at0, ct0, rfl, _⟩ := ah zt.2
 have eg : ∀ args w, (callFunc 251 args).run prog w = .ok (.enter 251 args) w := enters_of func251 (by kernel_rfl) rfl
 have HQ := qH (show Gm rs cs i j y = !cs.any (fun c => !iJ (rs.getD c.1.toNat (0, [])).2 c.2 i j (y.getD 0 0) (y.getD 1 0)) by unfold Gm abP; exact List.all_eq_not_any_not)
 clear hy zt
 have kH := qC (St.start W).bel g0
 clear kH
 obtain ⟨kH, lg⟩ := iQ (St.start W).bel g0 g1
 clear kH lg
 obtain ⟨kH, lg, gi_⟩ := fQ (St.start W).bel g0 g1 gi
 clear kH lg gi_
 obtain ⟨kH, lg, gi_, zn⟩ := jc (St.start W).bel g0 g1 gi gj
 clear kH lg gi_ zn
 obtain ⟨kH, lg, gi_, zn, gx_⟩ := zI (St.start W).bel g0 g1 gi gj gx
 have hs6 := (St.start W).alloc #[.slice ay y.length cy] 28 (n := W.heap.size) (by simp)
 clear kH lg gi_ zn gx_
 have aF := hs6.c 0 0
 obtain ⟨kH, lg, gi_, zn, gx_⟩ := zI hs6.bel g0 g1 gi gj gx
 go_enter func250, ntmps250
 go_wp2_with fail
 refine (uO cs _ 251 _ (fun c => !iJ (rs.getD c.1.toNat (0, [])).2 c.2 i j (y.getD 0 0) (y.getD 1 0)) _ (Rd.mono HX.out hs6.bel) eg (Gp (size, rs) (vars, cs) i j y tb ib jb (W.heap.size) _ _ _ _ vW.out (Rd.mono HT.out hs6.bel) (Rd.mono HY.out hs6.bel) HL.out (qC hs6.bel g0) (qC hs6.bel g1) (qC hs6.bel gi) (qC hs6.bel gj) (hs6.c 0 0))).mono ?_
 rintro e w9 ⟨rfl, zA⟩
 have HB := qH (hs6.bel.trans (zA.mono hs6.bel.size))
 clear zA
 go_wp2_with fail
 go_ret
 exact ⟨ak HQ.out.symm, HB.out⟩
theorem Px (t : dB) (x : Inst) (V : Nat) (t0 t1 x0 x1 : Value) (w : World) (ht : Rd w [t0, t1] t) (hx : Rd w [x0, x1] x) (hok : cu t x = true) (hV : x.1 = (V : Int)) :
 Calls prog 124 #[.agg #[t0, t1], .agg #[x0, x1]] w fun e w' => ∃ v, e = .returned v ∧ aQ w.heap.size w' [v] (ng t x V) ∧ Below w.heap.size w w' := by
 have hv1 := (aX hok).2.1
 have hs1 := (dV (aX hok).1).1
 have TY := JI hs1
 obtain ⟨size, rs⟩ := t
 obtain ⟨vars, cs⟩ := x
 simp only at hV hv1 hs1 TY
 subst hV
 have vW := qH hok
 have HT := qH ht
 have zt := au rfl ht
 obtain ⟨rfl, _⟩ := aG zt.1
 obtain ⟨at0, ct0, rfl, _⟩ := ah zt.2
 have zx := au rfl hx
 obtain ⟨rfl, _⟩ := aG zx.1
 obtain ⟨ax, cx, rfl, _⟩ := ah zx.2
 have HX := qH zx.2
 have HSQ := qH TY.2.2.1
 have anf := TY.2.1
 have eg : ∀ args w, (callFunc 250 args).run prog w = .ok (.enter 250 args) w := enters_of func250 (by kernel_rfl) rfl
 clear ht hx zt zx hok TY
 have hs7 := (St.start w).alloc #[.int .i64 size, .slice at0 rs.length ct0] 42 (n := w.heap.size) (by simp)
 have hs8 := hs7.alloc #[.int .i64 V, .slice ax cs.length cx] 46 (n := w.heap.size + 1) (by simp)
 obtain ⟨aF, aH, aJ, aK⟩ := hs8.c4 0 0 0 1 1 0 1 1
 have HG := qH (show lD (α := bH) w [(w.heap.size, #[.int .i64 size, .slice at0 rs.length ct0], 42), (w.heap.size + 1, #[.int .i64 V, .slice ax cs.length cx], 46)] 118 (((w.alloc (.cells #[.int .i64 size, .slice at0 rs.length ct0] 42)).alloc (.cells #[.int .i64 V, .slice ax cs.length cx] 46)).alloc (.cells #[] 118)) (.slice (some ⟨w.heap.size + 1 + 1, 0, none⟩) 0 0) (ng (size, rs) (V, cs) 0) from by
  refine ⟨(hs8.step (aB ((w.alloc (.cells #[.int .i64 size, .slice at0 rs.length ct0] 42)).alloc (.cells #[.int .i64 V, .slice ax cs.length cx] 46)) (.cells #[] 118))).up (by simp) (Nat.le_refl _), ?_⟩
  have h := qM (α := bH) ((w.alloc (.cells #[.int .i64 size, .slice at0 rs.length ct0] 42)).alloc (.cells #[.int .i64 V, .slice ax cs.length cx] 46)) 118
  have e9 : (((w.alloc (.cells #[.int .i64 size, .slice at0 rs.length ct0] 42)).alloc (.cells #[.int .i64 V, .slice ax cs.length cx] 46))).heap.size = w.heap.size + 1 + 1 := by simp
  rw [e9] at h
  refine bM.wk h (fun z hz => ?_)
  subst hz
  refine ⟨by omega, fun x hx => ?_⟩
  simp at hx
  rcases hx with rfl | rfl <;> (simp only; omega))
 go_enter func124, ntmps124
 go_wp2_with fail
 go_loopw [5, 11] (fun oo jj wl => ∃ (j n c : Nat) (ao : Option Addr), j ≤ V ∧ jj = .int .i64 j ∧ oo = .slice ao n c ∧ Hid ((ng (size, rs) (V, cs) j).length = n) ∧ Hid (lD w [(w.heap.size, #[.int .i64 size, .slice at0 rs.length ct0], 42), (w.heap.size + 1, #[.int .i64 V, .slice ax cs.length cx], 46)] 118 wl (.slice ao n c) (ng (size, rs) (V, cs) j))) (fun _ jj _ => V - (intOf jj).toNat)
 case atStart => exact ⟨0, 0, 0, _, Nat.zero_le _, rfl, rfl, rfl, HG.out⟩
 clear HG
 obtain ⟨j, n, c, ao, hj, rfl, rfl, hn, hg⟩ := hrel
 have hs2 := hg.out.st
 obtain ⟨aF, aH, aJ, aK⟩ := hs2.c4 0 0 0 1 1 0 1 1
 by_cases hlt : j < V
 rotate_left
 · obtain rfl : j = V := by omega
   have hnl : ¬ ((j : Int) < j) := by omega
   have D8 := qH hg.out.fresh
   have lu := qH hg.out.bel
   go_wp2_with fail
   go_ret
   exact ⟨_, rfl, D8.out, lu.out⟩
 have hjI : (j : Int) < V := by omega
 obtain ⟨wj, hwj⟩ : ∃ x, x = wr := ⟨_, rfl⟩
 subst hwj
 have Iy := qH (hg.out.box #[.int .i64 j] 2)
 have HN0 := qH (show (ng (size, rs) (V, cs) j ++ jy (size, rs) (V, cs) j 0).length = n by simpa [jy] using hn.out)
 have HR0 := qH (show ng (size, rs) (V, cs) j = ng (size, rs) (V, cs) j ++ jy (size, rs) (V, cs) j 0 by simp [jy])
 rw [HR0.out] at Iy
 go_wp2_with fail
 go_loopw [5, 15] (fun oo ii wl => ∃ (i n c : Nat) (ao : Option Addr), i ≤ j ∧ ii = .int .i64 i ∧ oo = .slice ao n c ∧ Hid ((ng (size, rs) (V, cs) j ++ jy (size, rs) (V, cs) j i).length = n) ∧ Hid (lD w [(w.heap.size, #[.int .i64 size, .slice at0 rs.length ct0], 42), (w.heap.size + 1, #[.int .i64 V, .slice ax cs.length cx], 46), (wj.heap.size, #[.int .i64 j], 2)] 118 wl (.slice ao n c) (ng (size, rs) (V, cs) j ++ jy (size, rs) (V, cs) j i))) (fun _ ii _ => j - (intOf ii).toNat)
 case atStart => exact ⟨0, n, c, ao, Nat.zero_le _, rfl, rfl, HN0.out, Iy.out⟩
 clear Iy
 obtain ⟨i, n, c, ao, hi, rfl, rfl, hn2, hg2⟩ := hrel
 have hs3 := hg2.out.st
 obtain ⟨aF, aH, aJ, aK, aW⟩ := hs3.c5 0 0 0 1 1 0 1 1 2 0
 by_cases hil : i < j
 rotate_left
 · obtain rfl : i = j := by omega
   have hnl : ¬ ((i : Int) < i) := by omega
   have Ux := qH (hg2.out.sub (bx' := [(w.heap.size, #[.int .i64 size, .slice at0 rs.length ct0], 42), (w.heap.size + 1, #[.int .i64 V, .slice ax cs.length cx], 46)]) (fun x hx => by simp at hx ⊢; rcases hx with rfl | rfl <;> simp))
   have HN9 := qH hn2.out
   go_wp2_with fail
   go_roundw
   case rel => exact ⟨i + 1, n, c, ao, by omega, by go_num, rfl, HN9.out, Ux.out⟩
   simp [intOf]; omega
 have hiI : (i : Int) < j := by omega
 have HG3 := qH (hg2.out.box #[.int .i64 i] 2)
 have HNL := qH (show n ≤ 55 by
  have h1 := hn2.out
  have h2 := G8 (show j ≤ 10 by omega)
  simp at h1
  omega)
 have HAP := qH (show (ng (size, rs) (V, cs) j ++ jy (size, rs) (V, cs) j i) ++ [((2 : Int), ji (Gm rs cs i j) size 2 (CG size))] = ng (size, rs) (V, cs) j ++ jy (size, rs) (V, cs) j (i + 1) by
  rw [FN, List.append_assoc]; rfl)
 have hs9 := hs3.alloc #[.int .i64 i] 2 (n := wr.heap.size) (by simp)
 clear aF aH aJ aK aW
 obtain ⟨aF, aH, aJ, aK, aW, dM⟩ := hs9.c6 0 0 0 1 1 0 1 1 2 0 3 0
 go_wp2_with fail
 refine (XL size 2 250 _ (Gm rs cs i j) (CG size) _ (by omega) (by omega) (by omega) HSQ.out (by omega) eg (JK (size, rs) (V, cs) i j w.heap.size (w.heap.size + 1) (wr.heap.size) wj.heap.size _ _ _ _ vW.out (Rd.mono HT.out hs9.bel) (Rd.mono HX.out hs9.bel) (hs9.c 0 0) (hs9.c 0 1) (hs9.c 3 0) (hs9.c 2 0) (hs9.c 1 1))).mono ?_
 rintro e w5 ⟨v5, rfl, Qo, hb5⟩
 obtain ⟨a5, c5, rfl, _⟩ := ah Qo.rd
 have HG5 := qH (HG3.out.step hb5)
 have HA5 := qH (HG3.out.acc.tight.mono hb5)
 have HI5 := qH (Pq (jf 2 (by decide) (by decide)) Qo.ip)
 have HNW := qH (fun k (hk : (wr.alloc (.cells #[.int .i64 i] 2)).heap.size ≤ k) => HG3.out.newer hk)
 clear Qo hb5 HG3
 have HG6 := qH (HG5.out.step (aB w5 (.cells #[.int .i64 2, .slice a5 (ji (Gm rs cs i j) size 2 (CG size)).length c5] 118)))
 have HA6 := qH (HA5.out.mono (aB w5 (.cells #[.int .i64 2, .slice a5 (ji (Gm rs cs i j) size 2 (CG size)).length c5] 118)))
 have HI6 := qH (HI5.out.mono (aB w5 (.cells #[.int .i64 2, .slice a5 (ji (Gm rs cs i j) size 2 (CG size)).length c5] 118)))
 go_wp2_with (at_builtin; refine bW _ rfl _ _ _ rfl Tv rfl HA6.out HI6.out (fun z h1 h2 => by have h3 := h1.2; have h4 := h2.1; omega) ⟨w5.heap.size, 0, none⟩ 1 rfl (E8 (aA (heap_alloc_new _ _)) (aA (heap_alloc_new _ _))) (by rw [hn2.out]; have := HNL.out; omega) ?_; simp only [hn2.out, HAP.out]; intro a9 c9 w9 jG vg)
 have Ux := qH ((HG6.out.snoc jG vg (fun k hk => hk.1) (fun k hk => HNW.out k hk.1)).sub (bx' := [(w.heap.size, #[.int .i64 size, .slice at0 rs.length ct0], 42), (w.heap.size + 1, #[.int .i64 V, .slice ax cs.length cx], 46), (wj.heap.size, #[.int .i64 j], 2)]) (fun x hx => by simp at hx ⊢; rcases hx with rfl | rfl | rfl <;> simp))
 have HN9 := qH (show (ng (size, rs) (V, cs) j ++ jy (size, rs) (V, cs) j (i + 1)).length = n + 1 by rw [← HAP.out, List.length_append, hn2.out]; rfl)
 clear jG vg
 go_wp2_with fail
 go_roundw
 case rel => exact ⟨i + 1, n + 1, c9, a9, by omega, by go_num, rfl, HN9.out, Ux.out⟩
 simp [intOf]; omega
end Go.Proofs.YtoblfnoaepbhfaaGreat
