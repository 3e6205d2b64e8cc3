import Derived.Test.YtpkdiiagnplpkaaGreatPairBQm
import Derived.Test.YtpkdiiagnplpkaaGreatFailBQm
set_option linter.unusedSimpArgs false
set_option linter.unusedVariables false
set_option maxHeartbeats 8000000
set_option maxRecDepth 100000
namespace Go.Proofs.YtpkdiiagnplpkaaGreat
open Go.RowKit Go.Shelf Go.IntWalk
open Rep (Rd Own sz)
theorem firstPairs11_by (t : Tmpl) (x : Inst) (i j : Int) (y : List Int) (tb ib jb pb : Nat) (t0 t1 vy : Value) (w : World) (hok : instOk t x = true) (ht : Rd w [t0, t1] t) (hy : Rd w [vy] y) (hl : y.length = 2)
 (h0 : w.cell? ⟨tb, 0, none⟩ = some t0) (h1 : w.cell? ⟨tb, 1, none⟩ = some t1) (hi : w.cell? ⟨ib, 0, none⟩ = some (.int .i64 i)) (hj : w.cell? ⟨jb, 0, none⟩ = some (.int .i64 j)) (hp : w.cell? ⟨pb, 0, none⟩ = some vy) :
 PredC 144 #[.pointer (some ⟨tb, 0, none⟩), .pointer (some ⟨ib, 0, none⟩), .pointer (some ⟨jb, 0, none⟩), .pointer (some ⟨pb, 0, none⟩)] w x.2 (fun c => !tellsB (t.2.getD c.1.toNat (0, [])).2 c.2 i j (y.getD 0 0) (y.getD 1 0)) := by
 intro W c u0 u1 hb hx hmem
 obtain ⟨k, hk, hck⟩ := List.getElem_of_mem hmem
 obtain ⟨n, h2, h3, h4, -, -⟩ := con_facts hok hk
 rw [hck] at h2 h4
 obtain ⟨g0, g1, gi, gj, gp⟩ := cL5 hb h0 h1 hi hj hp
 have HT := qH (Rd.mono ht hb)
 have HY := qH (Rd.mono hy hb)
 have HTS := qH h4
 clear h0 h1 hi hj hp ht hy hb hmem hok hck h4 hk
 show Calls Tryz.prog 144 #[_, .pointer (some ⟨tb, 0, none⟩), .pointer (some ⟨ib, 0, none⟩), .pointer (some ⟨jb, 0, none⟩), .pointer (some ⟨pb, 0, none⟩)] W _
 obtain ⟨size, rs⟩ := t
 obtain ⟨ci, sc⟩ := c
 simp only at h2 h3 HTS
 subst h2
 have HC := qH hx
 have z := rd_cons rfl hx
 obtain ⟨rfl, _⟩ := rd_i1 z.1
 obtain ⟨a2, c2, rfl, _⟩ := rd_list z.2
 have zt := rd_cons rfl HT.out
 obtain ⟨rfl, _⟩ := rd_i1 zt.1
 obtain ⟨at0, ct0, rfl, _⟩ := rd_list zt.2
 obtain ⟨ay, cy, rfl, _⟩ := rd_list HY.out
 have hy0 : 0 < y.length := by omega
 have hy1 : 1 < y.length := by omega
 obtain ⟨b1, o1, rfl, q0, _⟩ := rd_int_at HY.out 0 hy0
 obtain ⟨b2, o2, e2, q1, _⟩ := rd_int_at HY.out 1 hy1
 simp only [Option.some.injEq, Addr.mk.injEq, and_true] at e2
 obtain ⟨rfl, rfl⟩ := e2
 have hyI : (0 : Int) < y.length := by omega
 have hyJ : (1 : Int) < y.length := by omega
 rw [show y.getD 0 0 = y[0] by rw [List.getD, List.getElem?_eq_getElem hy0]; rfl, show y.getD 1 0 = y[1] by rw [List.getD, List.getElem?_eq_getElem hy1]; rfl]
 rw [Nat.add_zero] at q0
 generalize y[0] = Y0 at *
 generalize y[1] = Y1 at *
 simp only [Int.toNat_natCast]
 have HGD := qH (show rs.getD n (0, []) = rs[n] by rw [List.getD, List.getElem?_eq_getElem h3]; rfl)
 clear hx z zt hl
 have g0_ := qC (St.start W).bel g0
 clear g0_
 obtain ⟨g0_, g1_⟩ := cL2 (St.start W).bel g0 g1
 clear g0_ g1_
 obtain ⟨g0_, g1_, gi_⟩ := cL3 (St.start W).bel g0 g1 gi
 clear g0_ g1_ gi_
 obtain ⟨g0_, g1_, gi_, gj_⟩ := cL4 (St.start W).bel g0 g1 gi gj
 clear g0_ g1_ gi_ gj_
 obtain ⟨g0_, g1_, gi_, gj_, gp_⟩ := cL5 (St.start W).bel g0 g1 gi gj gp
 clear g0_ g1_ gi_ gj_ gp_
 obtain ⟨g0_, g1_, gi_, gj_, gp_, q0_⟩ := cL6 (St.start W).bel g0 g1 gi gj gp q0
 clear g0_ g1_ gi_ gj_ gp_ q0_
 obtain ⟨g0_, g1_, gi_, gj_, gp_, q0_, q1_⟩ := cL7 (St.start W).bel g0 g1 gi gj gp q0 q1
 have hs1 := (St.start W).alloc #[.int .i64 n, .slice a2 sc.length c2] 111 (n := W.heap.size) (by simp)
 clear g0_ g1_ gi_ gj_ gp_ q0_ q1_
 obtain ⟨k0_0, k0_1⟩ := hs1.c2 0 0 0 1
 obtain ⟨g0_, g1_, gi_, gj_, gp_, q0_, q1_⟩ := cL7 hs1.bel g0 g1 gi gj gp q0 q1
 go_enter Tryz.func144, Tryz.ntmps144
 go_upto_region 1 with fail
 refine t4R (fun w' => w'.cell? ⟨W.heap.size, 0, none⟩ = some (.int .i64 n) ∧ w'.cell? ⟨W.heap.size, 1, none⟩ = some (.slice a2 sc.length c2) ∧ w'.cell? ⟨tb, 0, none⟩ = some (.int .i64 size) ∧ w'.cell? ⟨tb, 1, none⟩ = some (.slice at0 rs.length ct0) ∧ w'.cell? ⟨ib, 0, none⟩ = some (.int .i64 i) ∧ w'.cell? ⟨jb, 0, none⟩ = some (.int .i64 j) ∧ w'.cell? ⟨pb, 0, none⟩ = some (.slice (some ⟨b1, o1, none⟩) y.length cy) ∧ w'.cell? ⟨b1, o1, none⟩ = some (.int .i64 Y0) ∧ w'.cell? ⟨b1, o1 + 1, none⟩ = some (.int .i64 Y1)) (.float 0 (.float 1 (.float 2 (.float 3 (.float 4 (.float 5 (.float 6 (.float 7 (.float 8 (.float 9 (.hard 10 (.float 11 (.float 12 .nil))))))))))))) ?_ ?_
 · exact ⟨(hs1.drew).c 0 0, (hs1.drew).c 0 1, qC (hs1.drew).bel g0, qC (hs1.drew).bel g1, qC (hs1.drew).bel gi, qC (hs1.drew).bel gj, qC (hs1.drew).bel gp, qC (hs1.drew).bel q0, qC (hs1.drew).bel q1⟩
 have hs2 := hs1.drew
 clear k0_0 k0_1 g0_ g1_ gi_ gj_ gp_ q0_ q1_
 have hz_wd3 : W.heap.size + 1 ≤ ((W.alloc (.cells #[.int .i64 n, .slice a2 sc.length c2] 111)).drew).heap.size := by simp
 generalize hgen_wd3 : (W.alloc (.cells #[.int .i64 n, .slice a2 sc.length c2] 111)).drew = wd3 at *
 clear hgen_wd3
 refine t4F ?_
 refine t4_hard rfl (by rfl) (fun K hK => ?_)
 go_wp2_with (go_at_call 145; refine (allows_c ((n : Int), sc) (size, rs) i j Y0 Y1 n _ _ _ _ _ (Rd.mono HC.out hs2.bel) (Rd.mono HT.out hs2.bel) rfl h3 HTS.out).mono ?_; rintro e w4 ⟨rfl, hbw4⟩)
 have hz_w4 : wd3.heap.size ≤ w4.heap.size := by have h9 := hbw4.size; (try simp at h9); omega
 have hs5 := hs2.step hbw4
 refine ⟨⟨hs5.c 0 0, hs5.c 0 1, qC hs5.bel g0, qC hs5.bel g1, qC hs5.bel gi, qC hs5.bel gj, qC hs5.bel gp, qC hs5.bel q0, qC hs5.bel q1⟩, ?_⟩
 refine t4F ?_
 obtain ⟨k0_0, k0_1⟩ := hs5.c2 0 0 0 1
 obtain ⟨g0_, g1_, gi_, gj_, gp_, q0_, q1_⟩ := cL7 hs5.bel g0 g1 gi gj gp q0 q1
 refine t4_nil (NoPanic.normal ?_)
 go_wp2_with fail
 go_ret
 exact ⟨ret_bool (by rw [HGD.out]), hs5.bel⟩
theorem firstPairs1_by (t : Tmpl) (x : Inst) (i j : Int) (tb xb ib jb : Nat) (t0 t1 x1 : Value) (w : World) (hok : instOk t x = true) (ht : Rd w [t0, t1] t) (hx : Rd w [x1] x.2)
 (h0 : w.cell? ⟨tb, 0, none⟩ = some t0) (h1 : w.cell? ⟨tb, 1, none⟩ = some t1) (hi : w.cell? ⟨ib, 0, none⟩ = some (.int .i64 i)) (hj : w.cell? ⟨jb, 0, none⟩ = some (.int .i64 j)) (hx1 : w.cell? ⟨xb, 1, none⟩ = some x1) :
 RelC 143 #[.pointer (some ⟨xb, 0, none⟩), .pointer (some ⟨tb, 0, none⟩), .pointer (some ⟨ib, 0, none⟩), .pointer (some ⟨jb, 0, none⟩)] w t.1 2 (okY t.2 x.2 i j) := by
 intro W y v hb hy hl hmem
 obtain ⟨g0, g1, gi, gj, gx⟩ := cL5 hb h0 h1 hi hj hx1
 have HT := qH (Rd.mono ht hb)
 have HX := qH (Rd.mono hx hb)
 have HY := qH hy
 have HL := qH hl
 have HOK := qH hok
 clear h0 h1 hi hj hx1 ht hx hb hmem hok hl
 show Calls Tryz.prog 143 #[_, .pointer (some ⟨xb, 0, none⟩), .pointer (some ⟨tb, 0, none⟩), .pointer (some ⟨ib, 0, none⟩), .pointer (some ⟨jb, 0, none⟩)] W _
 obtain ⟨size, rs⟩ := t
 obtain ⟨vars, cs⟩ := x
 obtain ⟨ax, cx, rfl, _⟩ := rd_list HX.out
 obtain ⟨ay, cy, rfl, _⟩ := rd_list HY.out
 have zt := rd_cons rfl HT.out
 obtain ⟨rfl, _⟩ := rd_i1 zt.1
 obtain ⟨at0, ct0, rfl, _⟩ := rd_list zt.2
 have eg : ∀ args w, (callFunc 144 args).run Tryz.prog w = .ok (.enter 144 args) w := enters_of Tryz.func144 (by kernel_rfl) rfl
 have HQ := qH (show okY rs cs i j y = !cs.any (fun c => !tellsB (rs.getD c.1.toNat (0, [])).2 c.2 i j (y.getD 0 0) (y.getD 1 0)) by unfold okY okPair; exact List.all_eq_not_any_not)
 clear hy zt
 have g0_ := qC (St.start W).bel g0
 clear g0_
 obtain ⟨g0_, g1_⟩ := cL2 (St.start W).bel g0 g1
 clear g0_ g1_
 obtain ⟨g0_, g1_, gi_⟩ := cL3 (St.start W).bel g0 g1 gi
 clear g0_ g1_ gi_
 obtain ⟨g0_, g1_, gi_, gj_⟩ := cL4 (St.start W).bel g0 g1 gi gj
 clear g0_ g1_ gi_ gj_
 obtain ⟨g0_, g1_, gi_, gj_, gx_⟩ := cL5 (St.start W).bel g0 g1 gi gj gx
 have hs6 := (St.start W).alloc #[.slice ay y.length cy] 28 (n := W.heap.size) (by simp)
 clear g0_ g1_ gi_ gj_ gx_
 have k0_0 := hs6.c 0 0
 obtain ⟨g0_, g1_, gi_, gj_, gx_⟩ := cL5 hs6.bel g0 g1 gi gj gx
 go_enter Tryz.func143, Tryz.ntmps143
 go_wp2_with fail
 refine (containsCons_c cs _ 144 _ (fun c => !tellsB (rs.getD c.1.toNat (0, [])).2 c.2 i j (y.getD 0 0) (y.getD 1 0)) _ (Rd.mono HX.out hs6.bel) eg (firstPairs11_by (size, rs) (vars, cs) i j y tb ib jb (W.heap.size) _ _ _ _ HOK.out (Rd.mono HT.out hs6.bel) (Rd.mono HY.out hs6.bel) HL.out (qC hs6.bel g0) (qC hs6.bel g1) (qC hs6.bel gi) (qC hs6.bel gj) (hs6.c 0 0))).mono ?_
 rintro e w9 ⟨rfl, hb9⟩
 have HB := qH (hs6.bel.trans (hb9.mono hs6.bel.size))
 clear hb9
 go_wp2_with fail
 go_ret
 exact ⟨ret_bool HQ.out.symm, HB.out⟩
theorem firstPairs_c (t : Tmpl) (x : Inst) (V : Nat) (t0 t1 x0 x1 : Value) (w : World) (ht : Rd w [t0, t1] t) (hx : Rd w [x0, x1] x) (hok : instOk t x = true) (hV : x.1 = (V : Int)) :
 Calls Tryz.prog 78 #[.agg #[t0, t1], .agg #[x0, x1]] w fun e w' => ∃ v, e = .returned v ∧ Fresh w.heap.size w' [v] (fstP t x V) ∧ Below w.heap.size w w' := by
 have hv1 := (instOk_get hok).2.1
 have hs1 := (tmplOk_get (instOk_get hok).1).1
 have hsq := sqN_le hs1
 obtain ⟨size, rs⟩ := t
 obtain ⟨vars, cs⟩ := x
 simp only at hV hv1 hs1 hsq
 subst hV
 have HOK := qH hok
 have HT := qH ht
 have zt := rd_cons rfl ht
 obtain ⟨rfl, _⟩ := rd_i1 zt.1
 obtain ⟨at0, ct0, rfl, _⟩ := rd_list zt.2
 have zx := rd_cons rfl hx
 obtain ⟨rfl, _⟩ := rd_i1 zx.1
 obtain ⟨ax, cx, rfl, _⟩ := rd_list zx.2
 have HX := qH zx.2
 have HSQ := qH hsq.2.2.1
 have hsq1 := hsq.2.1
 have eg : ∀ args w, (callFunc 143 args).run Tryz.prog w = .ok (.enter 143 args) w := enters_of Tryz.func143 (by kernel_rfl) rfl
 clear ht hx zt zx hok hsq
 have hs7 := (St.start w).alloc #[.int .i64 size, .slice at0 rs.length ct0] 42 (n := w.heap.size) (by simp)
 obtain ⟨k0_0, k0_1⟩ := hs7.c2 0 0 0 1
 have hs8 := hs7.alloc #[.int .i64 V, .slice ax cs.length cx] 46 (n := w.heap.size + 1) (by simp)
 clear k0_0 k0_1
 obtain ⟨k0_0, k0_1, k1_0, k1_1⟩ := hs8.c4 0 0 0 1 1 0 1 1
 have HG := qH (show GrowW (α := RelT) w [(w.heap.size, #[.int .i64 size, .slice at0 rs.length ct0], 42), (w.heap.size + 1, #[.int .i64 V, .slice ax cs.length cx], 46)] 87 (((w.alloc (.cells #[.int .i64 size, .slice at0 rs.length ct0] 42)).alloc (.cells #[.int .i64 V, .slice ax cs.length cx] 46)).alloc (.cells #[] 87)) (.slice (some ⟨w.heap.size + 1 + 1, 0, none⟩) 0 0) (fstP (size, rs) (V, cs) 0) from by
  refine ⟨(hs8.step (belowA ((w.alloc (.cells #[.int .i64 size, .slice at0 rs.length ct0] 42)).alloc (.cells #[.int .i64 V, .slice ax cs.length cx] 46)) (.cells #[] 87))).up (by simp) (Nat.le_refl _), ?_⟩
  have h := accP_made (α := RelT) ((w.alloc (.cells #[.int .i64 size, .slice at0 rs.length ct0] 42)).alloc (.cells #[.int .i64 V, .slice ax cs.length cx] 46)) 87
  have e9 : (((w.alloc (.cells #[.int .i64 size, .slice at0 rs.length ct0] 42)).alloc (.cells #[.int .i64 V, .slice ax cs.length cx] 46))).heap.size = w.heap.size + 1 + 1 := by simp
  rw [e9] at h
  refine AccP.wk h (fun z hz => ?_)
  subst hz
  refine ⟨by omega, fun x hx => ?_⟩
  simp at hx
  rcases hx with rfl | rfl <;> (simp only; omega))
 go_enter Tryz.func78, Tryz.ntmps78
 go_wp2_with fail
 go_loopw [5, 11] (fun oo jj wl => ∃ (j n c : Nat) (ao : Option Addr), j ≤ V ∧ jj = .int .i64 j ∧ oo = .slice ao n c ∧ Hid ((fstP (size, rs) (V, cs) j).length = n) ∧ Hid (GrowW w [(w.heap.size, #[.int .i64 size, .slice at0 rs.length ct0], 42), (w.heap.size + 1, #[.int .i64 V, .slice ax cs.length cx], 46)] 87 wl (.slice ao n c) (fstP (size, rs) (V, cs) j))) (fun _ jj _ => V - (intOf jj).toNat)
 case atStart => exact ⟨0, 0, 0, _, Nat.zero_le _, rfl, rfl, rfl, HG.out⟩
 case round =>
  clear HG
  obtain ⟨j, n, c, ao, hj, rfl, rfl, hn, hg⟩ := hrel
  have hs2 := hg.out.st
  obtain ⟨k0_0, k0_1, k1_0, k1_1⟩ := hs2.c4 0 0 0 1 1 0 1 1
  by_cases hlt : j < V
  · have hjI : (j : Int) < V := by omega
    obtain ⟨wj, hwj⟩ : ∃ x, x = wr := ⟨_, rfl⟩
    subst hwj
    have HGJ := qH (hg.out.box #[.int .i64 j] 2)
    have HN0 := qH (show (fstP (size, rs) (V, cs) j ++ fstRow (size, rs) (V, cs) j 0).length = n by simpa [fstRow] using hn.out)
    have HR0 := qH (show fstP (size, rs) (V, cs) j = fstP (size, rs) (V, cs) j ++ fstRow (size, rs) (V, cs) j 0 by simp [fstRow])
    rw [HR0.out] at HGJ
    go_wp2_with fail
    go_loopw [5, 15] (fun oo ii wl => ∃ (i n c : Nat) (ao : Option Addr), i ≤ j ∧ ii = .int .i64 i ∧ oo = .slice ao n c ∧ Hid ((fstP (size, rs) (V, cs) j ++ fstRow (size, rs) (V, cs) j i).length = n) ∧ Hid (GrowW w [(w.heap.size, #[.int .i64 size, .slice at0 rs.length ct0], 42), (w.heap.size + 1, #[.int .i64 V, .slice ax cs.length cx], 46), (wj.heap.size, #[.int .i64 j], 2)] 87 wl (.slice ao n c) (fstP (size, rs) (V, cs) j ++ fstRow (size, rs) (V, cs) j i))) (fun _ ii _ => j - (intOf ii).toNat)
    case atStart => exact ⟨0, n, c, ao, Nat.zero_le _, rfl, rfl, HN0.out, HGJ.out⟩
    case round =>
     clear HGJ
     obtain ⟨i, n, c, ao, hi, rfl, rfl, hn2, hg2⟩ := hrel
     have hs3 := hg2.out.st
     obtain ⟨k0_0, k0_1, k1_0, k1_1, k2_0⟩ := hs3.c5 0 0 0 1 1 0 1 1 2 0
     by_cases hil : i < j
     · have hiI : (i : Int) < j := by omega
       have HG3 := qH (hg2.out.box #[.int .i64 i] 2)
       have HNL := qH (show n ≤ 55 by
        have h1 := hn2.out
        have h2 := tri_ten (show j ≤ 10 by omega)
        simp at h1
        omega)
       have HAP := qH (show (fstP (size, rs) (V, cs) j ++ fstRow (size, rs) (V, cs) j i) ++ [((2 : Int), selT (okY rs cs i j) size 2 (sqN size))] = fstP (size, rs) (V, cs) j ++ fstRow (size, rs) (V, cs) j (i + 1) by
        rw [fstRow_succ, List.append_assoc]; rfl)
       have hs9 := hs3.alloc #[.int .i64 i] 2 (n := wr.heap.size) (by simp)
       clear k0_0 k0_1 k1_0 k1_1 k2_0
       obtain ⟨k0_0, k0_1, k1_0, k1_1, k2_0, k3_0⟩ := hs9.c6 0 0 0 1 1 0 1 1 2 0 3 0
       go_wp2_with fail
       refine (relOf_c size 2 143 _ (okY rs cs i j) (sqN size) _ (by omega) (by omega) (by omega) HSQ.out (by omega) eg (firstPairs1_by (size, rs) (V, cs) i j w.heap.size (w.heap.size + 1) (wr.heap.size) wj.heap.size _ _ _ _ HOK.out (Rd.mono HT.out hs9.bel) (Rd.mono HX.out hs9.bel) (hs9.c 0 0) (hs9.c 0 1) (hs9.c 3 0) (hs9.c 2 0) (hs9.c 1 1))).mono ?_
       rintro e w5 ⟨v5, rfl, fr5, hb5⟩
       obtain ⟨a5, c5, rfl, _⟩ := rd_list fr5.rd
       have HG5 := qH (HG3.out.step hb5)
       have HA5 := qH (HG3.out.acc.tight.mono hb5)
       have HI5 := qH (ip_rel2 (i64_of 2 (by decide) (by decide)) fr5.ip)
       have HNW := qH (fun k (hk : (wr.alloc (.cells #[.int .i64 i] 2)).heap.size ≤ k) => HG3.out.newer hk)
       clear fr5 hb5 HG3
       have HG6 := qH (HG5.out.step (belowA w5 (.cells #[.int .i64 2, .slice a5 (selT (okY rs cs i j) size 2 (sqN size)).length c5] 87)))
       have HA6 := qH (HA5.out.mono (belowA w5 (.cells #[.int .i64 2, .slice a5 (selT (okY rs cs i j) size 2 (sqN size)).length c5] 87)))
       have HI6 := qH (HI5.out.mono (belowA w5 (.cells #[.int .i64 2, .slice a5 (selT (okY rs cs i j) size 2 (sqN size)).length c5] 87)))
       go_wp2_with (at_builtin; refine wpList_append_accP _ rfl _ _ _ rfl E_rels rfl HA6.out HI6.out (fun z h1 h2 => by have h3 := h1.2; have h4 := h2.1; omega) ⟨w5.heap.size, 0, none⟩ 1 rfl (news2 (cell_at_block (heap_alloc_new _ _)) (cell_at_block (heap_alloc_new _ _))) (by rw [hn2.out]; have := HNL.out; omega) ?_; simp only [hn2.out, HAP.out]; intro a9 c9 w9 hA9 hB9)
       have HG9 := qH ((HG6.out.snoc hA9 hB9 (fun k hk => hk.1) (fun k hk => HNW.out k hk.1)).sub (bx' := [(w.heap.size, #[.int .i64 size, .slice at0 rs.length ct0], 42), (w.heap.size + 1, #[.int .i64 V, .slice ax cs.length cx], 46), (wj.heap.size, #[.int .i64 j], 2)]) (fun x hx => by simp at hx ⊢; rcases hx with rfl | rfl | rfl <;> simp))
       have HN9 := qH (show (fstP (size, rs) (V, cs) j ++ fstRow (size, rs) (V, cs) j (i + 1)).length = n + 1 by rw [← HAP.out, List.length_append, hn2.out]; rfl)
       clear hA9 hB9
       go_wp2_with fail
       go_roundw
       case rel => exact ⟨i + 1, n + 1, c9, a9, by omega, by go_num, rfl, HN9.out, HG9.out⟩
       case measure => simp [intOf]; omega
     · obtain rfl : i = j := by omega
       have hnl : ¬ ((i : Int) < i) := by omega
       have HG9 := qH (hg2.out.sub (bx' := [(w.heap.size, #[.int .i64 size, .slice at0 rs.length ct0], 42), (w.heap.size + 1, #[.int .i64 V, .slice ax cs.length cx], 46)]) (fun x hx => by simp at hx ⊢; rcases hx with rfl | rfl <;> simp))
       have HN9 := qH hn2.out
       go_wp2_with fail
       go_roundw
       case rel => exact ⟨i + 1, n, c, ao, by omega, by go_num, rfl, HN9.out, HG9.out⟩
       case measure => simp [intOf]; omega
  · obtain rfl : j = V := by omega
    have hnl : ¬ ((j : Int) < j) := by omega
    have HFR := qH hg.out.fresh
    have HBF := qH hg.out.bel
    go_wp2_with fail
    go_ret
    exact ⟨_, rfl, HFR.out, HBF.out⟩
end Go.Proofs.YtpkdiiagnplpkaaGreat
