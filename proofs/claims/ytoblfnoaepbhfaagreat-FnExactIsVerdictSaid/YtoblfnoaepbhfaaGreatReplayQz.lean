import Derived.Test.YtoblfnoaepbhfaaGreatArcFBQz
set_option linter.unusedSimpArgs false
set_option linter.unusedVariables false
set_option maxHeartbeats 8000000
set_option maxRecDepth 100000
namespace Go.Proofs.YtoblfnoaepbhfaaGreat
open Go.Proofs.Tryz
open Go.RowKit Go.Shelf Go.IntWalk
open Rep (Rd Own sz)
theorem uq {t : dB} {x : Inst} {ds : List (List Int)} {s : Int × Int × Int} (h : ou t x ds s = false) : nT t x ds s = false := by unfold nT; rw [h]; rfl
theorem JL {t : dB} {x : Inst} {ds : List (List Int)} {v a : Int} {k nr : Nat} {sc : List Int} (h : ou t x ds (v, a, (k : Int)) = true) (hk : k < x.2.length) (hc : x.2[k] = ((nr : Int), sc)) :
 nT t x ds (v, a, (k : Int)) = (List.range sc.length).any (lY (t.2.getD nr (0, [])).2 sc ds v a) := by
 unfold nT
 rw [h, Bool.true_and]
 simp only [Int.toNat_natCast]
 rw [show x.2.getD k (0, []) = x.2[k] by rw [List.getD, List.getElem?_eq_getElem hk]; rfl, hc]
 unfold abL
 simp only [Int.toNat_natCast]
theorem SB (t : dB) (x : Inst) (ds : List (List Int)) (va aa ka : Int) (t0 t1 x0 x1 vd : Value) (w : World) (ht : Rd w [t0, t1] t) (hx : Rd w [x0, x1] x) (hd : Rd w [vd] ds) (hok : cu t x = true) (hl : (ds.length : Int) = x.1) :
 Calls prog 296 #[.agg #[t0, t1], .agg #[x0, x1], vd, .agg #[.int .i64 va, .int .i64 aa, .int .i64 ka]] w fun e w' => e = .returned (.bool (nT t x ds (va, aa, ka))) ∧ Below w.heap.size w w' := by
 obtain ⟨size, rs⟩ := t
 obtain ⟨vars, cs⟩ := x
 simp only at hl
 have zt := au rfl ht
 obtain ⟨rfl, _⟩ := aG zt.1
 obtain ⟨at0, ct0, rfl, _⟩ := ah zt.2
 have zx := au rfl hx
 obtain ⟨rfl, _⟩ := aG zx.1
 obtain ⟨ax, cx, rfl, hcs⟩ := ah zx.2
 obtain ⟨ad, cd, rfl, hdr⟩ := ah hd
 have hv1 := (aX hok).2.1
 have hcl := (aX hok).2.2.1
 simp only at hv1 hcl
 have HT := qH ht
 have HD := qH hd
 have PW := qH hcs
 have HDR := qH hdr
 have HFC := qH (fun (k : Nat) (hk : k < cs.length) => xH hok hk)
 have Tn := qH hl
 clear ht hx hd zt zx hcs hdr hok hl
 have ew : IntKind.i64.wrap (vars - 1) = vars - 1 := i64_in _ (by omega)
 have ew2 : IntKind.i64.wrap ((cs.length : Int) - 1) = (cs.length : Int) - 1 := i64_in _ (by omega)
 have hs1 := (St.start w).alloc #[.int .i64 size, .slice at0 rs.length ct0] 42 (n := w.heap.size) (by simp)
 have hs2 := hs1.alloc #[.int .i64 vars, .slice ax cs.length cx] 46 (n := w.heap.size + 1) (by simp)
 have hs3 := hs2.alloc #[.int .i64 va, .int .i64 aa, .int .i64 ka] 180 (n := w.heap.size + 1 + 1) (by simp)
 obtain ⟨aF, aH, aJ, aK, aW, aY, bn⟩ := hs3.c7 0 0 0 1 1 0 1 1 2 0 2 1 2 2
 go_enter func296, ntmps296
 cases h1 : inB va 0 (vars - 1)
 · have H1 := qH (uq (t := (size, rs)) (x := (vars, cs)) (ds := ds) (s := (va, aa, ka)) (by unfold ou; simp only [h1, Bool.false_and]))
   go_upto_region 1 with fail
   refine iT (fun w' => cI w' w.heap.size 0 size ∧ cV w' w.heap.size 1 (.slice at0 rs.length ct0) ∧ cI w' (w.heap.size + 1) 0 vars ∧ cV w' (w.heap.size + 1) 1 (.slice ax cs.length cx) ∧ cI w' (w.heap.size + 1 + 1) 0 va ∧ cI w' (w.heap.size + 1 + 1) 1 aa ∧ cI w' (w.heap.size + 1 + 1) 2 ka) (.z [0,1,2,3,4] (.hard 5 (.z [6,7,8,9,10,11,12,13] (.hard 14 (.z [15,16,17,18,19,20,21,22,23,24] (.hard 25 (.z [26,27] .nil))))))) ?_ ?_
   · exact (hs3.drew).c7 0 0 0 1 1 0 1 1 2 0 2 1 2 2
   have hs4 := hs3.drew
   clear aF aH aJ aK aW aY bn
   have OU : w.heap.size + 1 + 1 + 1 ≤ ((((w.alloc (.cells #[.int .i64 size, .slice at0 rs.length ct0] 42)).alloc (.cells #[.int .i64 vars, .slice ax cs.length cx] 46)).alloc (.cells #[.int .i64 va, .int .i64 aa, .int .i64 ka] 180)).drew).heap.size := by simp
   generalize (((w.alloc (.cells #[.int .i64 size, .slice at0 rs.length ct0] 42)).alloc (.cells #[.int .i64 vars, .slice ax cs.length cx] 46)).alloc (.cells #[.int .i64 va, .int .i64 aa, .int .i64 ka] 180)).drew = GY at *
   refine aV ?_
   refine gX fun K hK => ?_
   go_wp2_with (go_at_call 146; refine (iZ va 0 (vars - 1) _).mono ?_; rintro e w6 ⟨rfl, rfl, rfl⟩)
   refine ⟨(hs4.c7 0 0 0 1 1 0 1 1 2 0 2 1 2 2), ?_⟩
   refine aV ?_
   refine eG rfl (by rfl) ?_ ?_
   · exact hs4.c7 0 0 0 1 1 0 1 1 2 0 2 1 2 2
   (try simp only [Act.put, sI, sZ, sS])
   refine aV ?_
   refine eG rfl (by rfl) ?_ ?_
   · exact hs4.c7 0 0 0 1 1 0 1 1 2 0 2 1 2 2
   (try simp only [Act.put, sI, sZ, sS])
   refine aV ?_
   obtain ⟨aF, aH, aJ, aK, aW, aY, bn⟩ := hs4.c7 0 0 0 1 1 0 1 1 2 0 2 1 2 2
   refine iF ?_
   go_wp2_with fail
   go_ret
   exact ⟨ak H1.out.symm, hs4.bel⟩
 have h2 := bQ h1
 obtain ⟨vn, rfl⟩ : ∃ vn : Nat, va = (vn : Int) := ⟨va.toNat, by omega⟩
 have hvn : vn < ds.length := by have := Tn.out; omega
 have ajq : (vn : Int) < ds.length := by omega
 cases h3 : inB ka 0 ((cs.length : Int) - 1)
 · have H1 := qH (uq (t := (size, rs)) (x := (vars, cs)) (ds := ds) (s := ((vn : Int), aa, ka)) (by unfold ou; simp only [h3, Bool.and_false, Bool.false_and]))
   go_upto_region 1 with fail
   refine iT (fun w' => cI w' w.heap.size 0 size ∧ cV w' w.heap.size 1 (.slice at0 rs.length ct0) ∧ cI w' (w.heap.size + 1) 0 vars ∧ cV w' (w.heap.size + 1) 1 (.slice ax cs.length cx) ∧ cI w' (w.heap.size + 1 + 1) 0 (vn : Int) ∧ cI w' (w.heap.size + 1 + 1) 1 aa ∧ cI w' (w.heap.size + 1 + 1) 2 ka) (.z [0,1,2,3,4] (.hard 5 (.z [6,7,8,9,10,11,12,13] (.hard 14 (.z [15,16,17,18,19,20,21,22,23,24] (.hard 25 (.z [26,27] .nil))))))) ?_ ?_
   · exact (hs3.drew).c7 0 0 0 1 1 0 1 1 2 0 2 1 2 2
   have hs7 := hs3.drew
   clear aF aH aJ aK aW aY bn
   have aiQ : w.heap.size + 1 + 1 + 1 ≤ ((((w.alloc (.cells #[.int .i64 size, .slice at0 rs.length ct0] 42)).alloc (.cells #[.int .i64 vars, .slice ax cs.length cx] 46)).alloc (.cells #[.int .i64 (vn : Int), .int .i64 aa, .int .i64 ka] 180)).drew).heap.size := by simp
   generalize (((w.alloc (.cells #[.int .i64 size, .slice at0 rs.length ct0] 42)).alloc (.cells #[.int .i64 vars, .slice ax cs.length cx] 46)).alloc (.cells #[.int .i64 (vn : Int), .int .i64 aa, .int .i64 ka] 180)).drew = wd8 at *
   refine aV ?_
   refine gX fun K hK => ?_
   go_wp2_with (go_at_call 146; refine (iZ vn 0 (vars - 1) _).mono ?_; rintro e w9 ⟨rfl, rfl, rfl⟩)
   refine ⟨(hs7.c7 0 0 0 1 1 0 1 1 2 0 2 1 2 2), ?_⟩
   refine aV ?_
   refine gX fun K hK => ?_
   go_wp2_with (go_at_call 146; refine (iZ ka 0 ((cs.length : Int) - 1) _).mono ?_; rintro e w10 ⟨rfl, rfl, rfl⟩)
   refine ⟨(hs7.c7 0 0 0 1 1 0 1 1 2 0 2 1 2 2), ?_⟩
   refine aV ?_
   refine eG rfl (by rfl) ?_ ?_
   · exact hs7.c7 0 0 0 1 1 0 1 1 2 0 2 1 2 2
   (try simp only [Act.put, sI, sZ, sS])
   refine aV ?_
   obtain ⟨aF, aH, aJ, aK, aW, aY, bn⟩ := hs7.c7 0 0 0 1 1 0 1 1 2 0 2 1 2 2
   refine iF ?_
   go_wp2_with fail
   go_ret
   exact ⟨ak H1.out.symm, hs7.bel⟩
 have h4 := bQ h3
 obtain ⟨k, rfl⟩ : ∃ k : Nat, ka = (k : Int) := ⟨ka.toNat, by omega⟩
 have hk : k < cs.length := by omega
 have QH : (k : Int) < cs.length := by omega
 obtain ⟨b3, o3, u3, rfl, qd, hdn⟩ := bF rfl HDR.out vn hvn
 obtain ⟨a3, c3, rfl, _⟩ := ah hdn
 have Tt := qH hdn
 have FC := qH (show ds.getD vn [] = ds[vn] by rw [List.getD, List.getElem?_eq_getElem hvn]; rfl)
 have HF := qH (show ou (size, rs) (vars, cs) ds ((vn : Int), aa, (k : Int)) = nS ds[vn] aa by
  unfold ou
  simp only [h1, h3, Bool.true_and, Int.toNat_natCast]
  rw [FC.out])
 clear hdn
 generalize ds[vn] = D at *
 clear aF aH aJ aK aW aY bn
 obtain ⟨aF, aH, aJ, aK, aW, aY, bn⟩ := hs3.c7 0 0 0 1 1 0 1 1 2 0 2 1 2 2
 have Ag := qC hs3.bel qd
 cases h5 : nS D aa
 · have H1 := qH (uq (t := (size, rs)) (x := (vars, cs)) (ds := ds) (s := ((vn : Int), aa, (k : Int))) (by rw [HF.out, h5]))
   have HE := qH h5
   clear h5
   go_upto_region 1 with fail
   refine iT (fun w' => cI w' w.heap.size 0 size ∧ cV w' w.heap.size 1 (.slice at0 rs.length ct0) ∧ cI w' (w.heap.size + 1) 0 vars ∧ cV w' (w.heap.size + 1) 1 (.slice ax cs.length cx) ∧ cI w' (w.heap.size + 1 + 1) 0 (vn : Int) ∧ cI w' (w.heap.size + 1 + 1) 1 aa ∧ cI w' (w.heap.size + 1 + 1) 2 (k : Int) ∧ cV w' b3 (o3 + vn) (.slice a3 D.length c3)) (.z [0,1,2,3,4] (.hard 5 (.z [6,7,8,9,10,11,12,13] (.hard 14 (.z [15,16,17,18,19,20,21,22,23,24] (.hard 25 (.z [26,27] .nil))))))) ?_ ?_
   · exact (hs3.drew).d7 0 0 0 1 1 0 1 1 2 0 2 1 2 2 (qC (hs3.drew).bel qd:)
   have hs11 := hs3.drew
   clear aF aH aJ aK aW aY bn Ag
   have Xu : w.heap.size + 1 + 1 + 1 ≤ ((((w.alloc (.cells #[.int .i64 size, .slice at0 rs.length ct0] 42)).alloc (.cells #[.int .i64 vars, .slice ax cs.length cx] 46)).alloc (.cells #[.int .i64 (vn : Int), .int .i64 aa, .int .i64 (k : Int)] 180)).drew).heap.size := by simp
   generalize (((w.alloc (.cells #[.int .i64 size, .slice at0 rs.length ct0] 42)).alloc (.cells #[.int .i64 vars, .slice ax cs.length cx] 46)).alloc (.cells #[.int .i64 (vn : Int), .int .i64 aa, .int .i64 (k : Int)] 180)).drew = zZ at *
   refine aV ?_
   refine gX fun K hK => ?_
   go_wp2_with (go_at_call 146; refine (iZ vn 0 (vars - 1) _).mono ?_; rintro e w13 ⟨rfl, rfl, rfl⟩)
   refine ⟨(hs11.d7 0 0 0 1 1 0 1 1 2 0 2 1 2 2 (qC hs11.bel qd:)), ?_⟩
   refine aV ?_
   refine gX fun K hK => ?_
   go_wp2_with (go_at_call 146; refine (iZ k 0 ((cs.length : Int) - 1) _).mono ?_; rintro e w14 ⟨rfl, rfl, rfl⟩)
   refine ⟨(hs11.d7 0 0 0 1 1 0 1 1 2 0 2 1 2 2 (qC hs11.bel qd:)), ?_⟩
   refine aV ?_
   refine gX fun K hK => ?_
   go_wp2_with (go_at_call 205; refine (lQ D _ aa _ (Rd.mono Tt.out hs11.bel)).mono ?_; rintro e w15 ⟨rfl, yZ⟩)
   have Va : zZ.heap.size ≤ w15.heap.size := hZ yZ
   have qW := hs11.step yZ
   rw [HE.out]
   refine ⟨(qW.d7 0 0 0 1 1 0 1 1 2 0 2 1 2 2 (qC qW.bel qd:)), ?_⟩
   refine aV ?_
   obtain ⟨aF, aH, aJ, aK, aW, aY, bn⟩ := qW.c7 0 0 0 1 1 0 1 1 2 0 2 1 2 2
   have Ag := qC qW.bel qd
   refine iF ?_
   go_wp2_with fail
   go_ret
   exact ⟨ak H1.out.symm, qW.bel⟩
 obtain ⟨nr, hcn, hnr, hyl, hsv, ajr⟩ := HFC.out k hk
 obtain ⟨b, o, u0, u1, rfl, p0, p1, hy⟩ := dP rfl PW.out k hk
 have hyz := au rfl hy
 obtain ⟨rfl, _⟩ := aG hyz.1
 obtain ⟨a1, c1, rfl, _⟩ := ah hyz.2
 have qU := qH hyz.2
 have ae2 := qH hy
 have D9 := qH hyl
 have Y5 := qH hsv
 have HNR := qH hnr
 have ab8 := qH (fun (sc : List Int) (e : cs[k] = ((nr : Int), sc)) => JL (t := (size, rs)) (x := (vars, cs)) (ds := ds) (v := (vn : Int)) (a := aa) (by rw [HF.out, h5]) hk e)
 clear hyl hsv hnr hy hyz
 generalize hCC : cs[k] = CC at *
 obtain ⟨ci, sc⟩ := CC
 simp only at hcn p0 p1 qU ae2 D9 Y5 ajr
 subst hcn
 have HST := qH (ab8.out sc rfl)
 clear hCC ab8
 clear aF aH aJ aK aW aY bn Ag
 obtain ⟨aF, aH, aJ, aK, aW, aY, bn⟩ := hs3.c7 0 0 0 1 1 0 1 1 2 0 2 1 2 2
 obtain ⟨Ag, pF, qx⟩ := fQ hs3.bel qd p0 p1
 have HE := qH h5
 clear h5
 go_upto_region 1 with fail
 refine iT (fun w' => cI w' w.heap.size 0 size ∧ cV w' w.heap.size 1 (.slice at0 rs.length ct0) ∧ cI w' (w.heap.size + 1) 0 vars ∧ cV w' (w.heap.size + 1) 1 (.slice (some ⟨b, o, none⟩) cs.length cx) ∧ cI w' (w.heap.size + 1 + 1) 0 (vn : Int) ∧ cI w' (w.heap.size + 1 + 1) 1 aa ∧ cI w' (w.heap.size + 1 + 1) 2 (k : Int) ∧ cV w' b3 (o3 + vn) (.slice a3 D.length c3) ∧ cI w' b (o + k * 2) nr ∧ cV w' b (o + k * 2 + 1) (.slice a1 sc.length c1)) (.z [0,1,2,3,4] (.hard 5 (.z [6,7,8,9,10,11,12,13] (.hard 14 (.z [15,16,17,18,19,20,21,22,23,24] (.hard 25 (.z [26,27] .nil))))))) ?_ ?_
 · exact (hs3.drew).d7 0 0 0 1 1 0 1 1 2 0 2 1 2 2 (fQ (hs3.drew).bel qd p0 p1:)
 have Eu := hs3.drew
 clear aF aH aJ aK aW aY bn Ag pF qx
 have ao7 : w.heap.size + 1 + 1 + 1 ≤ ((((w.alloc (.cells #[.int .i64 size, .slice at0 rs.length ct0] 42)).alloc (.cells #[.int .i64 vars, .slice (some ⟨b, o, none⟩) cs.length cx] 46)).alloc (.cells #[.int .i64 (vn : Int), .int .i64 aa, .int .i64 (k : Int)] 180)).drew).heap.size := by simp
 generalize (((w.alloc (.cells #[.int .i64 size, .slice at0 rs.length ct0] 42)).alloc (.cells #[.int .i64 vars, .slice (some ⟨b, o, none⟩) cs.length cx] 46)).alloc (.cells #[.int .i64 (vn : Int), .int .i64 aa, .int .i64 (k : Int)] 180)).drew = ati at *
 refine aV ?_
 refine gX fun K hK => ?_
 go_wp2_with (go_at_call 146; refine (iZ vn 0 (vars - 1) _).mono ?_; rintro e YZ ⟨rfl, rfl, rfl⟩)
 refine ⟨(Eu.d7 0 0 0 1 1 0 1 1 2 0 2 1 2 2 (fQ Eu.bel qd p0 p1:)), ?_⟩
 refine aV ?_
 refine gX fun K hK => ?_
 go_wp2_with (go_at_call 146; refine (iZ k 0 ((cs.length : Int) - 1) _).mono ?_; rintro e w20 ⟨rfl, rfl, rfl⟩)
 refine ⟨(Eu.d7 0 0 0 1 1 0 1 1 2 0 2 1 2 2 (fQ Eu.bel qd p0 p1:)), ?_⟩
 refine aV ?_
 refine gX fun K hK => ?_
 go_wp2_with (go_at_call 205; refine (lQ D _ aa _ (Rd.mono Tt.out Eu.bel)).mono ?_; rintro e w21 ⟨rfl, Ns⟩)
 have ajj : ati.heap.size ≤ w21.heap.size := hZ Ns
 have je := Eu.step Ns
 rw [HE.out]
 refine ⟨(je.d7 0 0 0 1 1 0 1 1 2 0 2 1 2 2 (fQ je.bel qd p0 p1:)), ?_⟩
 refine aV ?_
 obtain ⟨aF, aH, aJ, aK, aW, aY, bn⟩ := je.c7 0 0 0 1 1 0 1 1 2 0 2 1 2 2
 obtain ⟨Ag, pF, qx⟩ := fQ je.bel qd p0 p1
 refine iF ?_
 obtain ⟨wc, hwc⟩ : ∃ x, x = w21 := ⟨_, rfl⟩
 subst hwc
 have e0 := (qC je.bel p0)
 have e1 := (qC je.bel p1)
 have e2 := (je.c 1 1)
 have e3 := (je.c 2 2)
 have nR := je.alloc #[.int .i64 nr, .slice a1 sc.length c1] 150 (n := wc.heap.size) (by simp)
 clear aF aH aJ aK aW aY bn Ag pF qx
 obtain ⟨aF, aH, aJ, aK, aW, aY, bn, dM⟩ := nR.c8 0 0 0 1 1 0 1 1 2 0 2 1 2 2 3 0
 have fF := nR.c 3 1
 obtain ⟨Ag, pF, qx⟩ := fQ nR.bel qd p0 p1
 obtain ⟨wA, hwA⟩ : ∃ x, x = (wc.alloc (.cells #[.int .i64 nr, .slice a1 sc.length c1] 150)) := ⟨_, rfl⟩
 have KH := qH (show St w wA.heap.size wA _ from by rw [hwA]; exact nR.up (by simp) (Nat.le_refl _))
 have HWA := qH hwA
 clear hwA
 go_wp2_with fail
 rw [← HWA.out]
 go_loopw [49] (fun i wl => ∃ p : Nat, p ≤ sc.length ∧ i = .int .i64 p ∧ Hid (Below wA.heap.size wA wl) ∧ Hid (∀ q, q < p → lY (rs.getD nr (0, [])).2 sc ds vn aa q = false)) (fun i _ => sc.length - (intOf i).toNat)
 case atStart => exact ⟨0, Nat.zero_le _, rfl, Below.refl _ _, fun i hi => absurd hi (Nat.not_lt_zero _)⟩
 obtain ⟨p, hp, rfl, hbl, hr⟩ := hrel
 have hs2 := KH.out.step hbl.out
 obtain ⟨aF, aH, aJ, aK, aW, aY, bn, dM⟩ := hs2.c8 0 0 0 1 1 0 1 1 2 0 2 1 2 2 3 0
 have fF := hs2.c 3 1
 obtain ⟨Ag, pF, qx⟩ := fQ hs2.bel qd p0 p1
 have HB := hbl
 by_cases hlt : p < sc.length
 rotate_left
 · obtain rfl : p = sc.length := by omega
   have hnl : ¬ ((sc.length : Int) < sc.length) := by omega
   have H9 := qH (show nT (size, rs) (vars, cs) ds ((vn : Int), aa, (k : Int)) = false by rw [HST.out]; exact G6 hr.out)
   have lu := qH hs2.bel
   go_wp2_with fail
   go_ret
   exact ⟨ak H9.out.symm, lu.out⟩
 have hpI : (p : Int) < sc.length := by omega
 obtain ⟨b5, o5, rfl, qk, _⟩ := aI (Rd.mono qU.out hs2.bel) p hlt
 have HPO := qH (show lY (rs.getD nr (0, [])).2 sc ds vn aa p = (decide (sc[p] = (vn : Int)) && !EM (rs.getD nr (0, [])).2 sc ds p aa) by
  unfold lY
  rw [show sc.getD p 0 = sc[p] by rw [List.getD, List.getElem?_eq_getElem hlt]; rfl])
 have pW := qH (fun (h : lY (rs.getD nr (0, [])).2 sc ds vn aa p = false) => show ∀ q, q < p + 1 → lY (rs.getD nr (0, [])).2 sc ds vn aa q = false from fun q hq => by
  rcases Nat.lt_or_ge q p with h1 | h1
  · exact hr.out q h1
  · obtain rfl : q = p := by omega
    exact h)
 have ae3 := qH (show ∀ v, v ∈ sc → 0 ≤ v ∧ v < (ds.length : Int) from fun v hv => by have h1 := Y5.out v hv; have h2 := Tn.out; omega)
 generalize sc[p] = SP at *
 by_cases h6 : SP = (vn : Int)
 rotate_left
 · have h6b : (SP == (vn : Int)) = false := by rw [beq_eq_false_iff_ne]; exact h6
   have H9 := qH (pW.out (by rw [HPO.out, decide_eq_false h6]; rfl))
   clear h6
   go_wp2_with fail
   go_roundw
   case rel => exact ⟨p + 1, by omega, by go_num, HB.out, H9.out⟩
   simp [intOf]; omega
 subst h6
 have ab9 := qH (show lY (rs.getD nr (0, [])).2 sc ds vn aa p = !EM (rs.getD nr (0, [])).2 sc ds p aa by rw [HPO.out, decide_eq_true rfl, Bool.true_and])
 go_wp2_with fail
 refine (O9 (size, rs) ((nr : Int), sc) ds p aa nr _ _ _ _ _ _ (Rd.mono HT.out hs2.bel) (Rd.mono ae2.out hs2.bel) (Rd.mono HD.out hs2.bel) rfl HNR.out hlt D9.out ae3.out).mono ?_
 rintro e w5 ⟨rfl, hb5⟩
 have Pn := qH (HB.out.trans (hb5.mono HB.out.size))
 cases hsup : EM (rs.getD nr (0, [])).2 sc ds p aa
 · have H9 := qH (show nT (size, rs) (vars, cs) ds ((vn : Int), aa, (k : Int)) = true by rw [HST.out]; exact G7 hlt (by rw [ab9.out, hsup]; rfl))
   have lu := qH (KH.out.bel.trans (Pn.out.mono KH.out.bel.size))
   clear hsup hb5
   go_wp2_with fail
   go_ret
   exact ⟨ak H9.out.symm, lu.out⟩
 have H9 := qH (pW.out (by rw [ab9.out, hsup]; rfl))
 clear hsup hb5
 go_wp2_with fail
 go_roundw
 case rel => exact ⟨p + 1, by omega, by go_num, Pn.out, H9.out⟩
 simp [intOf]; omega
theorem JM {t : dB} {x : Inst} {ds : List (List Int)} {va aa ka : Int} (h : nT t x ds (va, aa, ka) = true) : (0 ≤ va ∧ va ≤ x.1 - 1) ∧ nS (ds.getD va.toNat []) aa = true := by
 simp only [nT, ou, Bool.and_eq_true] at h
 exact ⟨bQ h.1.1.1, h.1.2⟩
theorem SC {l : List Int} {a : Int} (h : nS l a = true) : 0 < l.length := by
 cases l with
 | nil => cases h
 | cons y l => simp
theorem DY {t : dB} {x : Inst} {steps : List (Int × Int × Int)} {k : Nat} (hk : k < steps.length) (i : Nat) (D : List (List Int)) :
 kW t x (steps.drop k) i D = if nT t x D steps[k] then kW t x (steps.drop (k + 1)) (i + 1) (aeS D steps[k]) else ([], (i : Int), 8) := by
 rw [List.drop_eq_getElem_cons hk, kW]
theorem Pz (t : dB) (t0 t1 : Value) (x : Inst) (x0 x1 : Value) (ds : List (List Int)) (vp : Value) (steps : List (Int × Int × Int)) (vs : Value) (w : World) (ht : Rd w [t0, t1] t) (hx : Rd w [x0, x1] x) (hp : Rd w [vp] ds) (hs : Rd w [vs] steps) (hz : ∀ d, d ∈ ds → d.length ≤ 1048576) (hzs : steps.length ≤ 1048576) :
 Calls prog 173 #[.agg #[t0, t1], .agg #[x0, x1], vp, vs] w fun e w' => ∃ u0, e = .returned (.tuple #[u0, .int .i64 (eX t x ds steps).2.1, .int .i64 (eX t x ds steps).2.2]) ∧ aQ w.heap.size w' [u0] (eX t x ds steps).1 ∧ Below w.heap.size w w' := by
 obtain ⟨size, rs⟩ := t
 obtain ⟨vars, cs⟩ := x
 have HT := qH ht
 have HX := qH hx
 have HP := qH hp
 have HZ := qH hz
 have zt := au rfl ht
 obtain ⟨rfl, _⟩ := aG zt.1
 obtain ⟨at0, ct0, rfl, _⟩ := ah zt.2
 have zx := au rfl hx
 obtain ⟨rfl, _⟩ := aG zx.1
 obtain ⟨ax, cx, rfl, _⟩ := ah zx.2
 obtain ⟨a, c, rfl, _⟩ := ah hp
 obtain ⟨ast, cst, rfl, hsr⟩ := ah hs
 have HSR := qH hsr
 clear ht hx hp zt zx hz hs hsr
 have Ez := (St.start w).alloc #[.int .i64 size, .slice at0 rs.length ct0] 42 (n := w.heap.size) (by simp)
 have qR := Ez.alloc #[.int .i64 vars, .slice ax cs.length cx] 46 (n := w.heap.size + 1) (by simp)
 obtain ⟨aF, aH, aJ, aK⟩ := qR.c4 0 0 0 1 1 0 1 1
 go_enter func173, ntmps173
 go_wp2_with fail
 refine (Jv (size, rs) _ _ (vars, cs) _ _ ds _ _ (Rd.mono HT.out qR.bel) (Rd.mono HX.out qR.bel) (Rd.mono HP.out qR.bel) HZ.out).mono ?_
 rintro e w26 ⟨rfl, Bv⟩
 have acd : w.heap.size + 1 + 1 ≤ w26.heap.size := hZ Bv
 have lZ := qR.step Bv
 clear aF aH aJ aK
 obtain ⟨aF, aH, aJ, aK⟩ := lZ.c4 0 0 0 1 1 0 1 1
 cases h1 : mZ (size, rs) (vars, cs) ds
 · have H1 := qH (show eX (size, rs) (vars, cs) ds steps = ([], 0, 1) by unfold eX; rw [h1]; rfl)
   clear h1
   go_wp2_with fail
   refine bodyPost_ret (v := .tuple #[.slice none 0 0, .int .i64 0, .int .i64 1]) (by simp [results, results173, go_sem]) rfl ⟨_, by rw [H1.out], by rw [H1.out]; exact mg, lZ.bel⟩
 have HF := qH (Nk h1)
 have H1 := qH (show eX (size, rs) (vars, cs) ds steps = kW (size, rs) (vars, cs) steps 0 ds by unfold eX; rw [h1]; rfl)
 have hv1 := (aX HF.out.inst).2.1
 have hdl := HF.out.len
 have hdt := HF.out.ten
 simp only at hv1 hdl
 clear h1
 go_wp2_with fail
 refine (Vo ds _ _ (Rd.mono HP.out lZ.bel) (by omega) HZ.out).mono ?_
 rintro e w28 ⟨v2, rfl, hac, DZ⟩
 have ace : w26.heap.size ≤ w28.heap.size := hZ DZ
 have pz := lZ.step DZ
 clear aF aH aJ aK
 obtain ⟨aF, aH, aJ, aK⟩ := pz.c4 0 0 0 1 1 0 1 1
 obtain ⟨g2, c2, rfl⟩ := Nl hac (by omega)
 have HW := qH (show vI w g2 c2 ds.length [(w.heap.size, #[.int .i64 size, .slice at0 rs.length ct0], 42), (w.heap.size + 1, #[.int .i64 vars, .slice ax cs.length cx], 46)] w28 ds from
  ⟨pz.up pz.hi (Nat.le_refl _), hac.ip.wk (fun z hz => by
   have h8 := hz.1
   (try simp at h8)
   refine ⟨by omega, fun x hx => ?_⟩
   simp at hx
   rcases hx with rfl | rfl <;> (simp only; omega))⟩)
 have HDO := qH (show FK ds.length ds from ⟨rfl, HZ.out⟩)
 have Tn := qH hdl
 clear hac hdl
 go_wp2_with fail
 go_loopw [23] (fun i wl => ∃ (k : Nat) (D : List (List Int)), k ≤ steps.length ∧ i = .int .i64 k ∧ Hid (vI w g2 c2 ds.length [(w.heap.size, #[.int .i64 size, .slice at0 rs.length ct0], 42), (w.heap.size + 1, #[.int .i64 vars, .slice ax cs.length cx], 46)] wl D) ∧ Hid (FK ds.length D) ∧ Hid (kW (size, rs) (vars, cs) steps 0 ds = kW (size, rs) (vars, cs) (steps.drop k) k D)) (fun i _ => steps.length - (intOf i).toNat)
 case atStart => exact ⟨0, ds, Nat.zero_le _, rfl, HW.out, HDO.out, rfl⟩
 clear HW HDO
 obtain ⟨k, D, hk, rfl, hw, hdo, hrun⟩ := hrel
 have hs1 := hw.out.st
 obtain ⟨aF, aH, aJ, aK⟩ := hs1.c4 0 0 0 1 1 0 1 1
 by_cases hlt : k < steps.length
 rotate_left
 · obtain rfl : k = steps.length := by omega
   have hnl : ¬ ((steps.length : Int) < steps.length) := by omega
   have H2 := qH (show eX (size, rs) (vars, cs) ds steps = (D, 0, 0) by rw [H1.out, hrun.out, List.drop_length]; rfl)
   have D8 := qH (show aQ w.heap.size wr [.slice (some ⟨g2, 0, none⟩) ds.length c2] D from hw.out.dom.fresh (fun z hz => hz.1))
   have lu := qH hw.out.bel
   go_wp2_with fail
   refine bodyPost_ret (v := .tuple #[.slice (some ⟨g2, 0, none⟩) ds.length c2, .int .i64 0, .int .i64 0]) (by simp [results, results173, go_sem]) rfl ⟨_, by rw [H2.out], by rw [H2.out]; exact D8.out, lu.out⟩
 have hkl : (k : Int) < steps.length := by omega
 obtain ⟨b, o, u0, u1, u2, rfl, p0, p1, p2, hy⟩ := gU rfl HSR.out k hlt
 have HDR := qH (DY (t := (size, rs)) (x := (vars, cs)) hlt k D)
 have hy0 := au rfl hy
 have hy1 := au rfl hy0.2
 obtain ⟨rfl, _⟩ := aG hy0.1
 obtain ⟨rfl, _⟩ := aG hy1.1
 obtain ⟨rfl, _⟩ := aG hy1.2
 clear hy hy0 hy1
 generalize hss : steps[k] = SS at *
 obtain ⟨va, aa, ka⟩ := SS
 simp only at p0 p1 p2
 clear hss
 obtain ⟨e0, e1, e2⟩ := fQ hs1.bel p0 p1 p2
 have Xn := qH (hw.out.box #[.int .i64 va, .int .i64 aa, .int .i64 ka] 180)
 have hlr := hdo.out.len
 obtain ⟨wc, hwc⟩ : ∃ x, x = wr := ⟨_, rfl⟩
 subst hwc
 have qV := hs1.alloc #[.int .i64 va, .int .i64 aa, .int .i64 ka] 180 (n := wc.heap.size) (by simp)
 clear aF aH aJ aK
 obtain ⟨aF, aH, aJ, aK, aW, aY, bn⟩ := qV.c7 0 0 0 1 1 0 1 1 2 0 2 1 2 2
 go_wp2_with fail
 refine (SB (size, rs) (vars, cs) D va aa ka _ _ _ _ _ _ (Rd.mono HT.out qV.bel) (Rd.mono HX.out qV.bel) Xn.out.rd HF.out.inst (by rw [hlr]; exact Tn.out)).mono ?_
 rintro e w5 ⟨rfl, hb5⟩
 have SA := qH (Xn.out.step hb5)
 cases hso : nT (size, rs) (vars, cs) D (va, aa, ka)
 · have H2 := qH (show eX (size, rs) (vars, cs) ds steps = ([], (k : Int), 8) by rw [H1.out, hrun.out, HDR.out, hso]; rfl)
   have lu := qH SA.out.bel
   clear hso hb5
   go_wp2_with fail
   refine bodyPost_ret (v := .tuple #[.slice none 0 0, .int .i64 k, .int .i64 8]) (by simp [results, results173, go_sem]) rfl ⟨_, by rw [H2.out], by rw [H2.out]; exact mg, lu.out⟩
 obtain ⟨hva, hha⟩ := JM hso
 simp only at hva
 obtain ⟨vn, rfl⟩ : ∃ vn : Nat, va = (vn : Int) := ⟨va.toNat, by omega⟩
 rw [Int.toNat_natCast] at hha
 have hvn : vn < D.length := by have := Tn.out; omega
 have ajq : (vn : Int) < ds.length := by omega
 have atj : vn < ds.length := by omega
 have FC := qH (show D.getD vn [] = D[vn] by rw [List.getD, List.getElem?_eq_getElem hvn]; rfl)
 have pW := qH (show kW (size, rs) (vars, cs) steps 0 ds = kW (size, rs) (vars, cs) (steps.drop (k + 1)) (k + 1) (D.set vn (D[vn].filter (fun x => x != aa))) by
  rw [hrun.out, HDR.out, hso, ← FC.out]; rfl)
 have ajs := qH (show FK ds.length (D.set vn (D[vn].filter (fun x => x != aa))) by
  rw [← FC.out]
  exact XM (s := ((vn : Int), aa, ka)) hdo.out hvn)
 have hsm := hdo.out.small _ (List.getElem_mem hvn)
 rw [FC.out] at hha
 have hpos := SC hha
 have hs5 := SA.out.st
 obtain ⟨aE, cE, eE, hdE⟩ := ah SA.out.rd
 simp only [Value.slice.injEq, Option.some.injEq] at eE
 obtain ⟨rfl, ajt, rfl⟩ := eE
 obtain ⟨b6, o6, vd6, e6, qd6, VI⟩ := bF rfl hdE vn hvn
 simp only [Option.some.injEq, Addr.mk.injEq, and_true] at e6
 obtain ⟨rfl, rfl⟩ := e6
 obtain ⟨a7, c7, rfl, _⟩ := ah VI
 have aju := qH VI
 have atl := qH hpos
 have QG := qH hsm
 have HVN := qH hvn
 have Pn := qH (show Below w5.heap.size w5 w5 from Below.refl _ _)
 clear ajt hdE VI hso hha hpos hsm hlr
 generalize D[vn] = D6 at *
 rw [Nat.zero_add] at qd6
 go_upto_region 9 with fail
 refine iT (fun w' => cI w' w.heap.size 0 size ∧ cV w' w.heap.size 1 (.slice at0 rs.length ct0) ∧ cI w' (w.heap.size + 1) 0 vars ∧ cV w' (w.heap.size + 1) 1 (.slice ax cs.length cx) ∧ cI w' wc.heap.size 0 vn ∧ cI w' wc.heap.size 1 aa ∧ cI w' wc.heap.size 2 ka ∧ cV w' g2 vn (.slice a7 D6.length c7)) (.z [0,1,2,3,4,5,6,7,8,9] (.hard 10 (.float 11 (.last 12 .nil)))) ?_ ?_
 · exact ⟨(hs5.drew).c 0 0, (hs5.drew).c 0 1, (hs5.drew).c 1 0, (hs5.drew).c 1 1, (hs5.drew).c 2 0, (hs5.drew).c 2 1, (hs5.drew).c 2 2, qC (belowD _) qd6⟩
 have kM := hs5.drew
 have acf := qC (belowD _) qd6
 clear qd6
 have PD := qH (Pn.out.trans (((belowD _)).mono Pn.out.size))
 clear Pn
 have ao8 : w5.heap.size ≤ (w5.drew).heap.size := by simp
 generalize w5.drew = atm at *
 refine aV ?_
 refine gX fun K hK => ?_
 go_wp2_with (go_at_call 123; refine (YH D6 _ aa _ (Rd.mono aju.out PD.out) QG.out atl.out).mono ?_; rintro e w35 ⟨v6, rfl, hA6, IW⟩)
 have ahu : atm.heap.size ≤ w35.heap.size := hZ IW
 have F9 := kM.step IW
 have ajw := qC IW acf
 clear acf
 have acg := qH (PD.out.trans ((IW).mono PD.out.size))
 clear PD
 obtain ⟨a8, c8, rfl, _⟩ := hA6.len
 have HF6 := qH hA6.fresh
 clear hA6
 refine ⟨⟨F9.c 0 0, F9.c 0 1, F9.c 1 0, F9.c 1 1, F9.c 2 0, F9.c 2 1, F9.c 2 2, ajw⟩, ?_⟩
 refine aV ?_
 refine JY fun K hK => ?_
 obtain ⟨aF, aH, aJ, aK, aW, aY, bn⟩ := F9.c7 0 0 0 1 1 0 1 1 2 0 2 1 2 2
 have HP := qH ((SA.out.put acg.out (v := vn) HVN.out (aQ.lower HF6.out (by omega))).sub (bx' := [(w.heap.size, #[.int .i64 size, .slice at0 rs.length ct0], 42), (w.heap.size + 1, #[.int .i64 vars, .slice ax cs.length cx], 46)]) (fun x hx => by simp at hx ⊢; rcases hx with rfl | rfl <;> simp))
 have f6 := (SA.out.step acg.out).free (by have := HVN.out; omega) vn
 go_wp2_with fail
 refine iF ?_
 go_wp2_with fail
 go_roundw
 case rel => exact ⟨k + 1, _, by omega, by go_num, HP.out, ajs.out, pW.out⟩
 simp [intOf]; omega
end Go.Proofs.YtoblfnoaepbhfaaGreat
