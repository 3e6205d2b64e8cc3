import Derived.Test.YtoblfnoaepbhfaaGreatArcMBQz
set_option linter.unusedSimpArgs false
set_option linter.unusedVariables false
set_option maxHeartbeats 8000000
set_option maxRecDepth 100000
namespace Go.Proofs.YtoblfnoaepbhfaaGreat
open Go.Proofs.Tryz
open Go.RowKit Go.Shelf Go.IntWalk
open Rep (Rd Own sz)
def pG (sc y : List Int) (i j a b : Int) (p : Nat) : Bool := (sc.getD p 0 == i && y.getD p 0 != a) || (sc.getD p 0 == j && y.getD p 0 != b)
def jw (sc : List Int) (i j a b : Int) (y : List Int) : Bool := (List.range sc.length).all (fun p => !pG sc y i j a b p) && jh sc y
def iJ (ts : List (List Int)) (sc : List Int) (i j a b : Int) : Bool := (!nS sc i && !nS sc j) || ts.any (jw sc i j a b)
theorem Vy {sc y : List Int} {i j a b : Int} {p : Nat} (hp : p < sc.length) (h : pG sc y i j a b p = true) : jw sc i j a b y = false := by
 unfold jw
 rw [Bool.and_eq_false_iff]
 left
 rw [List.all_eq_false]
 exact ⟨p, List.mem_range.2 hp, by rw [h]; decide⟩
theorem YN {sc y : List Int} {i j a b : Int} (h : ∀ p, p < sc.length → pG sc y i j a b p = false) : jw sc i j a b y = jh sc y := by
 unfold jw
 have : (List.range sc.length).all (fun p => !pG sc y i j a b p) = true := by
  rw [List.all_eq_true]
  intro p hp
  rw [h p (List.mem_range.1 hp)]
  rfl
 rw [this, Bool.true_and]
theorem JH (ci : Int) (sc : List Int) (i j a b : Int) (bc bi bj ba bb : Nat) (v1 : Value) (ts : List (List Int)) (w : World) (XF : I64 ci) (hsc : Rd w [v1] sc)
 (hc0 : w.cell? ⟨bc, 0, none⟩ = some (.int .i64 ci)) (hc1 : w.cell? ⟨bc, 1, none⟩ = some v1) (hi : w.cell? ⟨bi, 0, none⟩ = some (.int .i64 i)) (hj : w.cell? ⟨bj, 0, none⟩ = some (.int .i64 j)) (ha : w.cell? ⟨ba, 0, none⟩ = some (.int .i64 a)) (hb : w.cell? ⟨bb, 0, none⟩ = some (.int .i64 b))
 (hts : ∀ y, y ∈ ts → y.length = sc.length) :
 IX 320 #[.pointer (some ⟨bc, 0, none⟩), .pointer (some ⟨bi, 0, none⟩), .pointer (some ⟨ba, 0, none⟩), .pointer (some ⟨bj, 0, none⟩), .pointer (some ⟨bb, 0, none⟩)] w ts (jw sc i j a b) := by
 intro W y u0 hbel hy hmem
 have D9 := qH (hts y hmem)
 obtain ⟨uU, vG, gi, gj, ga, gb⟩ := uZ hbel hc0 hc1 hi hj ha hb
 have qU := qH (Rd.mono hsc hbel)
 have HY := qH hy
 have MW := qH XF
 clear hc0 hc1 hi hj ha hb hsc hbel hmem hts XF
 show Calls prog 320 #[u0, .pointer (some ⟨bc, 0, none⟩), .pointer (some ⟨bi, 0, none⟩), .pointer (some ⟨ba, 0, none⟩), .pointer (some ⟨bj, 0, none⟩), .pointer (some ⟨bb, 0, none⟩)] W _
 obtain ⟨Vk, FI, rfl, Rq⟩ := ah qU.out
 obtain ⟨ay, cy, rfl, _⟩ := ah hy
 have hlb := (aN Rq).2
 unfold maxLen at hlb
 clear hy Rq
 have HCR := qH (show Rd W [.int .i64 ci, .slice Vk sc.length FI] (ci, sc) from ⟨[_], [_], rfl, ⟨rfl, MW.out⟩, qU.out⟩)
 have jQ := qC (St.start W).bel uU
 clear jQ
 obtain ⟨jQ, kP⟩ := iQ (St.start W).bel uU vG
 clear jQ kP
 obtain ⟨jQ, kP, gi_⟩ := fQ (St.start W).bel uU vG gi
 clear jQ kP gi_
 obtain ⟨jQ, kP, gi_, zn⟩ := jc (St.start W).bel uU vG gi gj
 clear jQ kP gi_ zn
 obtain ⟨jQ, kP, gi_, zn, yT⟩ := zI (St.start W).bel uU vG gi gj ga
 clear jQ kP gi_ zn yT
 obtain ⟨jQ, kP, gi_, zn, yT, RP⟩ := uZ (St.start W).bel uU vG gi gj ga gb
 go_enter func320, ntmps320
 go_wp2_with fail
 go_loopw [13] (fun i' wl => ∃ p : Nat, p ≤ sc.length ∧ i' = .int .i64 p ∧ Hid (Below W.heap.size W wl) ∧ Hid (∀ q, q < p → pG sc y i j a b q = false)) (fun i' _ => sc.length - (intOf i').toNat)
 case atStart => exact ⟨0, Nat.zero_le _, rfl, Below.refl _ _, fun q hq => absurd hq (Nat.not_lt_zero _)⟩
 obtain ⟨p, hp, rfl, hbl, hr⟩ := hrel
 have hs2 := (St.start W).step hbl.out
 obtain ⟨jQ, kP, gi_, zn, yT, RP⟩ := uZ hs2.bel uU vG gi gj ga gb
 have HB := hbl
 by_cases hlt : p < sc.length
 rotate_left
 · obtain rfl : p = sc.length := by omega
   have hnl : ¬ ((sc.length : Int) < sc.length) := by omega
   have H9 := qH (YN hr.out)
   go_wp2_with fail
   go_wp2_with fail
   refine (Jz (ci, sc) y _ _ _ _ (Rd.mono HCR.out hs2.bel) (Rd.mono HY.out hs2.bel) D9.out).mono ?_
   rintro e w36 ⟨rfl, Dt⟩
   have ahP : wr.heap.size ≤ w36.heap.size := hZ Dt
   have nY := hs2.step Dt
   clear HB
   clear jQ kP gi_ zn yT RP
   obtain ⟨jQ, kP, gi_, zn, yT, RP⟩ := uZ nY.bel uU vG gi gj ga gb
   go_wp2_with fail
   go_ret
   exact ⟨ak H9.out.symm, nY.bel⟩
 have hpI : (p : Int) < sc.length := by omega
 have hpy : p < y.length := by have := D9.out; omega
 have am5 : (p : Int) < y.length := by omega
 obtain ⟨b1, o1, rfl, qk, _⟩ := aI (Rd.mono qU.out hs2.bel) p hlt
 obtain ⟨b2, o2, rfl, qy, _⟩ := aI (Rd.mono HY.out hs2.bel) p hpy
 have FB := qH (show pG sc y i j a b p = ((sc[p] == i && y[p] != a) || (sc[p] == j && y[p] != b)) by
  unfold pG
  rw [show sc.getD p 0 = sc[p] by rw [List.getD, List.getElem?_eq_getElem hlt]; rfl, show y.getD p 0 = y[p] by rw [List.getD, List.getElem?_eq_getElem hpy]; rfl])
 have pW := qH (fun (h : pG sc y i j a b p = false) => show ∀ q, q < p + 1 → pG sc y i j a b q = false from fun q hq => by
  rcases Nat.lt_or_ge q p with h1 | h1
  · exact hr.out q h1
  · obtain rfl : q = p := by omega
    exact h)
 have Ve := qH (fun (h : pG sc y i j a b p = true) => Vy hlt h)
 generalize sc[p] = SP at *
 generalize y[p] = YP at *
 cases h1 : (SP == i)
 · cases h3 : (SP == j)
   · have H9 := qH (pW.out (by rw [FB.out, h1, h3]; rfl))
     go_upto_region 4 with fail
     refine iT (fun w' => cI w' bc 0 ci ∧ cV w' bc 1 (.slice (some ⟨b1, o1, none⟩) sc.length FI) ∧ cI w' bi 0 i ∧ cI w' bj 0 j ∧ cI w' ba 0 a ∧ cI w' bb 0 b ∧ cI w' b1 (o1 + p) SP ∧ cI w' b2 (o2 + p) YP) (.z [0,1,2,3,4,5,6,7,8,9,10,11,12,13,14,15,16,17,18,19,20,21,22,23] .nil) ?_ ?_
     · exact ⟨qC (hs2.drew).bel uU, qC (hs2.drew).bel vG, qC (hs2.drew).bel gi, qC (hs2.drew).bel gj, qC (hs2.drew).bel ga, qC (hs2.drew).bel gb, qC (belowD _) qk, qC (belowD _) qy⟩
     have kM := hs2.drew
     have avN := qC (belowD _) qk
     clear qk
     have avO := qC (belowD _) qy
     clear qy
     have am6 := qH (HB.out.trans (((belowD _)).mono HB.out.size))
     clear HB
     clear jQ kP gi_ zn yT RP
     have aeF : wr.heap.size ≤ (wr.drew).heap.size := by simp
     generalize wr.drew = arW at *
     refine aV ?_
     obtain ⟨jQ, kP, gi_, zn, yT, RP⟩ := uZ kM.bel uU vG gi gj ga gb
     refine iF ?_
     go_wp2_with fail
     go_roundw
     case rel => exact ⟨p + 1, by omega, by go_num, am6.out, H9.out⟩
     simp [intOf]; omega
   cases h4 : (YP != b)
   · have H9 := qH (pW.out (by rw [FB.out, h1, h3, h4]; rfl))
     go_upto_region 4 with fail
     refine iT (fun w' => cI w' bc 0 ci ∧ cV w' bc 1 (.slice (some ⟨b1, o1, none⟩) sc.length FI) ∧ cI w' bi 0 i ∧ cI w' bj 0 j ∧ cI w' ba 0 a ∧ cI w' bb 0 b ∧ cI w' b1 (o1 + p) SP ∧ cI w' b2 (o2 + p) YP) (.z [0,1,2,3,4,5,6,7,8,9,10,11,12,13,14,15,16,17,18,19,20,21,22,23] .nil) ?_ ?_
     · exact ⟨qC (hs2.drew).bel uU, qC (hs2.drew).bel vG, qC (hs2.drew).bel gi, qC (hs2.drew).bel gj, qC (hs2.drew).bel ga, qC (hs2.drew).bel gb, qC (belowD _) qk, qC (belowD _) qy⟩
     have y9 := hs2.drew
     have avP := qC (belowD _) qk
     clear qk
     have avQ := qC (belowD _) qy
     clear qy
     have abN := qH (HB.out.trans (((belowD _)).mono HB.out.size))
     clear HB
     clear jQ kP gi_ zn yT RP
     have aeX : wr.heap.size ≤ (wr.drew).heap.size := by simp
     generalize wr.drew = ajc at *
     refine aV ?_
     obtain ⟨jQ, kP, gi_, zn, yT, RP⟩ := uZ y9.bel uU vG gi gj ga gb
     refine iF ?_
     go_wp2_with fail
     go_roundw
     case rel => exact ⟨p + 1, by omega, by go_num, abN.out, H9.out⟩
     simp [intOf]; omega
   have H9 := qH (Ve.out (by rw [FB.out, h1, h3, h4]; rfl))
   go_upto_region 4 with fail
   refine iT (fun w' => cI w' bc 0 ci ∧ cV w' bc 1 (.slice (some ⟨b1, o1, none⟩) sc.length FI) ∧ cI w' bi 0 i ∧ cI w' bj 0 j ∧ cI w' ba 0 a ∧ cI w' bb 0 b ∧ cI w' b1 (o1 + p) SP ∧ cI w' b2 (o2 + p) YP) (.z [0,1,2,3,4,5,6,7,8,9,10,11,12,13,14,15,16,17,18,19,20,21,22,23] .nil) ?_ ?_
   · exact ⟨qC (hs2.drew).bel uU, qC (hs2.drew).bel vG, qC (hs2.drew).bel gi, qC (hs2.drew).bel gj, qC (hs2.drew).bel ga, qC (hs2.drew).bel gb, qC (belowD _) qk, qC (belowD _) qy⟩
   have qw := hs2.drew
   have avR := qC (belowD _) qk
   clear qk
   have avS := qC (belowD _) qy
   clear qy
   clear HB
   clear jQ kP gi_ zn yT RP
   have Xf : wr.heap.size ≤ (wr.drew).heap.size := by simp
   generalize wr.drew = ahr at *
   refine aV ?_
   obtain ⟨jQ, kP, gi_, zn, yT, RP⟩ := uZ qw.bel uU vG gi gj ga gb
   refine iF ?_
   go_wp2_with fail
   go_ret
   exact ⟨ak H9.out.symm, qw.bel⟩
 cases h2 : (YP != a)
 rotate_left
 · have H9 := qH (Ve.out (by rw [FB.out, h1, h2]; rfl))
   go_upto_region 4 with fail
   refine iT (fun w' => cI w' bc 0 ci ∧ cV w' bc 1 (.slice (some ⟨b1, o1, none⟩) sc.length FI) ∧ cI w' bi 0 i ∧ cI w' bj 0 j ∧ cI w' ba 0 a ∧ cI w' bb 0 b ∧ cI w' b1 (o1 + p) SP ∧ cI w' b2 (o2 + p) YP) (.z [0,1,2,3,4,5,6,7,8,9,10,11,12,13,14,15,16,17,18,19,20,21,22,23] .nil) ?_ ?_
   · exact ⟨qC (hs2.drew).bel uU, qC (hs2.drew).bel vG, qC (hs2.drew).bel gi, qC (hs2.drew).bel gj, qC (hs2.drew).bel ga, qC (hs2.drew).bel gb, qC (belowD _) qk, qC (belowD _) qy⟩
   have hs1 := hs2.drew
   have ayF := qC (belowD _) qk
   clear qk
   have ayG := qC (belowD _) qy
   clear qy
   clear HB
   clear jQ kP gi_ zn yT RP
   have OU : wr.heap.size ≤ (wr.drew).heap.size := by simp
   generalize wr.drew = GY at *
   refine aV ?_
   obtain ⟨jQ, kP, gi_, zn, yT, RP⟩ := uZ hs1.bel uU vG gi gj ga gb
   refine iF ?_
   go_wp2_with fail
   go_ret
   exact ⟨ak H9.out.symm, hs1.bel⟩
 cases h3 : (SP == j)
 · have H9 := qH (pW.out (by rw [FB.out, h1, h2, h3]; rfl))
   go_upto_region 4 with fail
   refine iT (fun w' => cI w' bc 0 ci ∧ cV w' bc 1 (.slice (some ⟨b1, o1, none⟩) sc.length FI) ∧ cI w' bi 0 i ∧ cI w' bj 0 j ∧ cI w' ba 0 a ∧ cI w' bb 0 b ∧ cI w' b1 (o1 + p) SP ∧ cI w' b2 (o2 + p) YP) (.z [0,1,2,3,4,5,6,7,8,9,10,11,12,13,14,15,16,17,18,19,20,21,22,23] .nil) ?_ ?_
   · exact ⟨qC (hs2.drew).bel uU, qC (hs2.drew).bel vG, qC (hs2.drew).bel gi, qC (hs2.drew).bel gj, qC (hs2.drew).bel ga, qC (hs2.drew).bel gb, qC (belowD _) qk, qC (belowD _) qy⟩
   have qW := hs2.drew
   have avT := qC (belowD _) qk
   clear qk
   have avU := qC (belowD _) qy
   clear qy
   have RQ := qH (HB.out.trans (((belowD _)).mono HB.out.size))
   clear HB
   clear jQ kP gi_ zn yT RP
   have aeY : wr.heap.size ≤ (wr.drew).heap.size := by simp
   generalize wr.drew = am7 at *
   refine aV ?_
   obtain ⟨jQ, kP, gi_, zn, yT, RP⟩ := uZ qW.bel uU vG gi gj ga gb
   refine iF ?_
   go_wp2_with fail
   go_roundw
   case rel => exact ⟨p + 1, by omega, by go_num, RQ.out, H9.out⟩
   simp [intOf]; omega
 cases h4 : (YP != b)
 · have H9 := qH (pW.out (by rw [FB.out, h1, h2, h3, h4]; rfl))
   go_upto_region 4 with fail
   refine iT (fun w' => cI w' bc 0 ci ∧ cV w' bc 1 (.slice (some ⟨b1, o1, none⟩) sc.length FI) ∧ cI w' bi 0 i ∧ cI w' bj 0 j ∧ cI w' ba 0 a ∧ cI w' bb 0 b ∧ cI w' b1 (o1 + p) SP ∧ cI w' b2 (o2 + p) YP) (.z [0,1,2,3,4,5,6,7,8,9,10,11,12,13,14,15,16,17,18,19,20,21,22,23] .nil) ?_ ?_
   · exact ⟨qC (hs2.drew).bel uU, qC (hs2.drew).bel vG, qC (hs2.drew).bel gi, qC (hs2.drew).bel gj, qC (hs2.drew).bel ga, qC (hs2.drew).bel gb, qC (belowD _) qk, qC (belowD _) qy⟩
   have hs11 := hs2.drew
   have avV := qC (belowD _) qk
   clear qk
   have avW := qC (belowD _) qy
   clear qy
   have RS := qH (HB.out.trans (((belowD _)).mono HB.out.size))
   clear HB
   clear jQ kP gi_ zn yT RP
   have aeZ : wr.heap.size ≤ (wr.drew).heap.size := by simp
   generalize wr.drew = am8 at *
   refine aV ?_
   obtain ⟨jQ, kP, gi_, zn, yT, RP⟩ := uZ hs11.bel uU vG gi gj ga gb
   refine iF ?_
   go_wp2_with fail
   go_roundw
   case rel => exact ⟨p + 1, by omega, by go_num, RS.out, H9.out⟩
   simp [intOf]; omega
 have H9 := qH (Ve.out (by rw [FB.out, h1, h2, h3, h4]; rfl))
 go_upto_region 4 with fail
 refine iT (fun w' => cI w' bc 0 ci ∧ cV w' bc 1 (.slice (some ⟨b1, o1, none⟩) sc.length FI) ∧ cI w' bi 0 i ∧ cI w' bj 0 j ∧ cI w' ba 0 a ∧ cI w' bb 0 b ∧ cI w' b1 (o1 + p) SP ∧ cI w' b2 (o2 + p) YP) (.z [0,1,2,3,4,5,6,7,8,9,10,11,12,13,14,15,16,17,18,19,20,21,22,23] .nil) ?_ ?_
 · exact ⟨qC (hs2.drew).bel uU, qC (hs2.drew).bel vG, qC (hs2.drew).bel gi, qC (hs2.drew).bel gj, qC (hs2.drew).bel ga, qC (hs2.drew).bel gb, qC (belowD _) qk, qC (belowD _) qy⟩
 have hs6 := hs2.drew
 have ayH := qC (belowD _) qk
 clear qk
 have ayI := qC (belowD _) qy
 clear qy
 clear HB
 clear jQ kP gi_ zn yT RP
 have aoX : wr.heap.size ≤ (wr.drew).heap.size := by simp
 generalize wr.drew = ayJ at *
 refine aV ?_
 obtain ⟨jQ, kP, gi_, zn, yT, RP⟩ := uZ hs6.bel uU vG gi gj ga gb
 refine iF ?_
 go_wp2_with fail
 go_ret
 exact ⟨ak H9.out.symm, hs6.bel⟩
theorem abO (c : nI) (t : dB) (i j a b : Int) (n : Nat) (c0 c1 t0 t1 : Value) (w : World) (hc : Rd w [c0, c1] c) (ht : Rd w [t0, t1] t) (hn : c.1 = (n : Int)) (hnl : n < t.2.length) (hts : ∀ y, y ∈ (t.2.getD n (0, [])).2 → y.length = c.2.length) :
 Calls prog 252 #[.agg #[c0, c1], .agg #[t0, t1], .int .i64 i, .int .i64 j, .int .i64 a, .int .i64 b] w fun e w' => e = .returned (.bool (iJ (t.2.getD n (0, [])).2 c.2 i j a b)) ∧ Below w.heap.size w w' := by
 obtain ⟨size, rs⟩ := t
 obtain ⟨ci, sc⟩ := c
 simp only at hn hnl hts ⊢
 subst hn
 have zt := au rfl ht
 obtain ⟨rfl, _⟩ := aG zt.1
 obtain ⟨at0, ct0, rfl, hrs⟩ := ah zt.2
 have zc := au rfl hc
 obtain ⟨rfl, XF⟩ := aG zc.1
 obtain ⟨Vk, FI, rfl, _⟩ := ah zc.2
 have qU := qH zc.2
 have eg : ∀ args w, (callFunc 320 args).run prog w = .ok (.enter 320 args) w := enters_of func320 (by kernel_rfl) rfl
 have hnI : (n : Int) < rs.length := by omega
 obtain ⟨b1, o1, u0, u1, rfl, q0, q1, hy⟩ := dP rfl hrs n hnl
 have hyz := au rfl hy
 obtain ⟨a1, c1, rfl, _⟩ := ah hyz.2
 have Tm := qH hyz.2
 have hgd : rs.getD n (0, []) = rs[n] := by rw [List.getD, List.getElem?_eq_getElem hnl]; rfl
 rw [hgd] at hts ⊢
 have U0 := qH hts
 have MW := qH XF
 clear ht hc zt zc hrs hy hyz hgd hts XF q0
 generalize rs[n].2 = ts at *
 have H0 := qH (fun (h : (!nS sc i && !nS sc j) = true) => show iJ ts sc i j a b = true by unfold iJ; rw [h]; rfl)
 have H1 := qH (fun (h : (!nS sc i && !nS sc j) = false) => show iJ ts sc i j a b = ts.any (jw sc i j a b) by unfold iJ; rw [h]; rfl)
 have dO := qC (St.start w).bel q1
 have asP := (St.start w).alloc #[.int .i64 n, .slice Vk sc.length FI] 150 (n := w.heap.size) (by simp)
 clear dO
 have sF := asP.alloc #[.int .i64 size, .slice (some ⟨b1, o1, none⟩) rs.length ct0] 42 (n := w.heap.size + 1) (by simp)
 have mY := sF.alloc #[.int .i64 i] 2 (n := w.heap.size + 1 + 1) (by simp)
 have Jb := mY.alloc #[.int .i64 j] 2 (n := w.heap.size + 1 + 1 + 1) (by simp)
 have pV := Jb.alloc #[.int .i64 a] 2 (n := w.heap.size + 1 + 1 + 1 + 1) (by simp)
 have wQ := pV.alloc #[.int .i64 b] 2 (n := w.heap.size + 1 + 1 + 1 + 1 + 1) (by simp)
 obtain ⟨aF, aH, aJ, aK, aW, dM, nP, Gi⟩ := wQ.c8 0 0 0 1 1 0 1 1 2 0 3 0 4 0 5 0
 have dO := qC wQ.bel q1
 go_enter func252, ntmps252
 go_wp2_with fail
 refine (lQ sc _ i _ (Rd.mono qU.out wQ.bel)).mono ?_
 rintro e w45 ⟨rfl, agl⟩
 have asQ : w.heap.size + 1 + 1 + 1 + 1 + 1 + 1 ≤ w45.heap.size := hZ agl
 have rY := wQ.step agl
 clear aF aH aJ aK aW dM nP Gi dO
 obtain ⟨aF, aH, aJ, aK, aW, dM, nP, Gi⟩ := rY.c8 0 0 0 1 1 0 1 1 2 0 3 0 4 0 5 0
 have dO := qC rY.bel q1
 cases h1 : nS sc i
 rotate_left
 · have H9 := qH (H1.out (by rw [h1]; rfl))
   clear h1
   go_wp2_with fail
   refine (jR ts _ 320 _ (jw sc i j a b) _ (Rd.mono Tm.out rY.bel) eg (JH n sc i j a b (w.heap.size) (w.heap.size + 1 + 1) (w.heap.size + 1 + 1 + 1) (w.heap.size + 1 + 1 + 1 + 1) (w.heap.size + 1 + 1 + 1 + 1 + 1) _ ts _ MW.out (Rd.mono qU.out rY.bel) (rY.c 0 0) (rY.c 0 1) (rY.c 2 0) (rY.c 3 0) (rY.c 4 0) (rY.c 5 0) U0.out)).mono ?_
   rintro e w9 ⟨rfl, zA⟩
   have HB := qH (rY.bel.trans (zA.mono rY.bel.size))
   clear zA
   go_wp2_with fail
   go_ret
   exact ⟨ak H9.out.symm, HB.out⟩
 go_wp2_with fail
 refine (lQ sc _ j _ (Rd.mono qU.out rY.bel)).mono ?_
 rintro e w47 ⟨rfl, agm⟩
 have asR : w45.heap.size ≤ w47.heap.size := hZ agm
 have xC := rY.step agm
 clear aF aH aJ aK aW dM nP Gi dO
 obtain ⟨aF, aH, aJ, aK, aW, dM, nP, Gi⟩ := xC.c8 0 0 0 1 1 0 1 1 2 0 3 0 4 0 5 0
 have dO := qC xC.bel q1
 cases h2 : nS sc j
 · have H9 := qH (H0.out (by rw [h1, h2]; rfl))
   clear h1 h2
   go_wp2_with fail
   go_ret
   exact ⟨ak H9.out.symm, xC.bel⟩
 have H9 := qH (H1.out (by rw [h1, h2]; rfl))
 clear h1 h2
 go_wp2_with fail
 refine (jR ts _ 320 _ (jw sc i j a b) _ (Rd.mono Tm.out xC.bel) eg (JH n sc i j a b (w.heap.size) (w.heap.size + 1 + 1) (w.heap.size + 1 + 1 + 1) (w.heap.size + 1 + 1 + 1 + 1) (w.heap.size + 1 + 1 + 1 + 1 + 1) _ ts _ MW.out (Rd.mono qU.out xC.bel) (xC.c 0 0) (xC.c 0 1) (xC.c 2 0) (xC.c 3 0) (xC.c 4 0) (xC.c 5 0) U0.out)).mono ?_
 rintro e w9 ⟨rfl, zA⟩
 have HB := qH (xC.bel.trans (zA.mono xC.bel.size))
 clear zA
 go_wp2_with fail
 go_ret
 exact ⟨ak H9.out.symm, HB.out⟩
theorem Vz (rs : List bH) (ci : Int) (sc : List Int) (i j a b : Int) (n tb cb co : Nat) (vr vs : Value) (w : World) (hrs : Rd w [vr] rs) (hsc : Rd w [vs] sc)
 (ht1 : w.cell? ⟨tb, 1, none⟩ = some vr) (hc0 : w.cell? ⟨cb, co, none⟩ = some (.int .i64 n)) (hc1 : w.cell? ⟨cb, co + 1, none⟩ = some vs) (hnl : n < rs.length) (hts : ∀ y, y ∈ (rs.getD n (0, [])).2 → y.length = sc.length) :
 Calls prog 112 #[.pointer (some ⟨tb, 0, none⟩), .pointer (some ⟨cb, co, none⟩), .int .i64 i, .int .i64 j, .int .i64 a, .int .i64 b] w fun e w' => e = .returned (.bool (iJ (rs.getD n (0, [])).2 sc i j a b)) ∧ Below w.heap.size w w' := by
 obtain ⟨ar, cr, rfl, hrr⟩ := ah hrs
 obtain ⟨Vk, FI, rfl, Rq⟩ := ah hsc
 have hbs := (aN Rq).2
 unfold maxLen at hbs
 have qU := qH hsc
 have hnI : (n : Int) < rs.length := by omega
 obtain ⟨b1, o1, u0, u1, rfl, q0, q1, hy⟩ := dP rfl hrr n hnl
 have hyz := au rfl hy
 obtain ⟨a1, c1, rfl, htr⟩ := ah hyz.2
 have hbt := (aN htr).2
 unfold maxLen at hbt
 have Ov := qH htr
 have hgd : rs.getD n (0, []) = rs[n] := by rw [List.getD, List.getElem?_eq_getElem hnl]; rfl
 rw [hgd] at hts ⊢
 have U0 := qH hts
 clear hrs hsc hrr Rq hy hyz hgd hts q0 htr
 generalize rs[n].2 = ts at *
 have H0 := qH (fun (h : (!nS sc i && !nS sc j) = true) => show iJ ts sc i j a b = true by unfold iJ; rw [h]; rfl)
 have H1 := qH (fun (h : (!nS sc i && !nS sc j) = false) => show iJ ts sc i j a b = ts.any (jw sc i j a b) by unfold iJ; rw [h]; rfl)
 have kE := qC (St.start w).bel ht1
 clear kE
 obtain ⟨kE, gI⟩ := iQ (St.start w).bel ht1 hc0
 clear kE gI
 obtain ⟨kE, gI, iD⟩ := fQ (St.start w).bel ht1 hc0 hc1
 clear kE gI iD
 obtain ⟨kE, gI, iD, dO⟩ := jc (St.start w).bel ht1 hc0 hc1 q1
 go_enter func112, ntmps112
 go_wp2_with fail
 refine (xG sc _ i _ (Rd.mono qU.out (St.start w).bel)).mono ?_
 rintro e w49 ⟨rfl, RU⟩
 have aje : w.heap.size ≤ w49.heap.size := hZ RU
 have Ci := (St.start w).step RU
 clear kE gI iD dO
 obtain ⟨kE, gI, iD, dO⟩ := jc Ci.bel ht1 hc0 hc1 q1
 have key : ∀ (K : Prop), K → K := fun _ h => h
 cases h1 : nS sc i
 rotate_left
 · have H9 := qH (H1.out (by rw [h1]; rfl))
   clear h1
   go_wp2_with fail
   go_upto_region 3 with fail
   refine iT (fun w' => cV w' tb 1 (.slice (some ⟨b1, o1, none⟩) rs.length cr) ∧ cI w' cb co n ∧ cV w' cb (co + 1) (.slice Vk sc.length FI) ∧ cV w' b1 (o1 + n * 2 + 1) (.slice a1 ts.length c1)) (.z [0,1,2,3,4,5,6,7,8,9] .nil) ?_ ?_
   · exact (jc (Ci.drew).bel ht1 hc0 hc1 q1:)
   have Cj := Ci.drew
   clear kE gI iD dO
   have aoY : w49.heap.size ≤ (w49.drew).heap.size := by simp
   generalize w49.drew = asT at *
   refine aV ?_
   obtain ⟨kE, gI, iD, dO⟩ := jc Cj.bel ht1 hc0 hc1 q1
   refine iF ?_
   obtain ⟨wA, rfl⟩ : ∃ x, x = asT := ⟨_, rfl⟩
   have Jp := qH Cj.bel
   go_wp2_with fail
   go_loopw [14] (fun iv wl => ∃ k : Nat, k ≤ ts.length ∧ iv = .int .i64 k ∧ Hid (Below wA.heap.size wA wl) ∧ Hid (∀ q (hq : q < ts.length), q < k → jw sc i j a b ts[q] = false)) (fun iv _ => ts.length - (intOf iv).toNat)
   case atStart => exact ⟨0, Nat.zero_le _, rfl, Below.refl _ _, fun q hq h => absurd h (Nat.not_lt_zero _)⟩
   obtain ⟨k, hk, rfl, hbl, hr⟩ := hrel
   have hs2 := (St.start w).step (Jp.out.trans (hbl.out.mono Jp.out.size))
   obtain ⟨kE, gI, iD, dO⟩ := jc hs2.bel ht1 hc0 hc1 q1
   have HB := hbl
   by_cases hlt : k < ts.length
   rotate_left
   · obtain rfl : k = ts.length := by omega
     have hnl : ¬ ((ts.length : Int) < ts.length) := by omega
     have H7 := qH (show iJ ts sc i j a b = false by
      rw [H9.out, List.any_eq_false]
      intro y hy
      obtain ⟨q, hq, rfl⟩ := List.getElem_of_mem hy
      rw [hr.out q hq hq]
      decide)
     have lu := qH hs2.bel
     go_wp2_with fail
     go_ret
     exact ⟨ak H7.out.symm, lu.out⟩
   have hkl : (k : Int) < ts.length := by omega
   obtain ⟨b2, o2, u2, rfl, qd, Y6⟩ := bF rfl Ov.out k hlt
   obtain ⟨a2, c2, rfl, _⟩ := ah Y6
   have HY := qH Y6
   have D9 := qH (U0.out _ (List.getElem_mem hlt))
   have HNT := qH (fun (h : jw sc i j a b ts[k] = false) => show ∀ q (hq : q < ts.length), q < k + 1 → jw sc i j a b ts[q] = false from fun q hq hqk => by
    rcases Nat.lt_or_ge q k with h1 | h1
    · exact hr.out q hq h1
    · obtain rfl : q = k := by omega
      exact h)
   have HYT := qH (fun (h : jw sc i j a b ts[k] = true) => show ts.any (jw sc i j a b) = true from List.any_eq_true.2 ⟨_, List.getElem_mem hlt, h⟩)
   clear Y6
   generalize ts[k] = y at *
   clear kE gI iD dO
   obtain ⟨kE, gI, iD, dO, Ag⟩ := zI hs2.bel ht1 hc0 hc1 q1 qd
   go_wp2_with fail
   refine (Cm n sc y cb co _ _ _ (Rd.mono qU.out hs2.bel) (qC hs2.bel hc1) (Rd.mono HY.out hs2.bel) D9.out).mono ?_
   rintro e w5 ⟨rfl, hb5⟩
   have Pn := qH (HB.out.trans (hb5.mono HB.out.size))
   clear hb5
   go_wp2_with fail
   go_loopw [15, 16] (fun okv kv wl => ∃ (p : Nat) (O : Bool), p ≤ sc.length ∧ kv = .int .i64 p ∧ okv = .bool O ∧ Hid (Below wA.heap.size wA wl) ∧ Hid (O = (jh sc y && (List.range p).all (fun q => !pG sc y i j a b q)))) (fun _ kv _ => sc.length - (intOf kv).toNat)
   case atStart => exact ⟨0, jh sc y, Nat.zero_le _, rfl, rfl, Pn.out, by simp [Hid]⟩
   clear Pn
   obtain ⟨p, O, hp, rfl, rfl, zV, hO⟩ := hrel
   have hs3 := (St.start w).step (Jp.out.trans (zV.out.mono Jp.out.size))
   obtain ⟨kE, gI, iD, dO, Ag⟩ := zI hs3.bel ht1 hc0 hc1 q1 qd
   have HB := zV
   by_cases hpl : p < sc.length
   rotate_left
   · obtain rfl : p = sc.length := by omega
     have hnp : ¬ ((sc.length : Int) < sc.length) := by omega
     have HOE := qH (show O = jw sc i j a b y by rw [hO.out]; unfold jw; rw [Bool.and_comm])
     cases hOv : O
     · have H8 := qH (HNT.out (by rw [← HOE.out, hOv]))
       clear hOv
       go_wp2_with fail
       go_roundw
       case rel => exact ⟨k + 1, by omega, by go_num, HB.out, H8.out⟩
       simp [intOf]; omega
     have H8 := qH (HYT.out (by rw [← HOE.out, hOv]))
     have H7 := qH (show iJ ts sc i j a b = true by rw [H9.out, H8.out])
     clear hOv
     go_wp2_with fail
     go_ret
     exact ⟨ak H7.out.symm, hs3.bel⟩
   have hpI : (p : Int) < sc.length := by omega
   have hpy : p < y.length := by have := D9.out; omega
   have am5 : (p : Int) < y.length := by omega
   obtain ⟨b3, o3, rfl, qk, _⟩ := aI (Rd.mono qU.out hs3.bel) p hpl
   obtain ⟨b4, o4, rfl, qy, _⟩ := aI (Rd.mono HY.out hs3.bel) p hpy
   have FB := qH (show pG sc y i j a b p = ((sc[p] == i && y[p] != a) || (sc[p] == j && y[p] != b)) by
    unfold pG
    rw [show sc.getD p 0 = sc[p] by rw [List.getD, List.getElem?_eq_getElem hpl]; rfl, show y.getD p 0 = y[p] by rw [List.getD, List.getElem?_eq_getElem hpy]; rfl])
   have AO := qH (show (List.range (p + 1)).all (fun q => !pG sc y i j a b q) = ((List.range p).all (fun q => !pG sc y i j a b q) && !pG sc y i j a b p) by rw [List.range_succ, List.all_append]; simp)
   have pW := qH (fun (h : pG sc y i j a b p = false) => show O = (jh sc y && (List.range (p + 1)).all (fun q => !pG sc y i j a b q)) by rw [AO.out, h, hO.out]; simp)
   have RX := qH (fun (h : pG sc y i j a b p = true) => show false = (jh sc y && (List.range (p + 1)).all (fun q => !pG sc y i j a b q)) by rw [AO.out, h]; simp)
   generalize sc[p] = SP at *
   generalize y[p] = YP at *
   cases h1 : (SP == i)
   · cases h3 : (SP == j)
     · have H9 := qH (pW.out (by rw [FB.out, h1, h3]; rfl))
       go_wp2_with fail
       go_roundw
       case rel => exact ⟨p + 1, O, by omega, by go_num, rfl, HB.out, H9.out⟩
       simp [intOf]; omega
     cases h4 : (YP != b)
     · have H9 := qH (pW.out (by rw [FB.out, h1, h3, h4]; rfl))
       go_wp2_with fail
       go_roundw
       case rel => exact ⟨p + 1, O, by omega, by go_num, rfl, HB.out, H9.out⟩
       simp [intOf]; omega
     have H9 := qH (RX.out (by rw [FB.out, h1, h3, h4]; rfl))
     go_wp2_with fail
     go_roundw
     case rel => exact ⟨p + 1, false, by omega, by go_num, rfl, HB.out, H9.out⟩
     simp [intOf]; omega
   cases h2 : (YP != a)
   rotate_left
   · have H9 := qH (RX.out (by rw [FB.out, h1, h2]; rfl))
     go_wp2_with fail
     go_roundw
     case rel => exact ⟨p + 1, false, by omega, by go_num, rfl, HB.out, H9.out⟩
     simp [intOf]; omega
   cases h3 : (SP == j)
   · have H9 := qH (pW.out (by rw [FB.out, h1, h2, h3]; rfl))
     go_wp2_with fail
     go_roundw
     case rel => exact ⟨p + 1, O, by omega, by go_num, rfl, HB.out, H9.out⟩
     simp [intOf]; omega
   cases h4 : (YP != b)
   · have H9 := qH (pW.out (by rw [FB.out, h1, h2, h3, h4]; rfl))
     go_wp2_with fail
     go_roundw
     case rel => exact ⟨p + 1, O, by omega, by go_num, rfl, HB.out, H9.out⟩
     simp [intOf]; omega
   have H9 := qH (RX.out (by rw [FB.out, h1, h2, h3, h4]; rfl))
   go_wp2_with fail
   go_roundw
   case rel => exact ⟨p + 1, false, by omega, by go_num, rfl, HB.out, H9.out⟩
   simp [intOf]; omega
 go_wp2_with fail
 refine (xG sc _ j _ (Rd.mono qU.out Ci.bel)).mono ?_
 rintro e w51 ⟨rfl, agn⟩
 have asX : w49.heap.size ≤ w51.heap.size := hZ agn
 have ae0 := Ci.step agn
 clear kE gI iD dO
 obtain ⟨kE, gI, iD, dO⟩ := jc ae0.bel ht1 hc0 hc1 q1
 cases h2 : nS sc j
 · have H9 := qH (H0.out (by rw [h1, h2]; rfl))
   clear h1 h2
   go_wp2_with fail
   go_ret
   exact ⟨ak H9.out.symm, ae0.bel⟩
 have H9 := qH (H1.out (by rw [h1, h2]; rfl))
 clear h1 h2
 go_wp2_with fail
 go_upto_region 3 with fail
 refine iT (fun w' => cV w' tb 1 (.slice (some ⟨b1, o1, none⟩) rs.length cr) ∧ cI w' cb co n ∧ cV w' cb (co + 1) (.slice Vk sc.length FI) ∧ cV w' b1 (o1 + n * 2 + 1) (.slice a1 ts.length c1)) (.z [0,1,2,3,4,5,6,7,8,9] .nil) ?_ ?_
 · exact (jc (ae0.drew).bel ht1 hc0 hc1 q1:)
 have zl := ae0.drew
 clear kE gI iD dO
 have aeI : w51.heap.size ≤ (w51.drew).heap.size := by simp
 generalize w51.drew = aiU at *
 refine aV ?_
 obtain ⟨kE, gI, iD, dO⟩ := jc zl.bel ht1 hc0 hc1 q1
 refine iF ?_
 obtain ⟨wA, rfl⟩ : ∃ x, x = aiU := ⟨_, rfl⟩
 have Jp := qH zl.bel
 go_wp2_with fail
 go_loopw [14] (fun iv wl => ∃ k : Nat, k ≤ ts.length ∧ iv = .int .i64 k ∧ Hid (Below wA.heap.size wA wl) ∧ Hid (∀ q (hq : q < ts.length), q < k → jw sc i j a b ts[q] = false)) (fun iv _ => ts.length - (intOf iv).toNat)
 case atStart => exact ⟨0, Nat.zero_le _, rfl, Below.refl _ _, fun q hq h => absurd h (Nat.not_lt_zero _)⟩
 obtain ⟨k, hk, rfl, hbl, hr⟩ := hrel
 have hs2 := (St.start w).step (Jp.out.trans (hbl.out.mono Jp.out.size))
 obtain ⟨kE, gI, iD, dO⟩ := jc hs2.bel ht1 hc0 hc1 q1
 have HB := hbl
 by_cases hlt : k < ts.length
 rotate_left
 · obtain rfl : k = ts.length := by omega
   have hnl : ¬ ((ts.length : Int) < ts.length) := by omega
   have H7 := qH (show iJ ts sc i j a b = false by
    rw [H9.out, List.any_eq_false]
    intro y hy
    obtain ⟨q, hq, rfl⟩ := List.getElem_of_mem hy
    rw [hr.out q hq hq]
    decide)
   have lu := qH hs2.bel
   go_wp2_with fail
   go_ret
   exact ⟨ak H7.out.symm, lu.out⟩
 have hkl : (k : Int) < ts.length := by omega
 obtain ⟨b2, o2, u2, rfl, qd, Y6⟩ := bF rfl Ov.out k hlt
 obtain ⟨a2, c2, rfl, _⟩ := ah Y6
 have HY := qH Y6
 have D9 := qH (U0.out _ (List.getElem_mem hlt))
 have HNT := qH (fun (h : jw sc i j a b ts[k] = false) => show ∀ q (hq : q < ts.length), q < k + 1 → jw sc i j a b ts[q] = false from fun q hq hqk => by
  rcases Nat.lt_or_ge q k with h1 | h1
  · exact hr.out q hq h1
  · obtain rfl : q = k := by omega
    exact h)
 have HYT := qH (fun (h : jw sc i j a b ts[k] = true) => show ts.any (jw sc i j a b) = true from List.any_eq_true.2 ⟨_, List.getElem_mem hlt, h⟩)
 clear Y6
 generalize ts[k] = y at *
 clear kE gI iD dO
 obtain ⟨kE, gI, iD, dO, Ag⟩ := zI hs2.bel ht1 hc0 hc1 q1 qd
 go_wp2_with fail
 refine (Cm n sc y cb co _ _ _ (Rd.mono qU.out hs2.bel) (qC hs2.bel hc1) (Rd.mono HY.out hs2.bel) D9.out).mono ?_
 rintro e w5 ⟨rfl, hb5⟩
 have Pn := qH (HB.out.trans (hb5.mono HB.out.size))
 clear hb5
 go_wp2_with fail
 go_loopw [15, 16] (fun okv kv wl => ∃ (p : Nat) (O : Bool), p ≤ sc.length ∧ kv = .int .i64 p ∧ okv = .bool O ∧ Hid (Below wA.heap.size wA wl) ∧ Hid (O = (jh sc y && (List.range p).all (fun q => !pG sc y i j a b q)))) (fun _ kv _ => sc.length - (intOf kv).toNat)
 case atStart => exact ⟨0, jh sc y, Nat.zero_le _, rfl, rfl, Pn.out, by simp [Hid]⟩
 clear Pn
 obtain ⟨p, O, hp, rfl, rfl, zV, hO⟩ := hrel
 have hs3 := (St.start w).step (Jp.out.trans (zV.out.mono Jp.out.size))
 obtain ⟨kE, gI, iD, dO, Ag⟩ := zI hs3.bel ht1 hc0 hc1 q1 qd
 have HB := zV
 by_cases hpl : p < sc.length
 rotate_left
 · obtain rfl : p = sc.length := by omega
   have hnp : ¬ ((sc.length : Int) < sc.length) := by omega
   have HOE := qH (show O = jw sc i j a b y by rw [hO.out]; unfold jw; rw [Bool.and_comm])
   cases hOv : O
   · have H8 := qH (HNT.out (by rw [← HOE.out, hOv]))
     clear hOv
     go_wp2_with fail
     go_roundw
     case rel => exact ⟨k + 1, by omega, by go_num, HB.out, H8.out⟩
     simp [intOf]; omega
   have H8 := qH (HYT.out (by rw [← HOE.out, hOv]))
   have H7 := qH (show iJ ts sc i j a b = true by rw [H9.out, H8.out])
   clear hOv
   go_wp2_with fail
   go_ret
   exact ⟨ak H7.out.symm, hs3.bel⟩
 have hpI : (p : Int) < sc.length := by omega
 have hpy : p < y.length := by have := D9.out; omega
 have am5 : (p : Int) < y.length := by omega
 obtain ⟨b3, o3, rfl, qk, _⟩ := aI (Rd.mono qU.out hs3.bel) p hpl
 obtain ⟨b4, o4, rfl, qy, _⟩ := aI (Rd.mono HY.out hs3.bel) p hpy
 have FB := qH (show pG sc y i j a b p = ((sc[p] == i && y[p] != a) || (sc[p] == j && y[p] != b)) by
  unfold pG
  rw [show sc.getD p 0 = sc[p] by rw [List.getD, List.getElem?_eq_getElem hpl]; rfl, show y.getD p 0 = y[p] by rw [List.getD, List.getElem?_eq_getElem hpy]; rfl])
 have AO := qH (show (List.range (p + 1)).all (fun q => !pG sc y i j a b q) = ((List.range p).all (fun q => !pG sc y i j a b q) && !pG sc y i j a b p) by rw [List.range_succ, List.all_append]; simp)
 have pW := qH (fun (h : pG sc y i j a b p = false) => show O = (jh sc y && (List.range (p + 1)).all (fun q => !pG sc y i j a b q)) by rw [AO.out, h, hO.out]; simp)
 have RX := qH (fun (h : pG sc y i j a b p = true) => show false = (jh sc y && (List.range (p + 1)).all (fun q => !pG sc y i j a b q)) by rw [AO.out, h]; simp)
 generalize sc[p] = SP at *
 generalize y[p] = YP at *
 cases h1 : (SP == i)
 · cases h3 : (SP == j)
   · have H9 := qH (pW.out (by rw [FB.out, h1, h3]; rfl))
     go_wp2_with fail
     go_roundw
     case rel => exact ⟨p + 1, O, by omega, by go_num, rfl, HB.out, H9.out⟩
     simp [intOf]; omega
   cases h4 : (YP != b)
   · have H9 := qH (pW.out (by rw [FB.out, h1, h3, h4]; rfl))
     go_wp2_with fail
     go_roundw
     case rel => exact ⟨p + 1, O, by omega, by go_num, rfl, HB.out, H9.out⟩
     simp [intOf]; omega
   have H9 := qH (RX.out (by rw [FB.out, h1, h3, h4]; rfl))
   go_wp2_with fail
   go_roundw
   case rel => exact ⟨p + 1, false, by omega, by go_num, rfl, HB.out, H9.out⟩
   simp [intOf]; omega
 cases h2 : (YP != a)
 rotate_left
 · have H9 := qH (RX.out (by rw [FB.out, h1, h2]; rfl))
   go_wp2_with fail
   go_roundw
   case rel => exact ⟨p + 1, false, by omega, by go_num, rfl, HB.out, H9.out⟩
   simp [intOf]; omega
 cases h3 : (SP == j)
 · have H9 := qH (pW.out (by rw [FB.out, h1, h2, h3]; rfl))
   go_wp2_with fail
   go_roundw
   case rel => exact ⟨p + 1, O, by omega, by go_num, rfl, HB.out, H9.out⟩
   simp [intOf]; omega
 cases h4 : (YP != b)
 · have H9 := qH (pW.out (by rw [FB.out, h1, h2, h3, h4]; rfl))
   go_wp2_with fail
   go_roundw
   case rel => exact ⟨p + 1, O, by omega, by go_num, rfl, HB.out, H9.out⟩
   simp [intOf]; omega
 have H9 := qH (RX.out (by rw [FB.out, h1, h2, h3, h4]; rfl))
 go_wp2_with fail
 go_roundw
 case rel => exact ⟨p + 1, false, by omega, by go_num, rfl, HB.out, H9.out⟩
 simp [intOf]; omega
end Go.Proofs.YtoblfnoaepbhfaaGreat
