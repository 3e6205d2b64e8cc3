/-
  CONTRACTS: the simpler form of a formula; the reference's side, continued.
-/
import Derived.Test.YtnefmhhemaenkaaGreatSimpS
import Derived.Test.YtnefmhhemaenkaaGreatSimpV
namespace Go.Proofs.YtnefmhhemaenkaaGreat
open Go.RowKit Go.Shelf Go.IntWalk
open Rep (Rd Own sz)
set_option linter.unusedSimpArgs false
set_option linter.unusedVariables false

set_option maxRecDepth 100000 in
set_option maxHeartbeats 4000000 in
theorem l03SameAtom_c (x y : OpT) (pb po qb qo : Nat) (x1 y1 : Value) (w : World) (cx0 : w.cell? ⟨pb, po, none⟩ = some (.int .i64 x.1)) (cx1 : w.cell? ⟨pb, po + 1, none⟩ = some x1) (rx : Rd w [x1] x.2)
    (cy0 : w.cell? ⟨qb, qo, none⟩ = some (.int .i64 y.1)) (cy1 : w.cell? ⟨qb, qo + 1, none⟩ = some y1) (ry : Rd w [y1] y.2) :
    Calls Tryz.prog 81 #[.pointer (some ⟨pb, po, none⟩), .pointer (some ⟨qb, qo, none⟩)] w fun e w' => e = .returned (.bool (decide (x = y))) ∧ Below w.heap.size w w' := by
  obtain ⟨x0, xs⟩ := x
  obtain ⟨y0, ys⟩ := y
  simp only at cx0 rx cy0 ry
  obtain ⟨a1, c1, rfl, _⟩ := rd_list rx
  obtain ⟨a2, c2, rfl, _⟩ := rd_list ry
  have HX := Lib.hid rx
  have HY := Lib.hid ry
  clear rx ry
  have cx0_ := cellL (St.start w).bel cx0
  clear cx0_
  have cx0_ := cellL (St.start w).bel cx0
  have cx1_ := cellL (St.start w).bel cx1
  clear cx0_ cx1_
  have cx0_ := cellL (St.start w).bel cx0
  have cx1_ := cellL (St.start w).bel cx1
  have cy0_ := cellL (St.start w).bel cy0
  clear cx0_ cx1_ cy0_
  have cx0_ := cellL (St.start w).bel cx0
  have cx1_ := cellL (St.start w).bel cx1
  have cy0_ := cellL (St.start w).bel cy0
  have cy1_ := cellL (St.start w).bel cy1
  clear cx0_ cx1_ cy0_ cy1_
  have cx0_ := cellL (St.start w).bel cx0
  have cx1_ := cellL (St.start w).bel cx1
  have cy0_ := cellL (St.start w).bel cy0
  have cy1_ := cellL (St.start w).bel cy1
  go_enter Tryz.func81, Tryz.ntmps81
  by_cases h : x0 = y0
  · subst h
    have h1 : (x0 == x0) = true := by simp
    go_upto_region 1 with fail
    refine wp_region_noPanic (wp_region_tree4 (fun w' => w'.cell? ⟨pb, po, none⟩ = some (.int .i64 x0) ∧ w'.cell? ⟨pb, po + 1, none⟩ = some (.slice a1 xs.length c1) ∧ w'.cell? ⟨qb, qo, none⟩ = some (.int .i64 x0) ∧ w'.cell? ⟨qb, qo + 1, none⟩ = some (.slice a2 ys.length c2)) (.float 0 (.float 1 (.float 2 (.float 3 (.float 4 (.float 5 (.float 6 (.float 7 (.float 8 (.float 9 (.float 10 (.float 11 (.float 12 (.float 13 (.float 14 (.float 15 (.float 16 (.float 17 (.hard 18 (.float 19 (.float 20 .nil))))))))))))))))))))) (by kernel_rfl) (by kernel_rfl) (by kernel_rfl) rfl ?_ (fun _ _ _ _ _ h => h) ?_)
    · exact ⟨cellL ((St.start w).drew).bel cx0, cellL ((St.start w).drew).bel cx1, cellL ((St.start w).drew).bel cy0, cellL ((St.start w).drew).bel cy1⟩
    have hs1 := (St.start w).drew
    clear cx0_ cx1_ cy0_ cy1_
    have hz_wd2 : w.heap.size ≤ (w.drew).heap.size := by simp
    generalize hgen_wd2 : w.drew = wd2 at *
    have HG_wd2 := Lib.hid hgen_wd2
    clear hgen_wd2
    (repeat (first | (apply t4_skip rfl (by rfl); try simp only [Act.put, List.setIfInBounds_toArray, List.set_cons_zero, List.set_cons_succ]) | (apply t4_float rfl (by rfl); (· (intro w' hS; go_simp <;> with_reducible rfl)); (try simp only [Act.put, List.setIfInBounds_toArray, List.set_cons_zero, List.set_cons_succ]))))
    refine t4_hard rfl (by rfl) (fun K hK => ?_)
    go_wp2_with (go_at_call 96; refine (l00Same_c xs ys _ _ _ (Rd.mono HX.out hs1.bel) (Rd.mono HY.out hs1.bel)).mono ?_; rintro e w3 ⟨rfl, nw3, rfl⟩)
    have hs4 := hs1.drewN nw3
    refine ⟨⟨cellL hs4.bel cx0, cellL hs4.bel cx1, cellL hs4.bel cy0, cellL hs4.bel cy1⟩, ?_⟩
    (repeat (first | (apply t4_skip rfl (by rfl); try simp only [Act.put, List.setIfInBounds_toArray, List.set_cons_zero, List.set_cons_succ]) | (apply t4_float rfl (by rfl); (· (intro w' hS; go_simp <;> with_reducible rfl)); (try simp only [Act.put, List.setIfInBounds_toArray, List.set_cons_zero, List.set_cons_succ]))))
    have cx0_ := cellL hs4.bel cx0
    have cx1_ := cellL hs4.bel cx1
    have cy0_ := cellL hs4.bel cy0
    have cy1_ := cellL hs4.bel cy1
    refine t4_nil (NoPanic.normal ?_)
    go_wp2_with fail
    go_ret
    exact ⟨ret_bool (by simp), hs4.bel⟩
  · have h1 : (x0 == y0) = false := by simp [h]
    have HN := Lib.hid h
    clear h
    go_upto_region 1 with fail
    refine wp_region_noPanic (wp_region_tree4 (fun w' => w'.cell? ⟨pb, po, none⟩ = some (.int .i64 x0) ∧ w'.cell? ⟨pb, po + 1, none⟩ = some (.slice a1 xs.length c1) ∧ w'.cell? ⟨qb, qo, none⟩ = some (.int .i64 y0) ∧ w'.cell? ⟨qb, qo + 1, none⟩ = some (.slice a2 ys.length c2)) (.float 0 (.float 1 (.float 2 (.float 3 (.float 4 (.float 5 (.float 6 (.float 7 (.float 8 (.float 9 (.float 10 (.float 11 (.float 12 (.float 13 (.float 14 (.float 15 (.float 16 (.float 17 (.hard 18 (.float 19 (.float 20 .nil))))))))))))))))))))) (by kernel_rfl) (by kernel_rfl) (by kernel_rfl) rfl ?_ (fun _ _ _ _ _ h => h) ?_)
    · exact ⟨cellL ((St.start w).drew).bel cx0, cellL ((St.start w).drew).bel cx1, cellL ((St.start w).drew).bel cy0, cellL ((St.start w).drew).bel cy1⟩
    have hs5 := (St.start w).drew
    clear cx0_ cx1_ cy0_ cy1_
    have hz_wd6 : w.heap.size ≤ (w.drew).heap.size := by simp
    generalize hgen_wd6 : w.drew = wd6 at *
    have HG_wd6 := Lib.hid hgen_wd6
    clear hgen_wd6
    (repeat (first | (apply t4_skip rfl (by rfl); try simp only [Act.put, List.setIfInBounds_toArray, List.set_cons_zero, List.set_cons_succ]) | (apply t4_float rfl (by rfl); (· (intro w' hS; go_simp <;> with_reducible rfl)); (try simp only [Act.put, List.setIfInBounds_toArray, List.set_cons_zero, List.set_cons_succ]))))
    refine t4_hskip rfl (by rfl) ?_ ?_
    · exact ⟨cellL hs5.bel cx0, cellL hs5.bel cx1, cellL hs5.bel cy0, cellL hs5.bel cy1⟩
    (try simp only [Act.put, List.setIfInBounds_toArray, List.set_cons_zero, List.set_cons_succ])
    (repeat (first | (apply t4_skip rfl (by rfl); try simp only [Act.put, List.setIfInBounds_toArray, List.set_cons_zero, List.set_cons_succ]) | (apply t4_float rfl (by rfl); (· (intro w' hS; go_simp <;> with_reducible rfl)); (try simp only [Act.put, List.setIfInBounds_toArray, List.set_cons_zero, List.set_cons_succ]))))
    have cx0_ := cellL hs5.bel cx0
    have cx1_ := cellL hs5.bel cx1
    have cy0_ := cellL hs5.bel cy0
    have cy1_ := cellL hs5.bel cy1
    refine t4_nil (NoPanic.normal ?_)
    go_wp2_with fail
    go_ret
    exact ⟨ret_bool (by simp [HN.out]), hs5.bel⟩
theorem atT_upL {n : Nat} {v : Int} (h0 : 0 ≤ v) (h1 : v < n) : atT (upL 0 n) v = v := by
  obtain ⟨k, rfl⟩ : ∃ k : Nat, v = k := ⟨v.toNat, by omega⟩
  have hk : k < n := by omega
  unfold atT upL
  simp [List.getD, hk]
theorem movL_own {n : Nat} {l : List OpT} (hv : AtomsV n l) : movL (atT (upL 0 n)) l = l := by
  have h : movL (atT (upL 0 n)) l = movL (fun v => v) l := movL_congr (fun a ha v hva => atT_upL ((hv a ha).1 v hva).1 ((hv a ha).1 v hva).2)
  rw [h]
  unfold movL
  conv => rhs; rw [← List.map_id l]
  exact List.map_congr_left (fun a _ => by simp)
set_option maxRecDepth 100000 in
set_option maxHeartbeats 4000000 in
theorem l03Own_c (n : Nat) (l : List OpT) (xb : Nat) (v2 : Value) (w : World) (c1 : w.cell? ⟨xb, 1, none⟩ = some (.int .i64 n)) (c2 : w.cell? ⟨xb, 2, none⟩ = some v2) (r : Rd w [v2] l) (hn : n ≤ 1000000) (hl : l.length ≤ 1000000) (hz : ∀ a, a ∈ l → a.2.length ≤ 1000000) (hv : AtomsV n l) :
    Calls Tryz.prog 38 #[.pointer (some ⟨xb, 0, none⟩)] w fun e w' => ∃ v', e = .returned v' ∧ Fresh w.heap.size w' [v'] l ∧ Below w.heap.size w w' := by
  obtain ⟨a, c, rfl, _⟩ := rd_list r
  have HL := Lib.hid r
  have HV := Lib.hid hv
  have HZ := Lib.hid hz
  have HM := Lib.hid (movL_own hv)
  clear r hv hz
  have c1_ := cellL (St.start w).bel c1
  clear c1_
  have c1_ := cellL (St.start w).bel c1
  have c2_ := cellL (St.start w).bel c2
  clear c1_ c2_
  have c1_ := cellL (St.start w).bel c1
  have c2_ := cellL (St.start w).bel c2
  go_enter Tryz.func38, Tryz.ntmps38
  go_upto_region 1 with fail
  refine wp_region_noPanic (wp_region_tree4 (fun w' => w'.cell? ⟨xb, 1, none⟩ = some (.int .i64 n) ∧ w'.cell? ⟨xb, 2, none⟩ = some (.slice a l.length c)) (.float 0 (.float 1 (.float 2 (.float 3 (.float 4 (.float 5 (.float 6 (.float 7 (.hard 8 (.hard 9 (.float 10 .nil))))))))))) (by kernel_rfl) (by kernel_rfl) (by kernel_rfl) rfl ?_ (fun _ _ _ _ _ h => h) ?_)
  · exact ⟨cellL ((St.start w).drew).bel c1, cellL ((St.start w).drew).bel c2⟩
  have hs7 := (St.start w).drew
  clear c1_ c2_
  have hz_wd8 : w.heap.size ≤ (w.drew).heap.size := by simp
  generalize hgen_wd8 : w.drew = wd8 at *
  have HG_wd8 := Lib.hid hgen_wd8
  clear hgen_wd8
  (repeat (first | (apply t4_skip rfl (by rfl); try simp only [Act.put, List.setIfInBounds_toArray, List.set_cons_zero, List.set_cons_succ]) | (apply t4_float rfl (by rfl); (· (intro w' hS; go_simp <;> with_reducible rfl)); (try simp only [Act.put, List.setIfInBounds_toArray, List.set_cons_zero, List.set_cons_succ]))))
  refine t4_hard rfl (by rfl) (fun K hK => ?_)
  go_wp2_with (go_at_call 40; refine (l03Count_c n _ hn).mono ?_; rintro e w9 ⟨v1, rfl, hA1, hbw9⟩)
  have hz_w9 : wd8.heap.size ≤ w9.heap.size := by have h9 := hbw9.size; (try simp at h9); omega
  have hs10 := hs7.step hbw9
  have HU := Lib.hid hA1.rd
  obtain ⟨a1, c3, rfl, _⟩ := rd_list HU.out
  clear hA1
  refine ⟨⟨cellL hs10.bel c1, cellL hs10.bel c2⟩, ?_⟩
  (repeat (first | (apply t4_skip rfl (by rfl); try simp only [Act.put, List.setIfInBounds_toArray, List.set_cons_zero, List.set_cons_succ]) | (apply t4_float rfl (by rfl); (· (intro w' hS; go_simp <;> with_reducible rfl)); (try simp only [Act.put, List.setIfInBounds_toArray, List.set_cons_zero, List.set_cons_succ]))))
  refine t4_hard rfl (by rfl) (fun K hK => ?_)
  go_wp2_with (go_at_call 43; refine (l03Moved_c l (upL 0 n) _ _ _ (Rd.mono HL.out hs10.bel) HU.out hl HZ.out (fun a ha x hx => by rw [upL_len]; exact (HV.out a ha).1 x hx)).mono ?_; rintro e w11 ⟨v4, rfl, hF4, hbw11⟩)
  have hz_w11 : w9.heap.size ≤ w11.heap.size := by have h9 := hbw11.size; (try simp at h9); omega
  have hs12 := hs10.step hbw11
  have HU_13 := Lib.hid (Rd.mono HU.out hbw11)
  clear HU
  rw [HM.out] at hF4
  have HF4 := Lib.hid hF4
  clear hF4
  obtain ⟨a4, c4, rfl, _⟩ := rd_list HF4.out.rd
  refine ⟨⟨cellL hs12.bel c1, cellL hs12.bel c2⟩, ?_⟩
  (repeat (first | (apply t4_skip rfl (by rfl); try simp only [Act.put, List.setIfInBounds_toArray, List.set_cons_zero, List.set_cons_succ]) | (apply t4_float rfl (by rfl); (· (intro w' hS; go_simp <;> with_reducible rfl)); (try simp only [Act.put, List.setIfInBounds_toArray, List.set_cons_zero, List.set_cons_succ]))))
  have c1_ := cellL hs12.bel c1
  have c2_ := cellL hs12.bel c2
  refine t4_nil (NoPanic.normal ?_)
  go_wp2_with fail
  go_ret
  exact ⟨_, rfl, (HF4.out).lower (by omega), hs12.bel⟩
theorem any_take (q : OpT → Bool) (l : List OpT) {k : Nat} (h : k < l.length) : (l.take (k + 1)).any q = ((l.take k).any q || q l[k]) := by
  rw [List.take_succ_eq_append_getElem h, List.any_append]; simp
set_option maxRecDepth 100000 in
set_option maxHeartbeats 8000000 in
theorem l03Less_c (P : Nat → Prop) (A : List OpT) (v0 : Value) (w : World) (r0 : Ip P w [v0] A) (hl : A.length ≤ 1000) (hv : ∀ a, a ∈ A → a.1 = -1 → a.2.length = 2) :
    Calls Tryz.prog 44 #[v0] w fun e w' => ∃ v', e = .returned v' ∧ RowO P w 58 w' v' (lessT A A.length) ∧ (∀ g, v'.ownBlock = some g → w.heap.size ≤ g) ∧ Below w.heap.size w w' := by
  obtain ⟨ao, co, rfl, _⟩ := rd_list r0.rd
  have HRA := Lib.hid r0
  have HVA := Lib.hid hv
  clear r0 hv
  go_enter Tryz.func44, Tryz.ntmps44
  go_wp2_with fail
  go_loopw [3, 4] (fun lv iv wl => ∃ (k : Nat) (ab : Option Addr) (cb : Nat), k ≤ A.length ∧ lv = .slice ab (lessT A k).length cb ∧ iv = .int .i64 k ∧
    Hid (Below w.heap.size w wl) ∧ Hid (∀ g, (Value.slice ab (lessT A k).length cb).ownBlock = some g → w.heap.size ≤ g ∧ g < wl.heap.size) ∧ Hid (RowO P w 58 wl (.slice ab (lessT A k).length cb) (lessT A k))) (fun _ i _ => A.length - (intOf i).toNat)
  case atStart => exact ⟨0, _, _, Nat.zero_le _, rfl, rfl, belowA _ _, (fun g hg => by simp [Value.ownBlock, lessT] at hg ⊢; omega), ⟨[], row_made w _, fun i h => absurd h (Nat.not_lt_zero _)⟩⟩
  case round =>
    obtain ⟨k, ab, cb, hk, rfl, rfl, hbe, hgo, hrw⟩ := hrel
    have hszr : w.heap.size ≤ wr.heap.size := hbe.out.size
    have HSW := Lib.hid ((St.start w).step hbe.out)
    obtain ⟨wE, hwE⟩ : ∃ x, x = wr := ⟨_, rfl⟩
    subst hwE
    by_cases hlt : k < A.length
    · have hkl : (k : Int) < A.length := by omega
      obtain ⟨b, o, u0, u1, he, q0, q1, hy⟩ := ip_two_at rfl HRA.out k hlt
      have HYES := Lib.hid (show dropA (lessT A k) A[k] = true → lessT A (k + 1) = lessT A k from fun h => by rw [lessT, show A.getD k (0, []) = A[k] by simp [List.getD, hlt], if_pos h])
      have HNO := Lib.hid (show dropA (lessT A k) A[k] = false → lessT A (k + 1) = lessT A k ++ [A[k]] from fun h => by rw [lessT, show A.getD k (0, []) = A[k] by simp [List.getD, hlt], if_neg (by rw [h]; decide)])
      have HVC := Lib.hid (HVA.out _ (List.getElem_mem hlt))
      have hLL := lessT_len A k
      have HRL := Lib.hid (hrw.out.rowR.rd hbe.out)
      obtain ⟨xs, hrow, hel⟩ := hrw.out
      generalize hC : A[k] = C at *
      obtain ⟨ci, sc⟩ := C
      generalize hLT : lessT A k = LT at *
      clear hC hLT
      subst he
      simp only at HVC
      have hyz := rd_cons rfl hy.rd
      obtain ⟨rfl, hIc⟩ := rd_i1 hyz.1
      obtain ⟨a1, c1, rfl, _⟩ := rd_list hyz.2
      have HY := Lib.hid hy
      have HSC := Lib.hid (Rd.mono hyz.2 hbe.out)
      have HEL := Lib.hid hel
      have HRW := Lib.hid hrow
      have HBE := Lib.hid hbe.out
      have r0 := cellL hbe.out q0
      have r1 := cellL hbe.out q1
      have HDR := Lib.hid (show dropA LT (ci, sc) = (trivA (ci, sc) || LT.any (fun b => decide (b = (ci, sc)))) from rfl)
      clear hy hyz hrow hel hrw hbe q0 q1
      go_upto_region 6 with fail
      have HBA := Lib.hid (Below.refl wE.heap.size wE)
      go_cut [6] from 18 to 37 (fun x6 wx => x6 = .bool (trivA (ci, sc)) ∧ Hid (Below wE.heap.size wE wx))
      case first =>
        clear HRW
        clear HBE
        clear HRL
        clear HEL HY HYES HNO hgo HVA HRA HDR
        by_cases h : ci = -1
        · subst h
          obtain ⟨x, y, rfl⟩ := len_2 (HVC.out rfl)
          obtain ⟨b2, o2, rfl, s0, s1, _, _, _⟩ := rd_ints2 HSC.out
          clear HSC
          by_cases hxy : x = y
          · have h1 : (x == y) = true := by simp [hxy]
            have H1 := Lib.hid (show trivA (-1, [x, y]) = true by unfold trivA; simp [hxy])
            clear hxy
            refine wp_region_noPanic (wp_region_tree4 (fun w' => w'.cell? ⟨b, o + k * 2, none⟩ = some (.int .i64 (-1)) ∧ w'.cell? ⟨b, o + k * 2 + 1, none⟩ = some (.slice (some ⟨b2, o2, none⟩) 2 c1) ∧ w'.cell? ⟨b2, o2, none⟩ = some (.int .i64 x) ∧ w'.cell? ⟨b2, o2 + 1, none⟩ = some (.int .i64 y)) (.float 0 (.float 1 (.float 2 (.float 3 (.float 4 (.float 5 (.float 6 (.float 7 (.float 8 (.float 9 (.float 10 (.float 11 (.float 12 (.float 13 (.float 14 (.float 15 (.float 16 (.float 17 (.float 18 (.float 19 (.float 20 .nil))))))))))))))))))))) (by kernel_rfl) (by kernel_rfl) (by kernel_rfl) rfl ?_ (fun _ _ _ _ _ h => h) ?_)
            · exact ⟨cellL (belowD _) r0, cellL (belowD _) r1, cellL (belowD _) s0, cellL (belowD _) s1⟩
            have hs14 := HSW.out.drew
            have r0_15 := cellL (belowD _) r0
            clear r0
            have r1_16 := cellL (belowD _) r1
            clear r1
            have s0_17 := cellL (belowD _) s0
            clear s0
            have s1_18 := cellL (belowD _) s1
            clear s1
            have HBA_19 := Lib.hid (HBA.out.trans (((belowD _)).mono HBA.out.size))
            clear HBA
            have hz_wd20 : wE.heap.size ≤ (wE.drew).heap.size := by simp
            generalize hgen_wd20 : wE.drew = wd20 at *
            have HG_wd20 := Lib.hid hgen_wd20
            clear hgen_wd20
            (repeat (first | (apply t4_skip rfl (by rfl); try simp only [Act.put, List.setIfInBounds_toArray, List.set_cons_zero, List.set_cons_succ]) | (apply t4_float rfl (by rfl); (· (intro w' hS; go_simp <;> with_reducible rfl)); (try simp only [Act.put, List.setIfInBounds_toArray, List.set_cons_zero, List.set_cons_succ]))))
            refine t4_nil (NoPanic.normal ?_)
            go_wp2_with fail
            go_meet
            case rel => exact ⟨by rw [H1.out], HBA_19.out⟩
          · have h1 : (x == y) = false := by simp [hxy]
            have H1 := Lib.hid (show trivA (-1, [x, y]) = false by unfold trivA; simp [hxy])
            clear hxy
            refine wp_region_noPanic (wp_region_tree4 (fun w' => w'.cell? ⟨b, o + k * 2, none⟩ = some (.int .i64 (-1)) ∧ w'.cell? ⟨b, o + k * 2 + 1, none⟩ = some (.slice (some ⟨b2, o2, none⟩) 2 c1) ∧ w'.cell? ⟨b2, o2, none⟩ = some (.int .i64 x) ∧ w'.cell? ⟨b2, o2 + 1, none⟩ = some (.int .i64 y)) (.float 0 (.float 1 (.float 2 (.float 3 (.float 4 (.float 5 (.float 6 (.float 7 (.float 8 (.float 9 (.float 10 (.float 11 (.float 12 (.float 13 (.float 14 (.float 15 (.float 16 (.float 17 (.float 18 (.float 19 (.float 20 .nil))))))))))))))))))))) (by kernel_rfl) (by kernel_rfl) (by kernel_rfl) rfl ?_ (fun _ _ _ _ _ h => h) ?_)
            · exact ⟨cellL (belowD _) r0, cellL (belowD _) r1, cellL (belowD _) s0, cellL (belowD _) s1⟩
            have hs21 := HSW.out.drew
            have r0_22 := cellL (belowD _) r0
            clear r0
            have r1_23 := cellL (belowD _) r1
            clear r1
            have s0_24 := cellL (belowD _) s0
            clear s0
            have s1_25 := cellL (belowD _) s1
            clear s1
            have HBA_26 := Lib.hid (HBA.out.trans (((belowD _)).mono HBA.out.size))
            clear HBA
            have hz_wd27 : wE.heap.size ≤ (wE.drew).heap.size := by simp
            generalize hgen_wd27 : wE.drew = wd27 at *
            have HG_wd27 := Lib.hid hgen_wd27
            clear hgen_wd27
            (repeat (first | (apply t4_skip rfl (by rfl); try simp only [Act.put, List.setIfInBounds_toArray, List.set_cons_zero, List.set_cons_succ]) | (apply t4_float rfl (by rfl); (· (intro w' hS; go_simp <;> with_reducible rfl)); (try simp only [Act.put, List.setIfInBounds_toArray, List.set_cons_zero, List.set_cons_succ]))))
            refine t4_nil (NoPanic.normal ?_)
            go_wp2_with fail
            go_meet
            case rel => exact ⟨by rw [H1.out], HBA_26.out⟩
        · have h1 : (ci == -1) = false := by simp [h]
          have H1 := Lib.hid (show trivA (ci, sc) = false by unfold trivA; rw [decide_eq_false h]; rfl)
          clear h
          refine wp_region_noPanic (wp_region_tree4 (fun w' => w'.cell? ⟨b, o + k * 2, none⟩ = some (.int .i64 ci) ∧ w'.cell? ⟨b, o + k * 2 + 1, none⟩ = some (.slice a1 sc.length c1)) (.float 0 (.float 1 (.float 2 (.float 3 (.float 4 (.float 5 (.float 6 (.float 7 (.float 8 (.float 9 (.float 10 (.float 11 (.float 12 (.float 13 (.float 14 (.float 15 (.float 16 (.float 17 (.float 18 (.float 19 (.float 20 .nil))))))))))))))))))))) (by kernel_rfl) (by kernel_rfl) (by kernel_rfl) rfl ?_ (fun _ _ _ _ _ h => h) ?_)
          · exact ⟨cellL (belowD _) r0, cellL (belowD _) r1⟩
          have hs28 := HSW.out.drew
          have r0_29 := cellL (belowD _) r0
          clear r0
          have r1_30 := cellL (belowD _) r1
          clear r1
          have HSC_31 := Lib.hid (Rd.mono HSC.out (belowD _))
          clear HSC
          have HBA_32 := Lib.hid (HBA.out.trans (((belowD _)).mono HBA.out.size))
          clear HBA
          have hz_wd33 : wE.heap.size ≤ (wE.drew).heap.size := by simp
          generalize hgen_wd33 : wE.drew = wd33 at *
          have HG_wd33 := Lib.hid hgen_wd33
          clear hgen_wd33
          (repeat (first | (apply t4_skip rfl (by rfl); try simp only [Act.put, List.setIfInBounds_toArray, List.set_cons_zero, List.set_cons_succ]) | (apply t4_float rfl (by rfl); (· (intro w' hS; go_simp <;> with_reducible rfl)); (try simp only [Act.put, List.setIfInBounds_toArray, List.set_cons_zero, List.set_cons_succ]))))
          refine t4_nil (NoPanic.normal ?_)
          go_wp2_with fail
          go_meet
          case rel => exact ⟨by rw [H1.out], HBA_32.out⟩
      case rest =>
        obtain ⟨rfl, hbx⟩ := hcut
        have HBX := hbx.out
        have hz_wc : wE.heap.size ≤ wc.heap.size := by have h9 := HBX.size; (try simp at h9); omega
        have hs34 := HSW.out.step HBX
        have r0_35 := cellL HBX r0
        clear r0
        have r1_36 := cellL HBX r1
        clear r1
        have HRL_37 := Lib.hid (Rd.mono HRL.out HBX)
        clear HRL
        have HSC_38 := Lib.hid (Rd.mono HSC.out HBX)
        clear HSC
        have HRW_39 := Lib.hid (ownsRow_below HRW.out HBX)
        clear HRW
        have HBE_40 := Lib.hid (HBE.out.trans ((HBX).mono HBE.out.size))
        clear HBE
        have HBA_41 := Lib.hid (HBA.out.trans ((HBX).mono HBA.out.size))
        clear HBA
        have HT0 := Lib.hid (show trivA (ci, sc) = (trivA (ci, sc) || (LT.take 0).any (fun b => decide (b = (ci, sc)))) by simp)
        have HB0 := Lib.hid (Below.refl wc.heap.size wc)
        generalize trivA (ci, sc) = TV at *
        go_wp2_with fail
        go_loopw [6, 7] (fun dv jv wl => ∃ j : Nat, j ≤ LT.length ∧ jv = .int .i64 j ∧ dv = .bool (TV || (LT.take j).any (fun b => decide (b = (ci, sc)))) ∧ Hid (Below wc.heap.size wc wl)) (fun _ i _ => LT.length - (intOf i).toNat)
        case atStart => exact ⟨0, Nat.zero_le _, rfl, by rw [← HT0.out], HB0.out⟩
        case round =>
          clear HB0 HT0
          obtain ⟨j, hj, rfl, rfl, hbj⟩ := hrel
          have HBJ := hbj.out
          have hz_wr : wc.heap.size ≤ wr.heap.size := by have h9 := HBJ.size; (try simp at h9); omega
          have hs42 := hs34.step HBJ
          have r0_43 := cellL HBJ r0_35
          clear r0_35
          have r1_44 := cellL HBJ r1_36
          clear r1_36
          have HRL_45 := Lib.hid (Rd.mono HRL_37.out HBJ)
          clear HRL_37
          have HSC_46 := Lib.hid (Rd.mono HSC_38.out HBJ)
          clear HSC_38
          have HRW_47 := Lib.hid (ownsRow_below HRW_39.out HBJ)
          clear HRW_39
          have HBE_48 := Lib.hid (HBE_40.out.trans ((HBJ).mono HBE_40.out.size))
          clear HBE_40
          have HBA_49 := Lib.hid (HBA_41.out.trans ((HBJ).mono HBA_41.out.size))
          clear HBA_41
          have HBK := Lib.hid HBJ
          clear hbj HBJ
          by_cases hjl : j < LT.length
          · have hjI : (j : Int) < LT.length := by omega
            have HAT := Lib.hid (any_take (fun b => decide (b = (ci, sc))) LT hjl)
            obtain ⟨b2, o2, t0, t1, he2, p0, p1, hy2⟩ := rd_two_at rfl HRL_45.out j hjl
            generalize LT[j] = D at *
            obtain ⟨di, sd⟩ := D
            subst he2
            have hyz := rd_cons rfl hy2
            obtain ⟨rfl, _⟩ := rd_i1 hyz.1
            obtain ⟨a5, c5, rfl, _⟩ := rd_list hyz.2
            have HSD := Lib.hid hyz.2
            clear hy2 hyz
            cases hB : (TV || (LT.take j).any (fun b => decide (b = (ci, sc)))) with
            | true =>
              have H1 := Lib.hid (show (TV || (LT.take (j + 1)).any (fun b => decide (b = (ci, sc)))) = true by rw [HAT.out, ← Bool.or_assoc, hB, Bool.true_or])
              clear hB
              go_wp2_with fail
              go_roundw
              case rel => exact ⟨j + 1, hjl, by go_num, by rw [H1.out], HBK.out⟩
              case measure => simp [intOf]; omega
            | false =>
              have H1 := Lib.hid (show (TV || (LT.take (j + 1)).any (fun b => decide (b = (ci, sc)))) = decide (((di, sd) : OpT) = (ci, sc)) by rw [HAT.out, ← Bool.or_assoc, hB, Bool.false_or])
              clear hB
              go_wp2_with fail
              refine (l03SameAtom_c (di, sd) (ci, sc) _ _ _ _ _ _ _ p0 p1 HSD.out r0_43 r1_44 HSC_46.out).mono ?_
              rintro e w50 ⟨rfl, hbw50⟩
              have hz_w50 : wr.heap.size ≤ w50.heap.size := by have h9 := hbw50.size; (try simp at h9); omega
              have hs51 := hs42.step hbw50
              have r0_52 := cellL hbw50 r0_43
              clear r0_43
              have r1_53 := cellL hbw50 r1_44
              clear r1_44
              have HRL_54 := Lib.hid (Rd.mono HRL_45.out hbw50)
              clear HRL_45
              have HSC_55 := Lib.hid (Rd.mono HSC_46.out hbw50)
              clear HSC_46
              have HRW_56 := Lib.hid (ownsRow_below HRW_47.out hbw50)
              clear HRW_47
              have HBE_57 := Lib.hid (HBE_48.out.trans ((hbw50).mono HBE_48.out.size))
              clear HBE_48
              have HBA_58 := Lib.hid (HBA_49.out.trans ((hbw50).mono HBA_49.out.size))
              clear HBA_49
              have HBK_59 := Lib.hid (HBK.out.trans ((hbw50).mono HBK.out.size))
              clear HBK
              go_wp2_with fail
              go_roundw
              case rel => exact ⟨j + 1, hjl, by go_num, by rw [H1.out]; first | rfl | simp, HBK_59.out⟩
              case measure => simp [intOf]; omega
          · obtain rfl : j = LT.length := by omega
            have hnl : ¬ ((LT.length : Int) < LT.length) := by omega
            rw [List.take_length, ← HDR.out]
            cases hq : dropA LT (ci, sc) with
            | true =>
              have HQ := Lib.hid (HYES.out hq)
              clear hq
              go_wp2_with fail
              go_roundw
              case rel =>
                refine ⟨k + 1, ab, cb, ?_⟩
                rw [HQ.out]
                exact ⟨hlt, rfl, by go_num, HBE_48.out, (fun g hg => ⟨(hgo.out g hg).1, by have := (hgo.out g hg).2; omega⟩), ⟨xs, HRW_47.out, HEL.out⟩⟩
              case measure => simp [intOf]; omega
            | false =>
              have HQ := Lib.hid (HNO.out hq)
              clear hq
              go_wp2_with (at_builtin; refine wpList_append_row _ rfl _ _ _ rfl E_atoms (v := .slice ab LT.length cb) rfl (ownsRow_below HRW_47.out (belowA _ _)) (vs := [.int .i64 ci, .slice a1 sc.length c1]) rfl (fun u hu => by simp only [List.mem_cons, List.not_mem_nil, or_false] at hu; rcases hu with rfl | rfl <;> rfl) ⟨wr.heap.size, 0, none⟩ 1 rfl (news2 (cell_at_block (heap_alloc_new _ _)) (cell_at_block (heap_alloc_new _ _))) (by omega) ?_; intro gN cN w8 hat hrowN hbutN hltN; refine Hid.out ?_)
              refine Lib.hid ?_
              have hB8 := hbutN.butP (A := fun z => w.heap.size ≤ z ∧ z < wE.heap.size) (fun z hz => hgo.out z (by simpa using hz))
              have hz8 := hB8.size
              (try simp at hz8)
              have HG8 := Lib.hid (show w.heap.size ≤ gN ∧ gN < w8.heap.size from ⟨by
                rcases hat with h | h
                · exact (hgo.out gN h).1
                · rw [h]; (try simp); omega, hltN⟩)
              have HR8 := Lib.hid (RowO.snoc (w0 := w) (l := LT) (y := ((ci, sc) : OpT)) HRW_47.out HEL.out HY.out hrowN)
              have HBE8 := Lib.hid ((HBE_48.out.trans ((belowA wr (.cells #[.int .i64 ci, .slice a1 sc.length c1] 58)).mono HBE_48.out.size)).trans (hB8.below (B := w.heap.size) (fun z hz => hz.1) (by (try simp) <;> omega)))
              clear hat hrowN hbutN hltN hB8
              have HQL := Lib.hid (show (lessT A (k + 1)).length = LT.length + 1 by rw [HQ.out, List.length_append]; rfl)
              (try go_wp2_with fail)
              go_roundw
              case rel =>
                refine ⟨k + 1, some ⟨gN, 0, none⟩, cN, ?_⟩
                rw [HQL.out, HQ.out]
                exact ⟨hlt, rfl, by go_num, HBE8.out, (fun g hg => by simp only [Value.ownBlock, Option.some.injEq] at hg; subst hg; exact HG8.out), HR8.out⟩
              case measure => simp [intOf]; omega
    · obtain rfl : k = A.length := by omega
      have hnl : ¬ ((A.length : Int) < A.length) := by omega
      have HRL := Lib.hid hrw.out
      have HGL := Lib.hid (fun g hg => (hgo.out g hg).1)
      have HB9 := Lib.hid hbe.out
      clear hrw hgo hbe
      go_wp2_with fail
      go_ret
      exact ⟨_, rfl, HRL.out, HGL.out, HB9.out⟩

theorem atT_set {n M : Nat} {lo v : Int} (h0 : 0 ≤ v) (h1 : v < n) : atT ((upL 0 n).set M lo) v = if v = M then lo else v := by
  obtain ⟨k, rfl⟩ : ∃ k : Nat, v = k := ⟨v.toNat, by omega⟩
  have hk : k < n := by omega
  unfold atT upL
  by_cases h : k = M
  · subst h
    simp [List.getD, hk]
  · have h2 : ¬ ((k : Int) = (M : Int)) := by omega
    rw [if_neg h2]
    simp [List.getD, hk, Ne.symm h, h]
theorem movL_set {n M : Nat} {x y : Int} {l : List OpT} (hv : AtomsV n l) (hM : max x y = (M : Int)) : movL (atT ((upL 0 n).set M (min x y))) l = movL (mergeV (-1, [x, y])) l :=
  movL_congr (fun a ha v hva => by
    rw [atT_set ((hv a ha).1 v hva).1 ((hv a ha).1 v hva).2]
    unfold mergeV
    rw [show highA (-1, [x, y]) = (M : Int) from hM]
    rfl)
theorem toT_len (free : Nat) (left : List OpT) : ∀ k, (toT free left k).2 ≤ free + k
  | 0 => Nat.le_refl _
  | k + 1 => by
    have := toT_len free left k
    rw [toT]
    simp only
    split <;> omega
theorem any_takeU (v : Int) (l : List OpT) {k : Nat} (h : k < l.length) : usedB (l.take (k + 1)) v = (usedB (l.take k) v || hasI l[k].2 v) := by
  unfold usedB
  rw [any_take _ _ h]
  unfold hasI
  rw [← List.contains_eq_any_beq]
set_option maxRecDepth 100000 in
set_option maxHeartbeats 16000000 in
theorem l03Simple_c {t : Tmpl} (f : Fml) (xb : Nat) (v2 : Value) (w : World) (e0 : w.cell? ⟨xb, 0, none⟩ = some (.int .i64 f.1)) (e1 : w.cell? ⟨xb, 1, none⟩ = some (.int .i64 f.2.1)) (e2 : w.cell? ⟨xb, 2, none⟩ = some v2) (r : Rd w [v2] f.2.2) (hok : fmlOk t f = true) (hsh : ShortA f.2.2) :
    Calls Tryz.prog 20 #[.pointer (some ⟨xb, 0, none⟩)] w fun e w' => ∃ v, e = .returned (.agg #[.int .i64 (simpF f).1, .int .i64 (simpF f).2.1, v]) ∧ Fresh w.heap.size w' [v] (simpF f).2.2 ∧ Below w.heap.size w w' := by
  have hfa := fmlOk_atoms hok
  have hst := simp_to hok
  obtain ⟨fi, vars, l⟩ := f
  obtain ⟨fr, rfl⟩ : ∃ q : Nat, fi = q := ⟨fi.toNat, by have := hfa.2.1; simp only at this; omega⟩
  obtain ⟨n, rfl⟩ : ∃ q : Nat, vars = q := ⟨vars.toNat, by have := hfa.2.1; have := hfa.2.2.2.1; simp only at this; omega⟩
  simp only [Int.toNat_natCast] at hfa e0 e1 hst hsh r
  obtain ⟨hv, hf1, hf2, hf3, hf4, hl16⟩ := hfa
  have HSX := Lib.hid hst
  have HSH := Lib.hid hsh
  have HV := Lib.hid hv
  have HL := Lib.hid r
  obtain ⟨a, c, rfl, _⟩ := rd_list r
  clear hst hsh hv r hok
  have e0_ := cellL (St.start w).bel e0
  clear e0_
  have e0_ := cellL (St.start w).bel e0
  have e1_ := cellL (St.start w).bel e1
  clear e0_ e1_
  have e0_ := cellL (St.start w).bel e0
  have e1_ := cellL (St.start w).bel e1
  have e2_ := cellL (St.start w).bel e2
  clear e0_ e1_ e2_
  have e0_ := cellL (St.start w).bel e0
  have e1_ := cellL (St.start w).bel e1
  have e2_ := cellL (St.start w).bel e2
  have hs60 := (St.start w).alloc #[.int .i64 0, .int .i64 0, .slice none 0 0] 41 (n := w.heap.size) (by simp)
  clear e0_ e1_ e2_
  have k0_0 := hs60.cellAt 0 rfl 0 rfl
  have k0_1 := hs60.cellAt 0 rfl 1 rfl
  have k0_2 := hs60.cellAt 0 rfl 2 rfl
  have e0_ := cellL hs60.bel e0
  have e1_ := cellL hs60.bel e1
  have e2_ := cellL hs60.bel e2
  go_enter Tryz.func20, Tryz.ntmps20
  go_upto_region 1 with fail
  have hz_wB : w.heap.size + 1 ≤ ((w.alloc (.cells #[.int .i64 0, .int .i64 0, .slice none 0 0] 41))).heap.size := by simp
  generalize hgen_wB : (w.alloc (.cells #[.int .i64 0, .int .i64 0, .slice none 0 0] 41)) = wB at *
  clear hgen_wB
  go_cut [3] from 12 to 22 (fun x3 wx => ∃ (gb : Nat) (a4 : Option Addr) (c4 : Nat), x3 = .pointer (some ⟨gb, 0, none⟩) ∧ w.heap.size < gb ∧ Hid (St w wx.heap.size wx [(w.heap.size, #[.int .i64 0, .int .i64 0, .slice none 0 0], 41), (gb, #[.int .i64 fr, .int .i64 n, .slice a4 l.length c4], 41)]) ∧ Hid (Ip (fun z => z ≠ gb) wx [.slice a4 l.length c4] l))
  case first =>
    clear HSX
    refine wp_region_noPanic (wp_region_tree4 (fun w' => w'.cell? ⟨w.heap.size, 0, none⟩ = some (.int .i64 0) ∧ w'.cell? ⟨w.heap.size, 1, none⟩ = some (.int .i64 0) ∧ w'.cell? ⟨w.heap.size, 2, none⟩ = some (.slice none 0 0) ∧ w'.cell? ⟨xb, 0, none⟩ = some (.int .i64 fr) ∧ w'.cell? ⟨xb, 1, none⟩ = some (.int .i64 n) ∧ w'.cell? ⟨xb, 2, none⟩ = some (.slice a l.length c)) (.float 0 (.float 1 (.float 2 (.float 3 (.float 4 (.float 5 (.float 6 (.float 7 (.float 8 (.fork2 9 (.float 10 (.hard 11 (.last 12 .nil))) 11 (.hard 9 (.float 10 (.last 12 .nil))))))))))))) (by kernel_rfl) (by kernel_rfl) (by kernel_rfl) rfl ?_ (fun _ _ _ _ _ h => h) ?_)
    · exact ⟨(hs60.drew).cellAt 0 rfl 0 rfl, (hs60.drew).cellAt 0 rfl 1 rfl, (hs60.drew).cellAt 0 rfl 2 rfl, cellL (hs60.drew).bel e0, cellL (hs60.drew).bel e1, cellL (hs60.drew).bel e2⟩
    have hs61 := hs60.drew
    clear k0_0 k0_1 k0_2 e0_ e1_ e2_
    have hz_wd62 : wB.heap.size ≤ (wB.drew).heap.size := by simp
    generalize hgen_wd62 : wB.drew = wd62 at *
    have HG_wd62 := Lib.hid hgen_wd62
    clear hgen_wd62
    (repeat (first | (apply t4_skip rfl (by rfl); try simp only [Act.put, List.setIfInBounds_toArray, List.set_cons_zero, List.set_cons_succ]) | (apply t4_float rfl (by rfl); (· (intro w' hS; go_simp <;> with_reducible rfl)); (try simp only [Act.put, List.setIfInBounds_toArray, List.set_cons_zero, List.set_cons_succ]))))
    refine t4_fork2 ?_ ?_
    · refine t4_hard rfl (by rfl) (fun K hK => ?_)
      go_wp2_with (go_at_call 38; refine (l03Own_c n l xb _ _ (cellL hs61.bel e1) (cellL hs61.bel e2) (Rd.mono HL.out hs61.bel) (by omega) (by omega) HSH.out HV.out).mono ?_; rintro e w63 ⟨v4, rfl, hF4, hbw63⟩)
      have hz_w63 : wd62.heap.size ≤ w63.heap.size := by have h9 := hbw63.size; (try simp at h9); omega
      have hs64 := hs61.step hbw63
      have HP4 := Lib.hid hF4.ip
      obtain ⟨a4, c4, rfl, _⟩ := rd_list hF4.rd
      clear hF4
      refine ⟨⟨hs64.cellAt 0 rfl 0 rfl, hs64.cellAt 0 rfl 1 rfl, hs64.cellAt 0 rfl 2 rfl, cellL hs64.bel e0, cellL hs64.bel e1, cellL hs64.bel e2⟩, ?_⟩
      (repeat (first | (apply t4_skip rfl (by rfl); try simp only [Act.put, List.setIfInBounds_toArray, List.set_cons_zero, List.set_cons_succ]) | (apply t4_float rfl (by rfl); (· (intro w' hS; go_simp <;> with_reducible rfl)); (try simp only [Act.put, List.setIfInBounds_toArray, List.set_cons_zero, List.set_cons_succ]))))
      refine t4_hard rfl (by rfl) (fun K hK => ?_)
      go_wp2_with fail
      have hs65 := hs64.alloc #[.int .i64 0, .int .i64 0, .slice none 0 0] 41 (n := w63.heap.size) (by simp)
      have HP4_66 := Lib.hid (Ip.mono HP4.out (belowA _ (.cells #[.int .i64 0, .int .i64 0, .slice none 0 0] 41)))
      clear HP4
      have hz_wG : w63.heap.size + 1 ≤ ((w63.alloc (.cells #[.int .i64 0, .int .i64 0, .slice none 0 0] 41))).heap.size := by simp
      generalize hgen_wG : (w63.alloc (.cells #[.int .i64 0, .int .i64 0, .slice none 0 0] 41)) = wG at *
      clear hgen_wG
      refine ⟨⟨hs65.cellAt 0 rfl 0 rfl, hs65.cellAt 0 rfl 1 rfl, hs65.cellAt 0 rfl 2 rfl, cellL hs65.bel e0, cellL hs65.bel e1, cellL hs65.bel e2⟩, ?_⟩
      (repeat (first | (apply t4_skip rfl (by rfl); try simp only [Act.put, List.setIfInBounds_toArray, List.set_cons_zero, List.set_cons_succ]) | (apply t4_float rfl (by rfl); (· (intro w' hS; go_simp <;> with_reducible rfl)); (try simp only [Act.put, List.setIfInBounds_toArray, List.set_cons_zero, List.set_cons_succ]))))
      refine t4_last rfl (by rfl) (fun K hK => ?_)
      have k0_0 := hs65.cellAt 0 rfl 0 rfl
      have k0_1 := hs65.cellAt 0 rfl 1 rfl
      have k0_2 := hs65.cellAt 0 rfl 2 rfl
      have k1_0 := hs65.cellAt 1 rfl 0 rfl
      have k1_1 := hs65.cellAt 1 rfl 1 rfl
      have k1_2 := hs65.cellAt 1 rfl 2 rfl
      have e0_ := cellL hs65.bel e0
      have e1_ := cellL hs65.bel e1
      have e2_ := cellL hs65.bel e2
      have f1_0 := hs65.freeAt 1 rfl 0
      have f1_1 := hs65.freeAt 1 rfl 1
      have f1_2 := hs65.freeAt 1 rfl 2
      go_wp2_with fail
      refine t4_nil (NoPanic.normal ?_)
      have hs67 := hs65.set (p := [_]) (by simp <;> omega) 0 (.int .i64 fr)
      have hs68 := hs67.set (p := [_]) (by simp <;> omega) 1 (.int .i64 n)
      have hs69 := hs68.set (p := [_]) (by simp <;> omega) 2 (.slice a4 l.length c4)
      have HP4_70 := Lib.hid (Ip.setCell (b := w63.heap.size) (o := 2) (Ip.setCell (b := w63.heap.size) (o := 1) (Ip.setCell (b := w63.heap.size) (o := 0) HP4_66.out (.int .i64 fr) (by intro hA9; (try simp only at hA9); omega)) (.int .i64 n) (by intro hA9; (try simp only at hA9); omega)) (.slice a4 l.length c4) (by intro hA9; (try simp only at hA9); omega))
      clear HP4_66
      clear k0_0 k0_1 k0_2 k1_0 k1_1 k1_2 e0_ e1_ e2_
      have hz_wP : wG.heap.size ≤ ((((wG.setCell ⟨w63.heap.size, 0, none⟩ (.int .i64 fr)).setCell ⟨w63.heap.size, 1, none⟩ (.int .i64 n)).setCell ⟨w63.heap.size, 2, none⟩ (.slice a4 l.length c4))).heap.size := by simp [World.setCell]
      generalize hgen_wP : (((wG.setCell ⟨w63.heap.size, 0, none⟩ (.int .i64 fr)).setCell ⟨w63.heap.size, 1, none⟩ (.int .i64 n)).setCell ⟨w63.heap.size, 2, none⟩ (.slice a4 l.length c4)) = wP at *
      clear hgen_wP
      have k0_0 := hs69.cellAt 0 rfl 0 rfl
      have k0_1 := hs69.cellAt 0 rfl 1 rfl
      have k0_2 := hs69.cellAt 0 rfl 2 rfl
      have k1_0 := hs69.cellAt 1 rfl 0 rfl
      have k1_1 := hs69.cellAt 1 rfl 1 rfl
      have k1_2 := hs69.cellAt 1 rfl 2 rfl
      have e0_ := cellL hs69.bel e0
      have e1_ := cellL hs69.bel e1
      have e2_ := cellL hs69.bel e2
      go_wp2_with fail
      go_meet
      case rel => exact ⟨w63.heap.size, a4, c4, rfl, by omega, (hs69.sub (fun x hx => by simpa using hx)).up hs69.hi (Nat.le_refl _), Ip.wk HP4_70.out (fun z hz => by have h1 := hz.1; have h2 := hz.2; omega)⟩
    · refine t4_hard rfl (by rfl) (fun K hK => ?_)
      go_wp2_with fail
      have hs71 := hs61.alloc #[.int .i64 0, .int .i64 0, .slice none 0 0] 41 (n := wd62.heap.size) (by simp)
      have hz_wG : wd62.heap.size + 1 ≤ ((wd62.alloc (.cells #[.int .i64 0, .int .i64 0, .slice none 0 0] 41))).heap.size := by simp
      generalize hgen_wG : (wd62.alloc (.cells #[.int .i64 0, .int .i64 0, .slice none 0 0] 41)) = wG at *
      clear hgen_wG
      refine ⟨⟨hs71.cellAt 0 rfl 0 rfl, hs71.cellAt 0 rfl 1 rfl, hs71.cellAt 0 rfl 2 rfl, cellL hs71.bel e0, cellL hs71.bel e1, cellL hs71.bel e2⟩, ?_⟩
      (repeat (first | (apply t4_skip rfl (by rfl); try simp only [Act.put, List.setIfInBounds_toArray, List.set_cons_zero, List.set_cons_succ]) | (apply t4_float rfl (by rfl); (· (intro w' hS; go_simp <;> with_reducible rfl)); (try simp only [Act.put, List.setIfInBounds_toArray, List.set_cons_zero, List.set_cons_succ]))))
      refine t4_hard rfl (by rfl) (fun K hK => ?_)
      go_wp2_with (go_at_call 38; refine (l03Own_c n l xb _ _ (cellL hs71.bel e1) (cellL hs71.bel e2) (Rd.mono HL.out hs71.bel) (by omega) (by omega) HSH.out HV.out).mono ?_; rintro e w72 ⟨v4, rfl, hF4, hbw72⟩)
      have hz_w72 : wG.heap.size ≤ w72.heap.size := by have h9 := hbw72.size; (try simp at h9); omega
      have hs73 := hs71.step hbw72
      have HP4 := Lib.hid hF4.ip
      obtain ⟨a4, c4, rfl, _⟩ := rd_list hF4.rd
      clear hF4
      refine ⟨⟨hs73.cellAt 0 rfl 0 rfl, hs73.cellAt 0 rfl 1 rfl, hs73.cellAt 0 rfl 2 rfl, cellL hs73.bel e0, cellL hs73.bel e1, cellL hs73.bel e2⟩, ?_⟩
      (repeat (first | (apply t4_skip rfl (by rfl); try simp only [Act.put, List.setIfInBounds_toArray, List.set_cons_zero, List.set_cons_succ]) | (apply t4_float rfl (by rfl); (· (intro w' hS; go_simp <;> with_reducible rfl)); (try simp only [Act.put, List.setIfInBounds_toArray, List.set_cons_zero, List.set_cons_succ]))))
      refine t4_last rfl (by rfl) (fun K hK => ?_)
      have k0_0 := hs73.cellAt 0 rfl 0 rfl
      have k0_1 := hs73.cellAt 0 rfl 1 rfl
      have k0_2 := hs73.cellAt 0 rfl 2 rfl
      have k1_0 := hs73.cellAt 1 rfl 0 rfl
      have k1_1 := hs73.cellAt 1 rfl 1 rfl
      have k1_2 := hs73.cellAt 1 rfl 2 rfl
      have e0_ := cellL hs73.bel e0
      have e1_ := cellL hs73.bel e1
      have e2_ := cellL hs73.bel e2
      have f1_0 := hs73.freeAt 1 rfl 0
      have f1_1 := hs73.freeAt 1 rfl 1
      have f1_2 := hs73.freeAt 1 rfl 2
      go_wp2_with fail
      refine t4_nil (NoPanic.normal ?_)
      have hs74 := hs73.set (p := [_]) (by simp <;> omega) 0 (.int .i64 fr)
      have hs75 := hs74.set (p := [_]) (by simp <;> omega) 1 (.int .i64 n)
      have hs76 := hs75.set (p := [_]) (by simp <;> omega) 2 (.slice a4 l.length c4)
      have HP4_77 := Lib.hid (Ip.setCell (b := wd62.heap.size) (o := 2) (Ip.setCell (b := wd62.heap.size) (o := 1) (Ip.setCell (b := wd62.heap.size) (o := 0) HP4.out (.int .i64 fr) (by intro hA9; (try simp only at hA9); omega)) (.int .i64 n) (by intro hA9; (try simp only at hA9); omega)) (.slice a4 l.length c4) (by intro hA9; (try simp only at hA9); omega))
      clear HP4
      clear k0_0 k0_1 k0_2 k1_0 k1_1 k1_2 e0_ e1_ e2_
      have hz_wP : w72.heap.size ≤ ((((w72.setCell ⟨wd62.heap.size, 0, none⟩ (.int .i64 fr)).setCell ⟨wd62.heap.size, 1, none⟩ (.int .i64 n)).setCell ⟨wd62.heap.size, 2, none⟩ (.slice a4 l.length c4))).heap.size := by simp [World.setCell]
      generalize hgen_wP : (((w72.setCell ⟨wd62.heap.size, 0, none⟩ (.int .i64 fr)).setCell ⟨wd62.heap.size, 1, none⟩ (.int .i64 n)).setCell ⟨wd62.heap.size, 2, none⟩ (.slice a4 l.length c4)) = wP at *
      clear hgen_wP
      have k0_0 := hs76.cellAt 0 rfl 0 rfl
      have k0_1 := hs76.cellAt 0 rfl 1 rfl
      have k0_2 := hs76.cellAt 0 rfl 2 rfl
      have k1_0 := hs76.cellAt 1 rfl 0 rfl
      have k1_1 := hs76.cellAt 1 rfl 1 rfl
      have k1_2 := hs76.cellAt 1 rfl 2 rfl
      have e0_ := cellL hs76.bel e0
      have e1_ := cellL hs76.bel e1
      have e2_ := cellL hs76.bel e2
      go_wp2_with fail
      go_meet
      case rel => exact ⟨wd62.heap.size, a4, c4, rfl, by omega, (hs76.sub (fun x hx => by simpa using hx)).up hs76.hi (Nat.le_refl _), Ip.wk HP4_77.out (fun z hz => by have h1 := hz.1; have h2 := hz.2; omega)⟩
  case rest =>
    obtain ⟨gb, a4, c4, rfl, hgw, hstG, hrd4⟩ := hcut
    have hwc : w.heap.size + 1 ≤ wc.heap.size := by have h1 := (hstG.out.box _ (List.mem_cons_self ..)).2.1; simp only at h1; omega
    have hgb : w.heap.size ≤ gb ∧ gb < wc.heap.size := by have h1 := hstG.out.box _ (List.mem_cons_of_mem _ (List.mem_cons_self ..)); exact ⟨h1.1, h1.2.1⟩
    have k0_0 := hstG.out.cellAt 0 rfl 0 rfl
    have k0_1 := hstG.out.cellAt 0 rfl 1 rfl
    have k0_2 := hstG.out.cellAt 0 rfl 2 rfl
    have k1_0 := hstG.out.cellAt 1 rfl 0 rfl
    have k1_1 := hstG.out.cellAt 1 rfl 1 rfl
    have k1_2 := hstG.out.cellAt 1 rfl 2 rfl
    have e0_ := cellL hstG.out.bel e0
    have e1_ := cellL hstG.out.bel e1
    have e2_ := cellL hstG.out.bel e2
    have HA4 := hrd4
    clear hrd4
    go_wp2_with fail
    refine (l03Equal_c fr l gb _ _ HA4.out.rd (hstG.out.cellAt 1 rfl 0 rfl) (hstG.out.cellAt 1 rfl 2 rfl) (fun a ha => (HV.out a ha).2)).mono ?_
    rintro e w78 ⟨rfl, hbw78⟩
    have hz_w78 : wc.heap.size ≤ w78.heap.size := by have h9 := hbw78.size; (try simp at h9); omega
    have hs79 := hstG.out.step hbw78
    have HA4_80 := Lib.hid (Ip.mono HA4.out hbw78)
    clear HA4
    clear k0_0 k0_1 k0_2 k1_0 k1_1 k1_2 e0_ e1_ e2_
    have k0_0 := hs79.cellAt 0 rfl 0 rfl
    have k0_1 := hs79.cellAt 0 rfl 1 rfl
    have k0_2 := hs79.cellAt 0 rfl 2 rfl
    have k1_0 := hs79.cellAt 1 rfl 0 rfl
    have k1_1 := hs79.cellAt 1 rfl 1 rfl
    have k1_2 := hs79.cellAt 1 rfl 2 rfl
    have e0_ := cellL hs79.bel e0
    have e1_ := cellL hs79.bel e1
    have e2_ := cellL hs79.bel e2
    have HS1 := Lib.hid (hs79.up hs79.hi (Nat.le_refl _))
    have HR1 := Lib.hid HA4_80.out
    clear HA4_80
    go_wp2_with fail
    go_loopw [4] (fun iv wl => ∃ (A : List OpT) (ao : Option Addr) (co : Nat), iv = .int .i64 (firstI (isMrg fr) A) ∧ Hid (MrgR fr n l A) ∧ Hid (ShortA A ∧ A.length = l.length) ∧ Hid (Ip (fun z => z ≠ gb) wl [.slice ao A.length co] A) ∧ Hid (St w wl.heap.size wl [(w.heap.size, #[.int .i64 0, .int .i64 0, .slice none 0 0], 41), (gb, #[.int .i64 fr, .int .i64 n, .slice ao A.length co], 41)])) (fun iv wl => usedW n wl ((wl.cell? ⟨gb, 2, none⟩).getD undef))
    case atStart => exact ⟨l, a4, c4, rfl, mrgR_start fr HV.out, ⟨HSH.out, rfl⟩, HR1.out, HS1.out⟩
    case round =>
      clear HS1 HR1
      obtain ⟨A, ao, co, rfl, hmr, hsa, hra, hst⟩ := hrel
      have hgb2 : gb < wr.heap.size := by have h1 := hst.out.box _ (List.mem_cons_of_mem _ (List.mem_cons_self ..)); exact h1.2.1
      have hwr : w.heap.size < wr.heap.size := by have h1 := hst.out.box _ (List.mem_cons_self ..); exact h1.2.1
      have k0_0 := hst.out.cellAt 0 rfl 0 rfl
      have k0_1 := hst.out.cellAt 0 rfl 1 rfl
      have k0_2 := hst.out.cellAt 0 rfl 2 rfl
      have k1_0 := hst.out.cellAt 1 rfl 0 rfl
      have k1_1 := hst.out.cellAt 1 rfl 1 rfl
      have k1_2 := hst.out.cellAt 1 rfl 2 rfl
      have e0_ := cellL hst.out.bel e0
      have e1_ := cellL hst.out.bel e1
      have e2_ := cellL hst.out.bel e2
      have HME0 := Lib.hid (hst.out.cellAt 1 rfl 2 rfl)
      have HRA := Lib.hid hra.out.rd
      have HBR := Lib.hid (Below.refl wr.heap.size wr)
      generalize hFF : firstI (isMrg fr) A = F at *
      by_cases hge : 0 ≤ F
      · obtain ⟨i, rfl⟩ : ∃ i : Nat, F = i := ⟨F.toNat, by omega⟩
        obtain ⟨hiA, x, y, hAi, hq⟩ := mrg_two hmr.out.1 hFF
        have HST := Lib.hid (mrgR_step hmr.out hFF)
        have hxy := hmr.out.1 _ (List.getElem_mem hiA)
        have HGD := Lib.hid (show A.getD i (0, []) = (-1, [x, y]) by simp [List.getD, hiA, hAi])
        obtain ⟨b, o, u0, u1, he, q0, q1, hy⟩ := rd_two_at rfl HRA.out i hiA
        rw [hAi] at hy hxy
        have hx0 := hxy.1 x (by simp)
        have hy0 := hxy.1 y (by simp)
        have hyz := rd_cons rfl hy
        obtain ⟨rfl, _⟩ := rd_i1 hyz.1
        have HSC := Lib.hid hyz.2
        obtain ⟨a2, c2, rfl, _⟩ := rd_list hyz.2
        subst he
        have hAl : A.length ≤ 1000000 := by have := hsa.out.2; omega
        have hiI : (i : Int) < A.length := by omega
        obtain ⟨M, hM⟩ : ∃ M : Nat, max x y = (M : Int) := ⟨(max x y).toNat, by omega⟩
        have hMn : M < n := by omega
        have hMI : (M : Int) < n := by omega
        obtain ⟨b2, o2, rfl, s0, s1, _, _, _⟩ := rd_ints2 HSC.out
        have HSM := Lib.hid (show movL (atT ((upL 0 n).set M (min x y))) A = stepM A i from by
          unfold stepM
          rw [HGD.out]
          exact movL_set hmr.out.1 hM)
        have HMX := Lib.hid (show ∀ W : World, Calls Tryz.prog 42 #[.int .i64 x, .int .i64 y] W fun e w' => e = .returned (.int .i64 (M : Int)) ∧ W = w' from fun W => by
          have h := l00Max_c x y W
          rw [hM] at h
          exact h)
        have hmn : I64 (min x y) := ⟨by omega, by omega⟩
        clear hy hyz hAi hq hFF hxy hM hx0 hy0
        go_wp2_with fail
        refine (l03Count_c n _ (by omega)).mono ?_
        rintro e w81 ⟨v6, rfl, hA6, hbw81⟩
        have hz_w81 : wr.heap.size ≤ w81.heap.size := by have h9 := hbw81.size; (try simp at h9); omega
        have hs82 := hst.out.step hbw81
        have q0_83 := cellL hbw81 q0
        clear q0
        have q1_84 := cellL hbw81 q1
        clear q1
        have s0_85 := cellL hbw81 s0
        clear s0
        have s1_86 := cellL hbw81 s1
        clear s1
        have HRA_87 := Lib.hid (Rd.mono HRA.out hbw81)
        clear HRA
        have HBR_88 := Lib.hid (HBR.out.trans ((hbw81).mono HBR.out.size))
        clear HBR
        clear k0_0 k0_1 k0_2 k1_0 k1_1 k1_2 e0_ e1_ e2_
        have k0_0 := hs82.cellAt 0 rfl 0 rfl
        have k0_1 := hs82.cellAt 0 rfl 1 rfl
        have k0_2 := hs82.cellAt 0 rfl 2 rfl
        have k1_0 := hs82.cellAt 1 rfl 0 rfl
        have k1_1 := hs82.cellAt 1 rfl 1 rfl
        have k1_2 := hs82.cellAt 1 rfl 2 rfl
        have e0_ := cellL hs82.bel e0
        have e1_ := cellL hs82.bel e1
        have e2_ := cellL hs82.bel e2
        have hsz6 : wr.heap.size ≤ w81.heap.size := by omega
        have HTO := Lib.hid (Ip.iv hA6.ip (fun k h => h))
        clear hA6
        obtain ⟨g6, o6, c6, rfl, hg6, hg7, _, _, _, _⟩ := iv_int_set HTO.out M (by rw [upL_len]; exact hMn)
        rw [upL_len] at HTO
        rw [upL_len]
        go_upto_region 7 with fail
        clear HME0
        refine wp_region_noPanic (wp_region_tree4 (fun w' => w'.cell? ⟨w.heap.size, 0, none⟩ = some (.int .i64 0) ∧ w'.cell? ⟨w.heap.size, 1, none⟩ = some (.int .i64 0) ∧ w'.cell? ⟨w.heap.size, 2, none⟩ = some (.slice none 0 0) ∧ w'.cell? ⟨gb, 0, none⟩ = some (.int .i64 fr) ∧ w'.cell? ⟨gb, 1, none⟩ = some (.int .i64 n) ∧ w'.cell? ⟨gb, 2, none⟩ = some (.slice (some ⟨b, o, none⟩) A.length co) ∧ w'.cell? ⟨xb, 0, none⟩ = some (.int .i64 fr) ∧ w'.cell? ⟨xb, 1, none⟩ = some (.int .i64 n) ∧ w'.cell? ⟨xb, 2, none⟩ = some (.slice a l.length c) ∧ w'.cell? ⟨b, o + i * 2, none⟩ = some (.int .i64 (-1)) ∧ w'.cell? ⟨b, o + i * 2 + 1, none⟩ = some (.slice (some ⟨b2, o2, none⟩) 2 c2) ∧ w'.cell? ⟨b2, o2, none⟩ = some (.int .i64 x) ∧ w'.cell? ⟨b2, o2 + 1, none⟩ = some (.int .i64 y)) (.float 0 (.float 1 (.float 2 (.float 3 (.float 4 (.float 5 (.float 6 (.float 8 (.float 9 (.float 10 (.float 11 (.float 12 (.float 13 (.hard 7 (.hard 14 (.float 15 (.last 16 .nil))))))))))))))))) (by kernel_rfl) (by kernel_rfl) (by kernel_rfl) rfl ?_ (fun _ _ _ _ _ h => h) ?_)
        · exact ⟨(hs82.drew).cellAt 0 rfl 0 rfl, (hs82.drew).cellAt 0 rfl 1 rfl, (hs82.drew).cellAt 0 rfl 2 rfl, (hs82.drew).cellAt 1 rfl 0 rfl, (hs82.drew).cellAt 1 rfl 1 rfl, (hs82.drew).cellAt 1 rfl 2 rfl, cellL (hs82.drew).bel e0, cellL (hs82.drew).bel e1, cellL (hs82.drew).bel e2, cellL (belowD _) q0_83, cellL (belowD _) q1_84, cellL (belowD _) s0_85, cellL (belowD _) s1_86⟩
        have hs89 := hs82.drew
        have q0_90 := cellL (belowD _) q0_83
        clear q0_83
        have q1_91 := cellL (belowD _) q1_84
        clear q1_84
        have s0_92 := cellL (belowD _) s0_85
        clear s0_85
        have s1_93 := cellL (belowD _) s1_86
        clear s1_86
        have HRA_94 := Lib.hid (Rd.mono HRA_87.out (belowD _))
        clear HRA_87
        have HBR_95 := Lib.hid (HBR_88.out.trans (((belowD _)).mono HBR_88.out.size))
        clear HBR_88
        have HTO_96 := Lib.hid (Iv.mono HTO.out (belowD _))
        clear HTO
        clear k0_0 k0_1 k0_2 k1_0 k1_1 k1_2 e0_ e1_ e2_
        have hz_wd97 : w81.heap.size ≤ (w81.drew).heap.size := by simp
        generalize hgen_wd97 : w81.drew = wd97 at *
        have HG_wd97 := Lib.hid hgen_wd97
        clear hgen_wd97
        (repeat (first | (apply t4_skip rfl (by rfl); try simp only [Act.put, List.setIfInBounds_toArray, List.set_cons_zero, List.set_cons_succ]) | (apply t4_float rfl (by rfl); (· (intro w' hS; go_simp <;> with_reducible rfl)); (try simp only [Act.put, List.setIfInBounds_toArray, List.set_cons_zero, List.set_cons_succ]))))
        refine t4_hard rfl (by rfl) (fun K hK => ?_)
        go_wp2_with (go_at_call 42; refine (HMX.out _).mono ?_; rintro e w98 ⟨rfl, rfl⟩)
        refine ⟨⟨hs89.cellAt 0 rfl 0 rfl, hs89.cellAt 0 rfl 1 rfl, hs89.cellAt 0 rfl 2 rfl, hs89.cellAt 1 rfl 0 rfl, hs89.cellAt 1 rfl 1 rfl, hs89.cellAt 1 rfl 2 rfl, cellL hs89.bel e0, cellL hs89.bel e1, cellL hs89.bel e2, q0_90, q1_91, s0_92, s1_93⟩, ?_⟩
        (repeat (first | (apply t4_skip rfl (by rfl); try simp only [Act.put, List.setIfInBounds_toArray, List.set_cons_zero, List.set_cons_succ]) | (apply t4_float rfl (by rfl); (· (intro w' hS; go_simp <;> with_reducible rfl)); (try simp only [Act.put, List.setIfInBounds_toArray, List.set_cons_zero, List.set_cons_succ]))))
        refine t4_hard rfl (by rfl) (fun K hK => ?_)
        go_wp2_with (go_at_call 41; refine (l00Min_c x y _).mono ?_; rintro e w99 ⟨rfl, rfl⟩)
        refine ⟨⟨hs89.cellAt 0 rfl 0 rfl, hs89.cellAt 0 rfl 1 rfl, hs89.cellAt 0 rfl 2 rfl, hs89.cellAt 1 rfl 0 rfl, hs89.cellAt 1 rfl 1 rfl, hs89.cellAt 1 rfl 2 rfl, cellL hs89.bel e0, cellL hs89.bel e1, cellL hs89.bel e2, q0_90, q1_91, s0_92, s1_93⟩, ?_⟩
        (repeat (first | (apply t4_skip rfl (by rfl); try simp only [Act.put, List.setIfInBounds_toArray, List.set_cons_zero, List.set_cons_succ]) | (apply t4_float rfl (by rfl); (· (intro w' hS; go_simp <;> with_reducible rfl)); (try simp only [Act.put, List.setIfInBounds_toArray, List.set_cons_zero, List.set_cons_succ]))))
        refine t4_last rfl (by rfl) (fun K hK => ?_)
        have k0_0 := hs89.cellAt 0 rfl 0 rfl
        have k0_1 := hs89.cellAt 0 rfl 1 rfl
        have k0_2 := hs89.cellAt 0 rfl 2 rfl
        have k1_0 := hs89.cellAt 1 rfl 0 rfl
        have k1_1 := hs89.cellAt 1 rfl 1 rfl
        have k1_2 := hs89.cellAt 1 rfl 2 rfl
        have e0_ := cellL hs89.bel e0
        have e1_ := cellL hs89.bel e1
        have e2_ := cellL hs89.bel e2
        obtain ⟨g7, o7, c7, he7, _, _, hc7, hf7, _, hset7⟩ := iv_int_set HTO_96.out M (by rw [upL_len]; exact hMn)
        rw [upL_len] at he7
        simp only [Value.slice.injEq, Option.some.injEq, Addr.mk.injEq] at he7
        obtain ⟨⟨rfl, rfl, _⟩, _, rfl⟩ := he7
        have HT7 := Lib.hid (hset7 (min x y) hmn)
        have HB7 := Lib.hid (HBR_95.out.setCell (p := ⟨g6, o6 + M, none⟩) (by (try simp) <;> omega) (.int .i64 (min x y)))
        have hs7 := hs89.stepB ((Below.refl wr.heap.size wd97).setCell (p := ⟨g6, o6 + M, none⟩) (by (try simp) <;> omega) (.int .i64 (min x y)))
        clear hset7
        go_wp2_with fail
        refine t4_nil (NoPanic.normal ?_)
        go_upto_region 8 with fail
        generalize hgS : World.setCell wd97 ⟨g6, o6 + M, none⟩ (.int .i64 (min x y)) = wS at *
        clear HRA_94
        clear HBR_95
        clear HTO_96
        clear k0_0 k0_1 k0_2 k1_0 k1_1 k1_2 e0_ e1_ e2_
        clear q0_90
        clear q1_91
        clear s0_92
        clear s1_93
        clear hgS hc7 hf7
        have hzS : wr.heap.size ≤ wS.heap.size := HB7.out.size
        have HTR := Lib.hid (HT7.out.rd)
        clear HT7
        have k0_0 := hs7.cellAt 0 rfl 0 rfl
        have k0_1 := hs7.cellAt 0 rfl 1 rfl
        have k0_2 := hs7.cellAt 0 rfl 2 rfl
        have k1_0 := hs7.cellAt 1 rfl 0 rfl
        have k1_1 := hs7.cellAt 1 rfl 1 rfl
        have k1_2 := hs7.cellAt 1 rfl 2 rfl
        have e0_ := cellL hs7.bel e0
        have e1_ := cellL hs7.bel e1
        have e2_ := cellL hs7.bel e2
        clear k0_0 k0_1 k0_2 k1_0 k1_1 k1_2 e0_ e1_ e2_
        have k0_0 := hs7.cellAt 0 rfl 0 rfl
        have k0_1 := hs7.cellAt 0 rfl 1 rfl
        have k0_2 := hs7.cellAt 0 rfl 2 rfl
        have k1_0 := hs7.cellAt 1 rfl 0 rfl
        have k1_1 := hs7.cellAt 1 rfl 1 rfl
        have k1_2 := hs7.cellAt 1 rfl 2 rfl
        have e0_ := cellL hs7.bel e0
        have e1_ := cellL hs7.bel e1
        have e2_ := cellL hs7.bel e2
        go_wp2_with fail
        refine (l03Moved_c A ((upL 0 n).set M (min x y)) _ _ _ (Rd.mono hra.out.rd HB7.out) HTR.out hAl hsa.out.1 (fun a ha x hx => by rw [List.length_set, upL_len]; exact (hmr.out.1 a ha).1 x hx)).mono ?_
        rintro e w100 ⟨v8, rfl, hF8, hbw100⟩
        have hz_w100 : wS.heap.size ≤ w100.heap.size := by have h9 := hbw100.size; (try simp at h9); omega
        have hs101 := hs7.step hbw100
        clear k0_0 k0_1 k0_2 k1_0 k1_1 k1_2 e0_ e1_ e2_
        have k0_0 := hs101.cellAt 0 rfl 0 rfl
        have k0_1 := hs101.cellAt 0 rfl 1 rfl
        have k0_2 := hs101.cellAt 0 rfl 2 rfl
        have k1_0 := hs101.cellAt 1 rfl 0 rfl
        have k1_1 := hs101.cellAt 1 rfl 1 rfl
        have k1_2 := hs101.cellAt 1 rfl 2 rfl
        have e0_ := cellL hs101.bel e0
        have e1_ := cellL hs101.bel e1
        have e2_ := cellL hs101.bel e2
        have HSA2 := Lib.hid (show ShortA (stepM A i) ∧ (stepM A i).length = l.length from ⟨by rw [← HSM.out]; exact hsa.out.1.movL _, by rw [← HSM.out, movL_len]; exact hsa.out.2⟩)
        rw [HSM.out] at hF8
        have HP8 := Lib.hid hF8.ip
        clear hF8 HSM
        generalize hBB : stepM A i = B at *
        clear hBB
        obtain ⟨a8, c8, rfl, _⟩ := rd_list HP8.out.rd
        have f1_0 := hs101.freeAt 1 rfl 0
        have f1_1 := hs101.freeAt 1 rfl 1
        have f1_2 := hs101.freeAt 1 rfl 2
        go_upto_region 4 with fail
        have hs102 := hs101.set (p := [_]) (by simp <;> omega) 2 (.slice a8 B.length c8)
        have HP8_103 := Lib.hid (Ip.setCell (b := gb) (o := 2) HP8.out (.slice a8 B.length c8) (by intro hA9; (try simp only at hA9); omega))
        clear HP8
        clear k0_0 k0_1 k0_2 k1_0 k1_1 k1_2 e0_ e1_ e2_
        have hz_wP : w100.heap.size ≤ ((w100.setCell ⟨gb, 2, none⟩ (.slice a8 B.length c8))).heap.size := by simp [World.setCell]
        generalize hgen_wP : (w100.setCell ⟨gb, 2, none⟩ (.slice a8 B.length c8)) = wP at *
        clear hgen_wP
        have k0_0 := hs102.cellAt 0 rfl 0 rfl
        have k0_1 := hs102.cellAt 0 rfl 1 rfl
        have k0_2 := hs102.cellAt 0 rfl 2 rfl
        have k1_0 := hs102.cellAt 1 rfl 0 rfl
        have k1_1 := hs102.cellAt 1 rfl 1 rfl
        have k1_2 := hs102.cellAt 1 rfl 2 rfl
        have e0_ := cellL hs102.bel e0
        have e1_ := cellL hs102.bel e1
        have e2_ := cellL hs102.bel e2
        go_wp2_with fail
        refine (l03Equal_c fr B gb _ _ HP8_103.out.rd (hs102.cellAt 1 rfl 0 rfl) (hs102.cellAt 1 rfl 2 rfl) (fun a ha => (HST.out.1.1 a ha).2)).mono ?_
        rintro e w104 ⟨rfl, hbw104⟩
        have hz_w104 : wP.heap.size ≤ w104.heap.size := by have h9 := hbw104.size; (try simp at h9); omega
        have hs105 := hs102.step hbw104
        have HP8_106 := Lib.hid (Ip.mono HP8_103.out hbw104)
        clear HP8_103
        clear k0_0 k0_1 k0_2 k1_0 k1_1 k1_2 e0_ e1_ e2_
        have k0_0 := hs105.cellAt 0 rfl 0 rfl
        have k0_1 := hs105.cellAt 0 rfl 1 rfl
        have k0_2 := hs105.cellAt 0 rfl 2 rfl
        have k1_0 := hs105.cellAt 1 rfl 0 rfl
        have k1_1 := hs105.cellAt 1 rfl 1 rfl
        have k1_2 := hs105.cellAt 1 rfl 2 rfl
        have e0_ := cellL hs105.bel e0
        have e1_ := cellL hs105.bel e1
        have e2_ := cellL hs105.bel e2
        go_wp2_with fail
        go_roundw
        case rel => exact ⟨B, a8, c8, rfl, HST.out.1, HSA2.out, Ip.wk HP8_106.out (fun z hz => by have h1 := hz.1; omega), hs105.up (by omega) (Nat.le_refl _)⟩
        case measure =>
          have e1 := (hs105.cellAt 1 rfl 2 rfl)
          have e9 := hst.out.cellAt 1 rfl 2 rfl
          rw [e1, e9]
          show usedW n _ (.slice a8 B.length c8) < usedW n _ (.slice _ A.length co)
          rw [usedW_eq HP8_106.out.rd, usedW_eq hra.out.rd]
          exact HST.out.2
      · have HME := Lib.hid (mrgR_end hmr.out (by rw [hFF]; omega))
        have HVA := Lib.hid hmr.out.1
        have HSHA := Lib.hid hsa.out.1
        have hAl : A.length ≤ 16 := by have := hsa.out.2; omega
        clear hFF hmr hsa HME0
        clear HBR
        clear HRA
        have HPA := hra
        clear hra
        obtain ⟨wE, hwE⟩ : ∃ x, x = wr := ⟨_, rfl⟩
        subst hwE
        go_wp2_with fail
        refine (l03Less_c (fun z => z ≠ gb) A _ _ HPA.out (by omega) (fun a ha => (HVA.out a ha).2)).mono ?_
        rintro e w107 ⟨v3, rfl, hro, hgo, hbw107⟩
        have hz_w107 : wE.heap.size ≤ w107.heap.size := by have h9 := hbw107.size; (try simp at h9); omega
        have hs108 := hst.out.step hbw107
        clear k0_0 k0_1 k0_2 k1_0 k1_1 k1_2 e0_ e1_ e2_
        have k0_0 := hs108.cellAt 0 rfl 0 rfl
        have k0_1 := hs108.cellAt 0 rfl 1 rfl
        have k0_2 := hs108.cellAt 0 rfl 2 rfl
        have k1_0 := hs108.cellAt 1 rfl 0 rfl
        have k1_1 := hs108.cellAt 1 rfl 1 rfl
        have k1_2 := hs108.cellAt 1 rfl 2 rfl
        have e0_ := cellL hs108.bel e0
        have e1_ := cellL hs108.bel e1
        have e2_ := cellL hs108.bel e2
        have HLF := Lib.hid (show lessT A A.length = leftF ((fr : Int), (n : Int), l) from by
          show lessT A A.length = lessF (mrgF fr n l)
          rw [← HME.out]; rfl)
        have HVL := Lib.hid (show AtomsV n (lessT A A.length) from fun a ha => HVA.out a (lessT_mem A A.length (Nat.le_refl _) a ha))
        have HSL := Lib.hid (show ShortA (lessT A A.length) from fun a ha => HSHA.out a (lessT_mem A A.length (Nat.le_refl _) a ha))
        have hLl := lessT_len A A.length
        have hzl : wE.heap.size ≤ w107.heap.size := by omega
        obtain ⟨a3, c3, rfl, _⟩ := rd_list (hro.rowR.rd hbw107)
        clear HVA HSHA HME
        generalize lessT A A.length = L at *
        have HRL := Lib.hid (show Rd (World.setCell w107 ⟨gb, 2, none⟩ (.slice a3 L.length c3)) [.slice a3 L.length c3] L from
          RowR.rd (RowR.frame (hro.move (w1 := World.setCell w107 ⟨gb, 2, none⟩ (.slice a3 L.length c3)) (fun k hk hk2 => (Below.heap_setCell _ _ _ _ (fun h => hk h)).trans (hbw107.block k hk2))).rowR (fun g hg => Below.heap_setCell _ _ _ _ (fun h => by have := hgo g hg; simp only at h; omega))) (Below.refl _ _))
        clear hro hgo HPA
        have f1_0 := hs108.freeAt 1 rfl 0
        have f1_1 := hs108.freeAt 1 rfl 1
        have f1_2 := hs108.freeAt 1 rfl 2
        go_upto_region 10 with fail
        have hs109 := hs108.set (p := [_]) (by simp <;> omega) 2 (.slice a3 L.length c3)
        clear k0_0 k0_1 k0_2 k1_0 k1_1 k1_2 e0_ e1_ e2_
        have hz_wP : w107.heap.size ≤ ((w107.setCell ⟨gb, 2, none⟩ (.slice a3 L.length c3))).heap.size := by simp [World.setCell]
        generalize hgen_wP : (w107.setCell ⟨gb, 2, none⟩ (.slice a3 L.length c3)) = wP at *
        clear hgen_wP
        have k0_0 := hs109.cellAt 0 rfl 0 rfl
        have k0_1 := hs109.cellAt 0 rfl 1 rfl
        have k0_2 := hs109.cellAt 0 rfl 2 rfl
        have k1_0 := hs109.cellAt 1 rfl 0 rfl
        have k1_1 := hs109.cellAt 1 rfl 1 rfl
        have k1_2 := hs109.cellAt 1 rfl 2 rfl
        have e0_ := cellL hs109.bel e0
        have e1_ := cellL hs109.bel e1
        have e2_ := cellL hs109.bel e2
        have HU0 := Lib.hid (show upL 0 fr = (toT fr L 0).1 by simp [upL, toT])
        have HB5 := Lib.hid (Below.refl wP.heap.size wP)
        have HSP := Lib.hid (hs109.up (B' := wP.heap.size) (by omega) (Nat.le_refl _))
        have k0_0 := HSP.out.cellAt 0 rfl 0 rfl
        have k0_1 := HSP.out.cellAt 0 rfl 1 rfl
        have k0_2 := HSP.out.cellAt 0 rfl 2 rfl
        have k1_0 := HSP.out.cellAt 1 rfl 0 rfl
        have k1_1 := HSP.out.cellAt 1 rfl 1 rfl
        have k1_2 := HSP.out.cellAt 1 rfl 2 rfl
        have e0_ := cellL HSP.out.bel e0
        have e1_ := cellL HSP.out.bel e1
        have e2_ := cellL HSP.out.bel e2
        go_wp2_with fail
        refine (l03Count_c fr _ (by omega)).mono ?_
        rintro e w110 ⟨v5, rfl, hA5, hbw110⟩
        have hz_w110 : wP.heap.size ≤ w110.heap.size := by have h9 := hbw110.size; (try simp at h9); omega
        have hs111 := HSP.out.step hbw110
        have HB5_112 := Lib.hid (HB5.out.trans ((hbw110).mono HB5.out.size))
        clear HB5
        clear k0_0 k0_1 k0_2 k1_0 k1_1 k1_2 e0_ e1_ e2_
        have k0_0 := hs111.cellAt 0 rfl 0 rfl
        have k0_1 := hs111.cellAt 0 rfl 1 rfl
        have k0_2 := hs111.cellAt 0 rfl 2 rfl
        have k1_0 := hs111.cellAt 1 rfl 0 rfl
        have k1_1 := hs111.cellAt 1 rfl 1 rfl
        have k1_2 := hs111.cellAt 1 rfl 2 rfl
        have e0_ := cellL hs111.bel e0
        have e1_ := cellL hs111.bel e1
        have e2_ := cellL hs111.bel e2
        rw [HU0.out] at hA5
        obtain ⟨a5, c5, rfl, _⟩ := hA5.len
        have HS5 := Lib.hid hs111
        have HBB5 := Lib.hid HB5_112.out
        have HA5 := Lib.hid hA5
        clear hA5 HU0
        go_wp2_with fail
        go_loopw [7, 8, 9] (fun tv nv iv wl => ∃ (k : Nat) (ab : Option Addr) (cb : Nat), k ≤ n - fr ∧ tv = .slice ab (toT fr L k).1.length cb ∧ nv = .int .i64 ((toT fr L k).2 : Nat) ∧ iv = .int .i64 ((fr + k : Nat) : Int) ∧ Hid (St w wP.heap.size wl [(w.heap.size, #[.int .i64 0, .int .i64 0, .slice none 0 0], 41), (gb, #[.int .i64 fr, .int .i64 n, .slice a3 L.length c3], 41)]) ∧ Hid (Below wP.heap.size wP wl) ∧
          Hid (AccP (fun z => wP.heap.size ≤ z ∧ z < wl.heap.size) 2 wl (.slice ab (toT fr L k).1.length cb) (toT fr L k).1)) (fun _ _ i _ => n - (intOf i).toNat)
        case atStart => exact ⟨0, a5, c5, Nat.zero_le _, rfl, rfl, rfl, HS5.out, HBB5.out, HA5.out⟩
        case round =>
          clear HS5 HBB5 HA5
          obtain ⟨k, ab, cb, hk, rfl, rfl, rfl, hst3, hbl3, hac3⟩ := hrel
          have hzP : wP.heap.size ≤ wr.heap.size := hbl3.out.size
          have HB6 := hbl3
          have HAV := Lib.hid (AccP.wk hac3.out.tight (C := fun z => wP.heap.size ≤ z ∧ z < wr.heap.size) (fun z h => h.1))
          clear hbl3 hac3
          have k0_0 := hst3.out.cellAt 0 rfl 0 rfl
          have k0_1 := hst3.out.cellAt 0 rfl 1 rfl
          have k0_2 := hst3.out.cellAt 0 rfl 2 rfl
          have k1_0 := hst3.out.cellAt 1 rfl 0 rfl
          have k1_1 := hst3.out.cellAt 1 rfl 1 rfl
          have k1_2 := hst3.out.cellAt 1 rfl 2 rfl
          have e0_ := cellL hst3.out.bel e0
          have e1_ := cellL hst3.out.bel e1
          have e2_ := cellL hst3.out.bel e2
          have hT2 := toT_len fr L k
          have hT1 := Nat.le_of_eq (toT_ok fr L k).2.1
          have HT1 := Lib.hid (toT_ok fr L k).2.1
          by_cases hlt : k < n - fr
          · have hlI : ((fr + k : Nat) : Int) < n := by omega
            have HST := Lib.hid (show (toT fr L (k + 1)).1 = (toT fr L k).1 ++ [((toT fr L k).2 : Int)] from rfl)
            have HSL1 := Lib.hid (show (toT fr L k).1.length + 1 = (toT fr L (k + 1)).1.length by rw [HST.out, List.length_append]; rfl)
            have HSU := Lib.hid (show (toT fr L (k + 1)).2 = if usedB L ((fr + k : Nat) : Int) then (toT fr L k).2 + 1 else (toT fr L k).2 from rfl)
            have HBX := Lib.hid (Below.refl wr.heap.size wr)
            have HT0 := Lib.hid (show false = usedB (L.take 0) ((fr + k : Nat) : Int) by rfl)
            have hIv : I64 ((fr + k : Nat) : Int) := ⟨by omega, by omega⟩
            generalize hVV : ((fr + k : Nat) : Int) = VV at *
            obtain ⟨wX, hwX⟩ : ∃ x, x = wr := ⟨_, rfl⟩
            subst hwX
            go_wp2_with fail
            go_loopw [10, 11] (fun uv jv wl => ∃ j : Nat, j ≤ L.length ∧ jv = .int .i64 j ∧ uv = .bool (usedB (L.take j) VV) ∧ Hid (Below wX.heap.size wX wl)) (fun _ i _ => L.length - (intOf i).toNat)
            case atStart => exact ⟨0, Nat.zero_le _, rfl, by rw [← HT0.out], HBX.out⟩
            case round =>
              clear HBX HT0
              obtain ⟨j, hj, rfl, rfl, hbj⟩ := hrel
              have HBJ := hbj.out
              have hz_wr : wX.heap.size ≤ wr.heap.size := by have h9 := HBJ.size; (try simp at h9); omega
              have hs113 := hst3.out.step HBJ
              have HB6_114 := Lib.hid (HB6.out.trans ((HBJ).mono HB6.out.size))
              clear HB6
              have HAV_115 := Lib.hid (AccP.mono HAV.out HBJ)
              clear HAV
              clear k0_0 k0_1 k0_2 k1_0 k1_1 k1_2 e0_ e1_ e2_
              have k0_0 := hs113.cellAt 0 rfl 0 rfl
              have k0_1 := hs113.cellAt 0 rfl 1 rfl
              have k0_2 := hs113.cellAt 0 rfl 2 rfl
              have k1_0 := hs113.cellAt 1 rfl 0 rfl
              have k1_1 := hs113.cellAt 1 rfl 1 rfl
              have k1_2 := hs113.cellAt 1 rfl 2 rfl
              have e0_ := cellL hs113.bel e0
              have e1_ := cellL hs113.bel e1
              have e2_ := cellL hs113.bel e2
              clear hbj
              have HBK := Lib.hid HBJ
              by_cases hjl : j < L.length
              · have hjI : (j : Int) < L.length := by omega
                have HAT := Lib.hid (any_takeU VV L hjl)
                obtain ⟨b2, o2, t0, t1, he2, p0, p1, hy2⟩ := rd_two_at rfl (Rd.mono HRL.out HB6_114.out) j hjl
                generalize L[j] = D at *
                obtain ⟨di, sd⟩ := D
                subst he2
                have hyz := rd_cons rfl hy2
                obtain ⟨rfl, _⟩ := rd_i1 hyz.1
                obtain ⟨a7, c7, rfl, _⟩ := rd_list hyz.2
                have HSD := Lib.hid hyz.2
                clear hy2 hyz
                cases hB : usedB (L.take j) VV with
                | true =>
                  have H1 := Lib.hid (show usedB (L.take (j + 1)) VV = true by rw [HAT.out, hB, Bool.true_or])
                  clear hB
                  go_wp2_with fail
                  go_roundw
                  case rel => exact ⟨j + 1, hjl, by go_num, by rw [H1.out], HBK.out⟩
                  case measure => simp [intOf]; omega
                | false =>
                  have H1 := Lib.hid (show usedB (L.take (j + 1)) VV = hasI sd VV by rw [HAT.out, hB, Bool.false_or])
                  clear hB
                  go_wp2_with fail
                  refine (l00Has_c sd _ VV _ HSD.out).mono ?_
                  rintro e w116 ⟨rfl, hbw116⟩
                  have hz_w116 : wr.heap.size ≤ w116.heap.size := by have h9 := hbw116.size; (try simp at h9); omega
                  have hs117 := hs113.step hbw116
                  have HB6_118 := Lib.hid (HB6_114.out.trans ((hbw116).mono HB6_114.out.size))
                  clear HB6_114
                  have HAV_119 := Lib.hid (AccP.mono HAV_115.out hbw116)
                  clear HAV_115
                  have HBK_120 := Lib.hid (HBK.out.trans ((hbw116).mono HBK.out.size))
                  clear HBK
                  clear k0_0 k0_1 k0_2 k1_0 k1_1 k1_2 e0_ e1_ e2_
                  have k0_0 := hs117.cellAt 0 rfl 0 rfl
                  have k0_1 := hs117.cellAt 0 rfl 1 rfl
                  have k0_2 := hs117.cellAt 0 rfl 2 rfl
                  have k1_0 := hs117.cellAt 1 rfl 0 rfl
                  have k1_1 := hs117.cellAt 1 rfl 1 rfl
                  have k1_2 := hs117.cellAt 1 rfl 2 rfl
                  have e0_ := cellL hs117.bel e0
                  have e1_ := cellL hs117.bel e1
                  have e2_ := cellL hs117.bel e2
                  go_wp2_with fail
                  go_roundw
                  case rel => exact ⟨j + 1, hjl, by go_num, by rw [H1.out], HBK_120.out⟩
                  case measure => simp [intOf]; omega
              · obtain rfl : j = L.length := by omega
                have hnl : ¬ ((L.length : Int) < L.length) := by omega
                rw [List.take_length]
                have hI1 : I64 ((toT fr L k).2 : Int) := ⟨by omega, by omega⟩
                have HS8 := Lib.hid (hs113.step (belowA wr (.cells #[.int .i64 ((toT fr L k).2 : Nat)] 2)))
                have HB8 := Lib.hid (HB6_114.out.trans ((belowA wr (.cells #[.int .i64 ((toT fr L k).2 : Nat)] 2)).mono HB6_114.out.size))
                go_wp2_with (at_builtin; refine wpList_append_accP _ rfl _ _ _ rfl E_ints rfl (AccP.mono HAV_115.out (belowA _ _)) (ip_int1 (C := fun _ => False) hI1) (fun z _ h => h) ⟨wr.heap.size, 0, none⟩ 1 rfl (news1 (cell_at_block (heap_alloc_new _ _))) (by omega) ?_; rw [← HST.out, HSL1.out]; intro a9 c9 w9 hA9 hB9; refine Hid.out ?_)
                refine Lib.hid ?_
                have hz9 := hB9.size
                (try simp at hz9)
                have HB7 := Lib.hid (hB9.below (B := wP.heap.size) (fun z hz => hz.1) (by (try simp) <;> omega))
                have hs9 := HS8.out.stepB HB7.out
                have HB9 := Lib.hid (HB8.out.trans HB7.out)
                have HAV := Lib.hid (AccP.wk hA9.tight (C := fun z => wP.heap.size ≤ z ∧ z < w9.heap.size) (fun z hz => ⟨by
                  rcases hz.1 with h | h | h
                  · exact h.1
                  · exact h.elim
                  · simp at h; omega, hz.2⟩))
                clear hA9 hB9
                clear HB6_114
                clear HAV_115
                clear HBK
                clear k0_0 k0_1 k0_2 k1_0 k1_1 k1_2 e0_ e1_ e2_
                have k0_0 := hs9.cellAt 0 rfl 0 rfl
                have k0_1 := hs9.cellAt 0 rfl 1 rfl
                have k0_2 := hs9.cellAt 0 rfl 2 rfl
                have k1_0 := hs9.cellAt 1 rfl 0 rfl
                have k1_1 := hs9.cellAt 1 rfl 1 rfl
                have k1_2 := hs9.cellAt 1 rfl 2 rfl
                have e0_ := cellL hs9.bel e0
                have e1_ := cellL hs9.bel e1
                have e2_ := cellL hs9.bel e2
                cases hu : usedB L VV with
                | true =>
                  have H2 := Lib.hid (show ((toT fr L (k + 1)).2 : Int) = ((toT fr L k).2 : Int) + 1 by rw [HSU.out, if_pos hu]; omega)
                  clear hu
                  go_wp2_with fail
                  go_roundw
                  case rel => exact ⟨k + 1, a9, c9, hlt, rfl, by rw [H2.out]; try go_num, by rw [← hVV]; go_num, hs9, HB9.out, HAV.out⟩
                  case measure => rw [← hVV]; simp [intOf]; omega
                | false =>
                  have H2 := Lib.hid (show (toT fr L (k + 1)).2 = (toT fr L k).2 by rw [HSU.out, if_neg (by rw [hu]; decide)])
                  clear hu
                  go_wp2_with fail
                  go_roundw
                  case rel => exact ⟨k + 1, a9, c9, hlt, rfl, by rw [H2.out], by rw [← hVV]; go_num, hs9, HB9.out, HAV.out⟩
                  case measure => rw [← hVV]; simp [intOf]; omega
          · obtain rfl : k = n - fr := by omega
            have hnI : ¬ (((fr + (n - fr) : Nat) : Int) < n) := by omega
            have hnf : ((n : Int) - (fr : Int)).toNat = n - fr := by omega
            have HSF := Lib.hid (show simpF ((fr : Int), (n : Int), l) = ((fr : Int), ((toT fr L (n - fr)).2 : Int), movL (atT (toT fr L (n - fr)).1) L) by
              obtain ⟨s1, s2⟩ := HSX.out
              rw [← HLF.out, hnf] at s1 s2
              refine Prod.ext rfl (Prod.ext s2.symm s1.symm))
            have hnn : fr + (n - fr) = n := by omega
            rw [hnn] at hT1 hT2 HT1
            clear HSX HLF
            generalize toT fr L (n - fr) = TT at *
            obtain ⟨tt, tn⟩ := TT
            simp only at hT1 hT2 HT1 HSF HAV
            simp only
            have HTD := Lib.hid HAV.out.rd
            clear HAV
            go_upto_region 23 with fail
            refine wp_region_noPanic (wp_region_tree4 (fun w' => w'.cell? ⟨w.heap.size, 0, none⟩ = some (.int .i64 0) ∧ w'.cell? ⟨w.heap.size, 1, none⟩ = some (.int .i64 0) ∧ w'.cell? ⟨w.heap.size, 2, none⟩ = some (.slice none 0 0) ∧ w'.cell? ⟨gb, 0, none⟩ = some (.int .i64 fr) ∧ w'.cell? ⟨gb, 1, none⟩ = some (.int .i64 n) ∧ w'.cell? ⟨gb, 2, none⟩ = some (.slice a3 L.length c3) ∧ w'.cell? ⟨xb, 0, none⟩ = some (.int .i64 fr) ∧ w'.cell? ⟨xb, 1, none⟩ = some (.int .i64 n) ∧ w'.cell? ⟨xb, 2, none⟩ = some (.slice a l.length c)) (.float 0 (.float 1 (.float 2 (.float 3 (.float 4 (.float 5 (.hard 6 (.float 7 (.last 8 .nil))))))))) (by kernel_rfl) (by kernel_rfl) (by kernel_rfl) rfl ?_ (fun _ _ _ _ _ h => h) ?_)
            · exact ⟨(hst3.out.drew).cellAt 0 rfl 0 rfl, (hst3.out.drew).cellAt 0 rfl 1 rfl, (hst3.out.drew).cellAt 0 rfl 2 rfl, (hst3.out.drew).cellAt 1 rfl 0 rfl, (hst3.out.drew).cellAt 1 rfl 1 rfl, (hst3.out.drew).cellAt 1 rfl 2 rfl, cellL (hst3.out.drew).bel e0, cellL (hst3.out.drew).bel e1, cellL (hst3.out.drew).bel e2⟩
            have hs121 := hst3.out.drew
            have HB6_122 := Lib.hid (HB6.out.trans (((belowD _)).mono HB6.out.size))
            clear HB6
            have HTD_123 := Lib.hid (Rd.mono HTD.out (belowD _))
            clear HTD
            clear k0_0 k0_1 k0_2 k1_0 k1_1 k1_2 e0_ e1_ e2_
            have hz_wd124 : wr.heap.size ≤ (wr.drew).heap.size := by simp
            generalize hgen_wd124 : wr.drew = wd124 at *
            have HG_wd124 := Lib.hid hgen_wd124
            clear hgen_wd124
            (repeat (first | (apply t4_skip rfl (by rfl); try simp only [Act.put, List.setIfInBounds_toArray, List.set_cons_zero, List.set_cons_succ]) | (apply t4_float rfl (by rfl); (· (intro w' hS; go_simp <;> with_reducible rfl)); (try simp only [Act.put, List.setIfInBounds_toArray, List.set_cons_zero, List.set_cons_succ]))))
            refine t4_hard rfl (by rfl) (fun K hK => ?_)
            go_wp2_with (go_at_call 43; refine (l03Moved_c L tt _ _ _ (Rd.mono HRL.out HB6_122.out) HTD_123.out (by omega) HSL.out (fun a ha x hx => by rw [HT1.out]; exact (HVL.out a ha).1 x hx)).mono ?_; rintro e w125 ⟨v9, rfl, hF9, hbw125⟩)
            have hz_w125 : wd124.heap.size ≤ w125.heap.size := by have h9 := hbw125.size; (try simp at h9); omega
            have hs126 := hs121.step hbw125
            have HB6_127 := Lib.hid (HB6_122.out.trans ((hbw125).mono HB6_122.out.size))
            clear HB6_122
            have HTD_128 := Lib.hid (Rd.mono HTD_123.out hbw125)
            clear HTD_123
            obtain ⟨a9, c9, rfl, _⟩ := rd_list hF9.rd
            rw [movL_len] at hF9
            rw [movL_len]
            have HF9 := Lib.hid hF9
            clear hF9
            refine ⟨⟨hs126.cellAt 0 rfl 0 rfl, hs126.cellAt 0 rfl 1 rfl, hs126.cellAt 0 rfl 2 rfl, hs126.cellAt 1 rfl 0 rfl, hs126.cellAt 1 rfl 1 rfl, hs126.cellAt 1 rfl 2 rfl, cellL hs126.bel e0, cellL hs126.bel e1, cellL hs126.bel e2⟩, ?_⟩
            (repeat (first | (apply t4_skip rfl (by rfl); try simp only [Act.put, List.setIfInBounds_toArray, List.set_cons_zero, List.set_cons_succ]) | (apply t4_float rfl (by rfl); (· (intro w' hS; go_simp <;> with_reducible rfl)); (try simp only [Act.put, List.setIfInBounds_toArray, List.set_cons_zero, List.set_cons_succ]))))
            refine t4_last rfl (by rfl) (fun K hK => ?_)
            have k0_0 := hs126.cellAt 0 rfl 0 rfl
            have k0_1 := hs126.cellAt 0 rfl 1 rfl
            have k0_2 := hs126.cellAt 0 rfl 2 rfl
            have k1_0 := hs126.cellAt 1 rfl 0 rfl
            have k1_1 := hs126.cellAt 1 rfl 1 rfl
            have k1_2 := hs126.cellAt 1 rfl 2 rfl
            have e0_ := cellL hs126.bel e0
            have e1_ := cellL hs126.bel e1
            have e2_ := cellL hs126.bel e2
            have g0 := (hs126.freeAt 0 rfl 0)
            have g1 := (hs126.freeAt 0 rfl 1)
            have g2 := (hs126.freeAt 0 rfl 2)
            have hs9 := (((hs126.set (p := []) (by simp <;> omega) 0 (.int .i64 fr)).set (p := []) (by simp <;> omega) 1 (.int .i64 tn)).set (p := []) (by simp <;> omega) 2 (.slice a9 L.length c9))
            have HF := Lib.hid (show Fresh w.heap.size (((w125.setCell ⟨w.heap.size, 0, none⟩ (.int .i64 fr)).setCell ⟨w.heap.size, 1, none⟩ (.int .i64 tn)).setCell ⟨w.heap.size, 2, none⟩ (.slice a9 L.length c9)) [.slice a9 L.length c9] (movL (atT tt) L) from
              (((HF9.out.setCell (a := ⟨w.heap.size, 0, none⟩) (by simp <;> omega) (.int .i64 fr)).setCell (a := ⟨w.heap.size, 1, none⟩) (by simp <;> omega) (.int .i64 tn)).setCell (a := ⟨w.heap.size, 2, none⟩) (by simp <;> omega) (.slice a9 L.length c9)).lower (by omega))
            have HB9 := Lib.hid hs9.bel
            have y0 := hs9.cellAt 0 rfl 0 rfl
            have y1 := hs9.cellAt 0 rfl 1 rfl
            have y2 := hs9.cellAt 0 rfl 2 rfl
            clear hs9 HF9
            go_wp2_with fail
            refine t4_nil (NoPanic.normal ?_)
            go_wp2_with fail
            refine bodyPost_ret (v := .agg #[.int .i64 fr, .int .i64 tn, .slice a9 L.length c9]) (by simp [results, Tryz.results20, go_sem, y0, y1, y2]) rfl (by rw [HSF.out]; exact ⟨_, rfl, HF.out, HB9.out⟩)

end Go.Proofs.YtnefmhhemaenkaaGreat
