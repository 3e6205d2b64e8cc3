/-
  CONTRACT: l07Reduce of the reference.
-/
import Derived.Test.YthceklaoikeokaaGreatDoorRowsS
import Derived.Test.YthceklaoikeokaaGreatDoorRowB
import Derived.Test.YthceklaoikeokaaGreatDoorBase
import Derived.Test.YthceklaoikeokaaGreatDoorRowsB
namespace Go.Proofs.YthceklaoikeokaaGreatDoor
open Go.RowKit Go.Shelf Go.IntWalk
open Rep (Rd Own sz)
set_option linter.unusedSimpArgs false
set_option linter.unusedVariables false

theorem elimS_facts {p : Int} {U : Nat} {l : List Eqn} (hp : p = 2 ∨ p = 3) (he : ∀ e, e ∈ l → eqnOk p U e = true) (k : Nat) (hk : k ≤ U) :
    (elimE (opsS p) (rowsS l.length 0 l) k).1.length = l.length ∧ (elimE (opsS p) (rowsS l.length 0 l) k).2.length ≤ l.length ∧ ∀ r, r ∈ (elimE (opsS p) (rowsS l.length 0 l) k).1 → GoodS p U l.length r := by
  have hg := sys_good (by omega) he
  have hL := (elim_length (opsS p) (rowsS l.length 0 l) k).trans (rowsS_length _ l 0)
  refine ⟨hL, ?_, elim_good (by omega) hg k⟩
  have := (rref_elim hp hg k hk).le; omega
set_option maxRecDepth 100000 in
set_option maxHeartbeats 8000000 in
theorem l07Reduce_c (x : Sys) (sb : Nat) (v0 v1 v2 : Value) (w : World) (hx : Rd w [v0, v1, v2] x) (c0 : w.cell? ⟨sb, 0, none⟩ = some v0) (c1 : w.cell? ⟨sb, 1, none⟩ = some v1) (c2 : w.cell? ⟨sb, 2, none⟩ = some v2) (hok : validS x = true) :
    Calls Tryz.prog 31 #[.pointer (some ⟨sb, 0, none⟩)] w fun e w' => ∃ g c, e = .returned (.tuple #[.slice (some ⟨g, 0, none⟩) x.2.2.length c, .int .i64 (elimS x).2.length]) ∧ Fresh w.heap.size w' [.slice (some ⟨g, 0, none⟩) x.2.2.length c] (elimS x).1 ∧ Below w.heap.size w w' := by
  obtain ⟨p, u, l⟩ := x
  have z := rd_cons rfl hx
  obtain ⟨rfl, _⟩ := rd_i1 z.1
  have z2 := rd_cons rfl z.2
  obtain ⟨rfl, _⟩ := rd_i1 z2.1
  have RL := Lib.hid z2.2
  obtain ⟨a, c, rfl, _⟩ := rd_list RL.out
  clear hx z z2
  obtain ⟨hp, hu, hl, he⟩ := validS_get hok
  obtain ⟨U, rfl⟩ : ∃ U : Nat, u = U := ⟨u.toNat, by omega⟩
  have HE := Lib.hid he
  have HE12 := Lib.hid (fun e (h : e ∈ l) => (show e.1.length ≤ 12 by have := (eqn_good (he e h)).1; omega))
  clear hok he
  have hp0 : 2 ≤ p := by omega
  have hp3 : p ≤ 3 := by omega
  go_enter Tryz.func31, Tryz.ntmps31
  go_wp2_with fail
  refine (l07Rows_c p U l sb _ w RL.out c2 hl HE12.out).mono ?_
  rintro e w1 ⟨g4, c4, rfl, fr, hb1⟩
  have KF := Lib.hid (fun k (hk : k ≤ U) => elimS_facts hp HE.out k hk)
  have IP0 := Lib.hid (Ip.of_iv fr.iv)
  have HB1 := Lib.hid hb1
  have c0' := cellL hb1 c0
  have c1' := cellL hb1 c1
  clear fr hb1
  go_wp2_with fail
  go_loopw [5, 6] (fun i5 i6 wl => ∃ k : Nat, k ≤ U ∧ i6 = .int .i64 k ∧ i5 = .int .i64 (elimE (opsS p) (rowsS l.length 0 l) k).2.length ∧ Hid (Below w.heap.size w wl) ∧ Hid (Ip (fun z => w.heap.size ≤ z ∧ z < wl.heap.size) wl [.slice (some ⟨g4, 0, none⟩) l.length c4] (elimE (opsS p) (rowsS l.length 0 l) k).1)) (fun _ i6 _ => U - (intOf i6).toNat)
  case atStart => exact ⟨0, Nat.zero_le _, rfl, rfl, HB1.out, IP0.out⟩
  case round =>
    obtain ⟨k, hk, rfl, rfl, hbl, hip⟩ := hrel
    obtain ⟨wB, hwB⟩ : ∃ x, x = wr := ⟨_, rfl⟩
    subst hwB
    have d0 := cellL hbl.out c0
    have d1 := cellL hbl.out c1
    by_cases hlt : k < U
    · obtain ⟨fL, fB, fG⟩ := KF.out k hk
      have hnext := Lib.hid (show elimE (opsS p) (rowsS l.length 0 l) (k + 1) = stepE (opsS p) k (elimE (opsS p) (rowsS l.length 0 l) k) from rfl)
      generalize elimE (opsS p) (rowsS l.length 0 l) k = ST at *
      obtain ⟨R, bs⟩ := ST
      have hip := Lib.hid (show Ip (fun z => w.heap.size ≤ z ∧ z < wB.heap.size) wB [.slice (some ⟨g4, 0, none⟩) l.length c4] R from hip.out)
      simp only at fL fB fG
      have FL := Lib.hid fL
      have FG := Lib.hid fG
      clear fL fG
      go_wp2_with fail
      go_loopw [7] (fun i7 w3 => ∃ q : Nat, bs.length ≤ q ∧ q ≤ l.length ∧ i7 = .int .i64 q ∧ w3 = wB ∧ Hid (∀ j (hj : j < R.length), bs.length ≤ j → j < q → R[j].1.getD k 0 = 0)) (fun i7 _ => l.length - (intOf i7).toNat)
      case atStart => exact ⟨bs.length, Nat.le_refl _, fB, rfl, rfl, fun j hj h1 h2 => by omega⟩
      case round =>
        obtain ⟨q, hq0, hq1, rfl, rfl, hqz⟩ := hrel
        by_cases hlq : q < l.length
        · have hqR : q < R.length := by rw [FL.out]; exact hlq
          obtain ⟨b, o, y0, y1, y2, e4, m0, m1, m2, hr⟩ := rd_three_at rfl hip.out.rd q hqR
          simp only [Option.some.injEq, Addr.mk.injEq, and_true] at e4
          obtain ⟨rfl, rfl⟩ := e4
          rw [Nat.zero_add] at m0 m1 m2
          have zr := rd_cons rfl hr
          obtain ⟨a5, c5, e5, _⟩ := rd_list zr.1
          have gq := FG.out R[q] (List.getElem_mem hqR)
          rw [gq.len] at e5
          subst e5
          have zr2 := rd_cons rfl zr.2
          obtain ⟨rfl, _⟩ := rd_i1 zr2.1
          obtain ⟨a6, c6, e6, _⟩ := rd_list zr2.2
          rw [gq.by_] at e6
          subst e6
          clear zr2
          generalize hqn : R[q].2.1 = qn at *
          clear hqn
          obtain ⟨b5, o5, rfl, nk, _⟩ := rd_int_at zr.1 k (by rw [gq.len]; exact hlt)
          have eN := Lib.hid (show R[q].1.getD k 0 = R[q].1[k]'(by rw [gq.len]; exact hlt) by simp [List.getD, show k < R[q].1.length by rw [gq.len]; exact hlt])
          generalize R[q].1[k]'(by rw [gq.len]; exact hlt) = N at *
          clear zr hr gq
          have hqi : (q : Int) < l.length := by omega
          have hkU : (k : Int) < U := by omega
          have hqe : ((q : Int) == (l.length : Int)) = false := by simp; omega
          by_cases hN : N = 0
          · have HN := Lib.hid hN
            have hN2 : (N == 0) = true := by simpa using hN
            clear hN
            go_wp2_with fail
            go_roundw
            case rel =>
              refine ⟨q + 1, by omega, by omega, by go_num, trivial, ?_⟩
              intro j hj h1 h2
              rcases Nat.lt_or_ge j q with h | h
              · exact hqz.out j hj h1 h
              · obtain rfl : j = q := by omega
                rw [eN.out]; exact HN.out
            case measure => simp [intOf]; omega
          · have HN := Lib.hid hN
            have hN2 : (N == 0) = false := by simpa using hN
            clear hN
            have hdR : bs.length < R.length := by rw [FL.out]; omega
            obtain ⟨bd, od, t0, t1, t2, e9, n0, n1, n2, hrd⟩ := rd_three_at rfl hip.out.rd bs.length hdR
            simp only [Option.some.injEq, Addr.mk.injEq, and_true] at e9
            obtain ⟨rfl, rfl⟩ := e9
            rw [Nat.zero_add] at n0 n1 n2
            have gd := FG.out R[bs.length] (List.getElem_mem hdR)
            have gq := FG.out R[q] (List.getElem_mem hqR)
            have zd := rd_cons rfl hrd
            have zd2 := rd_cons rfl zd.2
            obtain ⟨d0a, d0c, ed, _⟩ := rd_list zd.1
            obtain ⟨rfl, _⟩ := rd_i1 zd2.1
            obtain ⟨d2a, d2c, ed2, _⟩ := rd_list zd2.2
            rw [gd.len] at ed
            rw [gd.by_] at ed2
            subst ed ed2
            generalize hdn : R[bs.length].2.1 = dn at *
            clear hdn gd gq zd zd2 hrd
            obtain ⟨gz, oz, cz, cur, ez, ez1, _, _, hblk, hgA, _⟩ := ip_form hip.out (by rw [FL.out]; omega)
            simp only [Value.slice.injEq, Option.some.injEq, Addr.mk.injEq, and_true] at ez1
            obtain ⟨⟨rfl, rfl⟩, -, rfl⟩ := ez1
            have fz : ∀ z, wr.frozen? ⟨g4, z, none⟩ = false := fun z => free_at_block hblk
            clear hblk
            have z0 := fz (bs.length * 3)
            have z1 := fz (bs.length * 3 + 1)
            have z2 := fz (bs.length * 3 + 2)
            have z3 := fz (q * 3)
            have z4 := fz (q * 3 + 1)
            have z5 := fz (q * 3 + 2)
            have hdi : (bs.length : Int) < l.length := by omega
            have hIP := Lib.hid (ip_swap3 rfl hip.out (opsS p).dflt bs.length q hdR hqR n0 n1 n2 m0 m1 m2)
            go_upto_region 12 with fail
            go_cut [8] from 12 to 113 (fun x8 wx => Hid (But [g4] wr wx) ∧ Hid (Ip (fun z => w.heap.size ≤ z ∧ z < wr.heap.size) wx [.slice (some ⟨g4, 0, none⟩) l.length c4] (swapL (opsS p).dflt R bs.length q)))
            case first =>
              rcases Nat.eq_or_lt_of_le hq0 with hq | hq
              · have e0 := n0.symm.trans (hq ▸ m0)
                have e1 := n1.symm.trans (hq ▸ m1)
                have e2 := n2.symm.trans (hq ▸ m2)
                simp only [Option.some.injEq, Value.slice.injEq, Value.int.injEq, true_and] at e0 e1 e2
                obtain ⟨rfl, rfl⟩ := e0
                subst e1
                obtain ⟨rfl, rfl⟩ := e2
                clear m0 m1 m2 z3 z4 z5
                subst hq
                clear hqi hqe
                go_wp2_with fail
                go_meet
                case rel =>
                  have h1 := (OnlyAt.refl [g4] wr).setCell (p := ⟨g4, bs.length * 3, none⟩) (by simp) (.slice (some ⟨b5, o5, none⟩) U d0c)
                  have h2 := h1.setCell (p := ⟨g4, bs.length * 3 + 1, none⟩) (by simp) (.int .i64 dn)
                  have h3 := h2.setCell (p := ⟨g4, bs.length * 3 + 2, none⟩) (by simp) (.slice d2a l.length d2c)
                  have h4 := h3.setCell (p := ⟨g4, bs.length * 3, none⟩) (by simp) (.slice (some ⟨b5, o5, none⟩) U d0c)
                  have h5 := h4.setCell (p := ⟨g4, bs.length * 3 + 1, none⟩) (by simp) (.int .i64 dn)
                  have h6 := h5.setCell (p := ⟨g4, bs.length * 3 + 2, none⟩) (by simp) (.slice d2a l.length d2c)
                  clear h1 h2 h3 h4 h5
                  exact ⟨h6.but.trans (but_of (belowA _ _)), hIP.out.mono (belowA _ _)⟩
              · have hq2 : ¬ q = bs.length := by omega
                have hq3 : ¬ bs.length = q := by omega
                go_wp2_with fail
                go_meet
                case rel =>
                  have ho := ((((((OnlyAt.refl [g4] wr).setCell (p := ⟨g4, bs.length * 3, none⟩) (by simp) (.slice (some ⟨b5, o5, none⟩) U c5)).setCell (p := ⟨g4, bs.length * 3 + 1, none⟩) (by simp) (.int .i64 qn)).setCell (p := ⟨g4, bs.length * 3 + 2, none⟩) (by simp) (.slice a6 l.length c6)).setCell (p := ⟨g4, q * 3, none⟩) (by simp) (.slice d0a U d0c)).setCell (p := ⟨g4, q * 3 + 1, none⟩) (by simp) (.int .i64 dn)).setCell (p := ⟨g4, q * 3 + 2, none⟩) (by simp) (.slice d2a l.length d2c)
                  exact ⟨ho.but.trans (but_of (belowA _ _)), hIP.out.mono (belowA _ _)⟩
            case rest =>
              obtain ⟨hbx, hipx⟩ := hcut
              have hz1 : wr.heap.size ≤ wc.heap.size := hbx.out.size
              have hblx := Lib.hid (hbl.out.trans (hbx.out.below (B := w.heap.size) (fun z hz => by obtain rfl : z = g4 := (by simpa using hz); exact hgA.1) (by omega)))
              have hXq := swap_at (opsS p).dflt R bs.length q hdR hqR
              have hG1 := allG_swap (show AllG p U l.length R from FG.out) (opsS p).dflt bs.length q hdR hqR
              have hL1 : (swapL (opsS p).dflt R bs.length q).length = l.length := by rw [swapL_length]; exact FL.out
              have hpiv := step_found (opsS p) k R bs q hq0 hqR hqz.out (by show R[q].1.getD k 0 ≠ 0; rw [eN.out]; exact HN.out)
              rw [show (opsS p).get R[q] k = N from eN.out, show (opsS p).scale R[q] N = scaleS p N R[q] from rfl, FL.out, ← hnext.out] at hpiv
              have hRq : R.getD q (opsS p).dflt = R[q] := by simp [List.getD, hqR]
              rw [hRq] at hXq
              have hgY := FG.out R[q] (List.getElem_mem hqR)
              have hipx := Lib.hid (hipx.out.wk (B := fun z => w.heap.size ≤ z ∧ z < wc.heap.size) (fun z h => ⟨h.1, by omega⟩))
              clear hIP hnext z0 z1 z2 z3 z4 z5 fz n0 n1 n2 m0 m1 m2 nk d0 d1 hbx hqi hqe hRq hqz hdi
              generalize swapL (opsS p).dflt R bs.length q = R1 at *
              generalize R[q] = Y at *
              have hd1 : bs.length < R1.length := by rw [hL1]; rw [FL.out] at hdR; exact hdR
              have eY : R1[bs.length] = Y := by rw [← hXq]; simp [List.getD, hd1]
              have HPIV := Lib.hid hpiv
              have HG1 := Lib.hid hG1
              have HL1 := Lib.hid hL1
              have HY := Lib.hid hgY
              have hipd := Lib.hid (hipx.out.mono (belowD wc))
              obtain ⟨cur1, et, p0, p2, v0, v2, hrow, hpA, hgA1, hput⟩ := ip_row hipd.out bs.length hd1
              rw [eY] at hrow
              obtain ⟨av, cv, ev, _⟩ := rd_list (Rep.own_rd (α := List Int) (ps := p0) (vs := [v0]) ⟨v0, rfl, hrow.own0⟩)
              rw [HY.out.len] at ev
              subst ev
              obtain ⟨bv, ov, rfl, nk, _⟩ := rd_int_at (Rep.own_rd (α := List Int) (ps := p0) (vs := [_]) ⟨_, rfl, hrow.own0⟩) k (by rw [HY.out.len]; exact hlt)
              have eN2 : Y.1[k]'(by rw [HY.out.len]; exact hlt) = N := by
                have := eN.out
                simpa [List.getD, show k < Y.1.length by rw [HY.out.len]; exact hlt] using this
              rw [eN2] at nk
              have gN : 0 ≤ N ∧ N < p := by rw [← eN2]; exact HY.out.res.get k _
              have HROW := Lib.hid hrow
              have HPUT := Lib.hid hput
              have HPA := Lib.hid hpA
              have e0 : wc.drew.cell? ⟨sb, 0, none⟩ = some (.int .i64 p) := show wc.cell? _ = _ from cellL hblx.out c0
              have j0 : wc.drew.cell? ⟨g4, bs.length * 3, none⟩ = some (.slice (some ⟨bv, ov, none⟩) U cv) := by rw [cell_at_block HROW.out.blk]; exact HROW.out.c0
              clear hpiv hG1 hL1 hgY hipd hrow hput hpA eY hXq eN2 eN HN hN2
              have hkU : (k : Int) < U := by omega
              have hdi : (bs.length : Int) < l.length := by omega
              go_wp2_with fail
              refine wp_region_noPanic (wp_region_eb (fun w' => w'.cell? ⟨g4, bs.length * 3, none⟩ = some (.slice (some ⟨bv, ov, none⟩) U cv) ∧ w'.cell? ⟨bv, ov + k, none⟩ = some (.int .i64 N) ∧ w'.cell? ⟨sb, 0, none⟩ = some (.int .i64 p)) [0, 1, 2, 3, 4, 5, 6, 8, 11] [(7, 0), (9, 0), (10, 0), (12, 0), (13, 0), (14, 0), (15, 2)] (by kernel_rfl) (by kernel_rfl) (by kernel_rfl) rfl (fun _ _ _ _ _ h => h) ?_)
              (repeat (apply ep_pure rfl (by rfl); (· (intro w'; go_simp <;> with_reducible rfl)); (try simp only [Act.put, List.setIfInBounds_toArray, List.set_cons_zero, List.set_cons_succ])))
              refine ep_nil ?_ ?_
              · exact ⟨j0, nk, e0⟩
              (repeat (first | (apply eb_skip rfl (by rfl); try simp only [Act.put, List.setIfInBounds_toArray, List.set_cons_zero, List.set_cons_succ]) | (apply eb_float rfl (by rfl); (· (intro w' hS; go_simp <;> with_reducible rfl)); (try simp only [Act.put, List.setIfInBounds_toArray, List.set_cons_zero, List.set_cons_succ]))))
              refine eb_last rfl (by rfl) (fun K hK => ?_)
              go_wp2_with (go_at_call 34; refine (scale_c p N Y g4 (bs.length * 3) cur1 et p0 p2 _ _ _ HROW.out hp0 hp3 (by omega) (by omega) HY.out.res HY.out.right HY.out.resBy).mono ?_; rintro e wS ⟨rfl, hrS, hoS⟩)
              refine ⟨fun _ => True, trivial, ?_⟩
              (repeat (first | (apply eb_skip rfl (by rfl); try simp only [Act.put, List.setIfInBounds_toArray, List.set_cons_zero, List.set_cons_succ]) | (apply eb_float rfl (by rfl); (· (intro w' hS; go_simp <;> with_reducible rfl)); (try simp only [Act.put, List.setIfInBounds_toArray, List.set_cons_zero, List.set_cons_succ]))))
              refine eb_nil (NoPanic.normal ?_)
              have hX : GoodS p U l.length (scaleS p N Y) := goodS_scale (by omega) _ HY.out
              have ip5 := Lib.hid (HPUT.out wS _ _ hrS rfl ⟨by have := hX.right; omega, by have := hX.right; omega⟩ hoS)
              have hzS : wS.heap.size = wc.heap.size := hoS.size
              have hblS := Lib.hid (hblx.out.trans ((belowD wc).mono (by omega : w.heap.size ≤ wc.heap.size) |>.trans (hoS.below (B := w.heap.size) (fun z hz => by
                rcases List.mem_cons.1 hz with rfl | hz
                · exact hgA.1
                · exact (HPA.out z hz).1))))
              have HX := Lib.hid hX
              clear hrS hoS HPUT HROW HPA nk e0 j0 hX hgA1
              have HM0 := Lib.hid (allG_set HG1.out bs.length HX.out)
              have HL0 := Lib.hid (show (R1.set bs.length (scaleS p N Y)).length = l.length by rw [List.length_set]; exact HL1.out)
              have hXd : (R1.set bs.length (scaleS p N Y))[bs.length]? = some (scaleS p N Y) := by rw [List.getElem?_set_self hd1]
              have HXd := Lib.hid hXd
              have hd0 : bs.length < (R1.set bs.length (scaleS p N Y)).length := by rw [List.length_set]; exact hd1
              clear hXd HG1 HL1 hipx hblx hbl
              generalize R1.set bs.length (scaleS p N Y) = M0 at *
              generalize scaleS p N Y = X at *
              go_wp2_with fail
              go_loopw [9] (fun i9 w3 => ∃ j : Nat, j ≤ l.length ∧ i9 = .int .i64 j ∧ Hid (Below w.heap.size w w3) ∧ Hid (Ip (fun z => w.heap.size ≤ z ∧ z < w3.heap.size) w3 [.slice (some ⟨g4, 0, none⟩) l.length c4] (mapTo (elimRow (opsS p) k bs.length X) M0 j))) (fun i9 _ => l.length - (intOf i9).toNat)
              case atStart =>
                refine ⟨0, Nat.zero_le _, rfl, hblS.out, ?_⟩
                rw [mapTo_zero]
                exact ip5.out.wk (fun z h => ⟨h.1, by rw [hzS]; exact h.2⟩)
              case round =>
                obtain ⟨j, hj, rfl, hb3, hip⟩ := hrel
                have e0 := cellL hb3.out c0
                by_cases hlt3 : j < l.length
                · have hj0 : j < M0.length := by rw [HL0.out]; exact hlt3
                  have hjl : (j : Int) < l.length := by omega
                  by_cases hjd : j = bs.length
                  · have hje : ((j : Int) != (bs.length : Int)) = false := by simp; omega
                    have hskip := Lib.hid (mapTo_skip (elimRow (opsS p) k bs.length X) M0 j hj0 (by unfold elimRow; rw [if_pos hjd]))
                    go_wp2_with fail
                    go_roundw
                    case rel => exact ⟨j + 1, hlt3, by go_num, hb3.out, by rw [hskip.out]; exact hip.out⟩
                    case measure => simp [intOf]; omega
                  · have hje : ((j : Int) != (bs.length : Int)) = true := by simp; omega
                    have hjM : j < (mapTo (elimRow (opsS p) k bs.length X) M0 j).length := by rw [mapTo_length]; exact hj0
                    have hdM : bs.length < (mapTo (elimRow (opsS p) k bs.length X) M0 j).length := by rw [mapTo_length]; exact hd0
                    obtain ⟨cur1, et, p0, p2, v0, v2, u0, u2, hrow, hpA, hgA1, hoth, hput⟩ := ip_row2 hip.out j hjM bs.length hdM (Ne.symm hjd)
                    rw [mapTo_get _ _ _ hj0] at hrow
                    have hXd2 : M0[bs.length]'hd0 = X := by have := HXd.out; rw [List.getElem?_eq_getElem hd0] at this; simpa using this
                    rw [mapTo_fix _ _ _ _ hd0 (by unfold elimRow; rw [if_pos rfl]), hXd2] at hoth
                    clear hXd2
                    have hZ := HM0.out M0[j] (List.getElem_mem hj0)
                    have hsucc := mapTo_succ (elimRow (opsS p) k bs.length X) M0 j hj0
                    have hskip := mapTo_skip (elimRow (opsS p) k bs.length X) M0 j hj0
                    generalize M0[j] = Z at *
                    obtain ⟨av, cv, ev, _⟩ := rd_list (Rep.own_rd (α := List Int) (ps := p0) (vs := [v0]) ⟨v0, rfl, hrow.own0⟩)
                    rw [hZ.len] at ev
                    subst ev
                    obtain ⟨bv, ov, rfl, nk, _⟩ := rd_int_at (Rep.own_rd (α := List Int) (ps := p0) (vs := [_]) ⟨_, rfl, hrow.own0⟩) k (by rw [hZ.len]; exact hlt)
                    have eN2 : (opsS p).get Z k = Z.1[k]'(by rw [hZ.len]; exact hlt) := by
                      show Z.1.getD k 0 = _
                      simp [List.getD, show k < Z.1.length by rw [hZ.len]; exact hlt]
                    have gN2 := hZ.res.get k (by rw [hZ.len]; exact hlt)
                    have hE : elimRow (opsS p) k bs.length X j Z = if (opsS p).get Z k = 0 then Z else lessS p ((opsS p).get Z k) Z X := by unfold elimRow; rw [if_neg hjd]; rfl
                    rw [eN2] at hE
                    rw [hE] at hsucc hskip
                    clear hE eN2
                    generalize Z.1[k]'(by rw [hZ.len]; exact hlt) = N2 at *
                    have j0 : wr.cell? ⟨g4, j * 3, none⟩ = some (.slice (some ⟨bv, ov, none⟩) U cv) := by rw [cell_at_block hrow.blk]; exact hrow.c0
                    have HZ := Lib.hid hZ
                    have HROW := Lib.hid hrow
                    have HPUT := Lib.hid hput
                    have HPA := Lib.hid hpA
                    have HOTH := Lib.hid hoth
                    clear hrow hput hpA hoth hZ
                    by_cases hN2 : N2 = 0
                    · have hN3 : (N2 != 0) = false := by simpa using hN2
                      rw [if_pos hN2] at hskip
                      have HSK := Lib.hid (hskip rfl)
                      clear hsucc hskip hN2
                      go_wp2_with fail
                      go_roundw
                      case rel => exact ⟨j + 1, hlt3, by go_num, hb3.out, by rw [HSK.out]; exact hip.out⟩
                      case measure => simp [intOf]; omega
                    · have hN3 : (N2 != 0) = true := by simpa using hN2
                      rw [if_neg hN2] at hsucc
                      have HSU := Lib.hid hsucc
                      have j1 : wr.drew.cell? ⟨g4, j * 3, none⟩ = some (.slice (some ⟨bv, ov, none⟩) U cv) := j0
                      have nk1 : wr.drew.cell? ⟨bv, ov + k, none⟩ = some (.int .i64 N2) := nk
                      have e1 : wr.drew.cell? ⟨sb, 0, none⟩ = some (.int .i64 p) := e0
                      have HROW' := Lib.hid (HROW.out.same (w' := wr.drew) rfl)
                      have HOTH' := Lib.hid (show ∀ (w' : World) (x : Int), OnlyAt (g4 :: (p0 ++ p2)) wr.drew w' → w'.heap[g4]? = some (.cells (cur1.setIfInBounds (j * 3 + 1) (.int .i64 x)) et (0, 0)) → OthIn w' g4 (bs.length * 3) u0 u2 X from fun w' x h1 h2 => HOTH.out w' x ⟨h1.os, h1.tape, h1.output, h1.size, h1.block⟩ h2)
                      clear hsucc hskip hN2
                      go_wp2_with fail
                      refine wp_region_noPanic (wp_region_eb (fun w' => w'.cell? ⟨g4, j * 3, none⟩ = some (.slice (some ⟨bv, ov, none⟩) U cv) ∧ w'.cell? ⟨bv, ov + k, none⟩ = some (.int .i64 N2) ∧ w'.cell? ⟨sb, 0, none⟩ = some (.int .i64 p)) [0, 1, 2, 3, 4, 5, 6, 7, 8, 9, 11, 14] [(10, 0), (12, 0), (13, 0), (15, 0), (16, 0), (17, 0), (18, 2)] (by kernel_rfl) (by kernel_rfl) (by kernel_rfl) rfl (fun _ _ _ _ _ h => h) ?_)
                      (repeat (apply ep_pure rfl (by rfl); (· (intro w'; go_simp <;> with_reducible rfl)); (try simp only [Act.put, List.setIfInBounds_toArray, List.set_cons_zero, List.set_cons_succ])))
                      refine ep_nil ?_ ?_
                      · exact ⟨j1, nk1, e1⟩
                      (repeat (first | (apply eb_skip rfl (by rfl); try simp only [Act.put, List.setIfInBounds_toArray, List.set_cons_zero, List.set_cons_succ]) | (apply eb_float rfl (by rfl); (· (intro w' hS; go_simp <;> with_reducible rfl)); (try simp only [Act.put, List.setIfInBounds_toArray, List.set_cons_zero, List.set_cons_succ]))))
                      refine eb_last rfl (by rfl) (fun K hK => ?_)
                      go_wp2_with (go_at_call 69; refine (less_c p N2 Z X g4 (j * 3) g4 (bs.length * 3) cur1 et p0 p2 _ _ u0 u2 _ HROW'.out HOTH'.out hp0 hp3 (by omega) (by omega) HZ.out.res HZ.out.right HZ.out.resBy HX.out.res HX.out.right HX.out.resBy (by rw [HZ.out.len, HX.out.len]) (by rw [HZ.out.by_, HX.out.by_])).mono ?_; rintro e wS ⟨rfl, hrS, hoS⟩)
                      refine ⟨fun _ => True, trivial, ?_⟩
                      (repeat (first | (apply eb_skip rfl (by rfl); try simp only [Act.put, List.setIfInBounds_toArray, List.set_cons_zero, List.set_cons_succ]) | (apply eb_float rfl (by rfl); (· (intro w' hS; go_simp <;> with_reducible rfl)); (try simp only [Act.put, List.setIfInBounds_toArray, List.set_cons_zero, List.set_cons_succ]))))
                      refine eb_nil (NoPanic.normal ?_)
                      have hL := Lib.hid (goodS_less (by omega) N2 HZ.out HX.out)
                      have ip6 := Lib.hid (HPUT.out wS _ _ hrS rfl ⟨by have := hL.out.right; omega, by have := hL.out.right; omega⟩ ⟨hoS.os, hoS.tape, hoS.output, hoS.size, hoS.block⟩)
                      have hz6 : wS.heap.size = wr.heap.size := hoS.size
                      have hbl6 := Lib.hid (hb3.out.trans (((belowD wr).mono (by have := hb3.out.size; exact this : w.heap.size ≤ wr.heap.size)).trans (hoS.below (B := w.heap.size) (fun z hz => by
                        rcases List.mem_cons.1 hz with rfl | hz
                        · exact hgA1.1
                        · exact (HPA.out z hz).1))))
                      clear hrS hoS HPUT HROW HROW' HOTH HOTH' HPA nk nk1 e1 j1 j0 e0
                      go_wp2_with fail
                      go_roundw
                      case rel =>
                        refine ⟨j + 1, hlt3, by go_num, hbl6.out, ?_⟩
                        rw [← HSU.out]
                        exact ip6.out.wk (fun z h => ⟨h.1, by rw [hz6]; exact h.2⟩)
                      case measure => simp [intOf]; omega
                · obtain rfl : j = l.length := by omega
                  go_wp2_with fail
                  go_roundw
                  case rel =>
                    refine ⟨k + 1, hlt, by go_num, ?_⟩
                    rw [HPIV.out]
                    exact ⟨by simp only [List.length_append, List.length_cons, List.length_nil]; go_num, hb3.out, hip.out⟩
                  case measure => simp [intOf]; omega
        · obtain rfl : q = l.length := by omega
          have hnone : (R.drop bs.length).findIdx? (fun r => (opsS p).get r k != 0) = none := by
            rw [List.findIdx?_eq_none_iff]
            intro r hr
            obtain ⟨j, hj, rfl⟩ := List.getElem_of_mem hr
            simp only [List.getElem_drop, bne_eq_false_iff_eq]
            simp only [List.length_drop] at hj
            exact hqz.out (bs.length + j) (by omega) (by omega) (by rw [← FL.out]; omega)
          have hsame := Lib.hid (show elimE (opsS p) (rowsS l.length 0 l) (k + 1) = (R, bs) by
            rw [hnext.out]; unfold stepE; show (match (R.drop bs.length).findIdx? (fun r => (opsS p).get r k != 0) with | none => _ | some i => _) = _; rw [hnone])
          clear hnone
          go_wp2_with fail
          go_roundw
          case rel =>
            refine ⟨k + 1, hlt, by go_num, ?_⟩
            rw [hsame.out]
            exact ⟨rfl, hbl.out, hip.out⟩
          case measure => simp [intOf]; omega
    · obtain rfl : k = U := by omega
      go_wp2_with fail
      refine bodyPost_ret (v := .tuple #[.slice (some ⟨g4, 0, none⟩) l.length c4, .int .i64 (elimE (opsS p) (rowsS l.length 0 l) k).2.length]) (by simp [results, Tryz.results31, go_sem]) rfl ⟨_, _, rfl, ?_, hbl.out⟩
      have h := hip.out
      obtain ⟨ps, h1, h2, h3⟩ := h
      exact ⟨ps, by unfold elimS; simp only [Int.toNat_natCast]; exact h1, h2, fun z hz => (h3 z hz).1⟩

end Go.Proofs.YthceklaoikeokaaGreatDoor
