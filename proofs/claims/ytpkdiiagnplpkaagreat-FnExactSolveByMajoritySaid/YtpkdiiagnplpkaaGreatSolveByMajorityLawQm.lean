import Derived.Test.YtpkdiiagnplpkaaGreatKindsQm
import Derived.Test.YtpkdiiagnplpkaaGreatMarkTQm
import Derived.Test.YtpkdiiagnplpkaaGreatMarkOQm
import Derived.Test.YtpkdiiagnplpkaaGreatMarkSQm
import Derived.Test.YtpkdiiagnplpkaaGreatMajTQm
set_option linter.unusedSimpArgs false
set_option linter.unusedVariables false
set_option maxHeartbeats 8000000
set_option maxRecDepth 100000
namespace Go.Proofs.YtpkdiiagnplpkaaGreat
open Go.RowKit Go.Shelf
open Rep (Rd Own sz)
theorem greedyTo_lenM {size v : Nat} {ps : List RelT} : ∀ k l, greedyTo size v ps k = some l → l.length = k
 | 0, l, h => by simp only [greedyTo, Option.some.injEq] at h; subst h; rfl
 | k + 1, l, h => by
  rw [greedyTo] at h
  cases hg : greedyTo size v ps k with
  | none => rw [hg] at h; simp at h
  | some vs =>
   rw [hg] at h
   simp only at h
   split at h
   · cases h
   · simp only [Option.some.injEq] at h
     subst h
     simp [greedyTo_lenM k vs hg]
theorem majF_small (t : Tmpl) (x : Inst) (f : OpT) : mc_Verdict (majF t x f).1 ≤ 1000000 := by
 have key : ∀ (k : Int) (a : List Int) (b c : List (Int × Int × Int)), a.length ≤ 1000 → b.length ≤ 1000 → c.length ≤ 1000 → mc_Verdict (k, a, b, c, []) ≤ 1000000 := fun k a b c ha hb hc => by
  have h2 := mcb_ArcStepS b
  have h3 := mcb_PairStepS c
  unfold cost_ArcStepS at h2
  unfold cost_PairStepS at h3
  show mc_Int64S a + mc_ArcStepS b + mc_PairStepS c + mc_Int64S [] ≤ _
  unfold mc_Int64S
  simp only [List.length_nil]
  omega
 have z : ([] : List Int).length ≤ 1000 := by simp
 have z3 : ([] : List (Int × Int × Int)).length ≤ 1000 := by simp
 unfold majF
 by_cases h0 : wayF (majB t.1 f) t x f = 0
 · rw [if_pos h0]
   have h1 := (wayF_0 h0).1
   have h2 := (instOk_get h1).2.1
   have h3 := (tmplOk_get (instOk_get h1).1).1
   have hd := fullD_ok (sn := t.1.toNat) (V := x.1.toNat) h1 (by omega) (by omega)
   have ha := arcsF_ok hd
   have hf := (dom_facts hd).forty
   have hp := ha.pot
   have hq := (pairsF_ok t x).pot
   have h4 := cap_le h1
   split
   · unfold majA
     split
     · exact key 1 [] _ [] z (by omega) z3
     · exact key 0 [_] [] [] (by simp) z3 z3
   · unfold majP
     split
     · exact key 2 [] [] _ z z3 (by omega)
     · split
       · refine key 0 _ [] [] ?_ z3 z3
         unfold greedyF
         split
         · rename_i l hl
           have := greedyTo_lenM _ _ hl
           simp only
           omega
         · simp
       · exact key 0 [] [] [] z z3 z3
 · rw [if_neg h0]
   exact key 0 [] [] [] z z3 z3
structure Cut (P : Prop) : Prop where
 get : P
theorem mp_cut {G P : Prop} (h1 : Cut P → G) (h2 : P) : G := h1 ⟨h2⟩
theorem own_setOut {α : Type} [Rep α] {ps : List Nat} {w : World} {vs : List Value} {x : α} (h : Own ps w vs x) {b o : Nat} (hb : b ∉ ps) (u : Value) : Own ps (w.setCell ⟨b, o, none⟩ u) vs x := Rep.own_frame (fun k hk => Below.heap_setCell _ _ _ _ (fun e => hb (by simp only at e; rw [← e]; exact hk))) h
theorem FnExactSolveByMajority_c (x0 : Tmpl) (v00 v01 : Value) (x1 : Inst) (v10 v11 : Value) (x2 : OpT) (v20 v21 : Value) (w : World) (h0 : Rd w [v00, v01] x0) (h1 : Rd w [v10, v11] x1) (h2 : Rd w [v20, v21] x2) :
 Calls Tryz.prog 3 #[.agg #[v00, v01], .agg #[v10, v11], .agg #[v20, v21]] w fun e w' => e = .returned (.bool true) ∧ Below w.heap.size w w' := by
 have hsm : mc_Verdict (majF x0 x1 x2).1 ≤ 1000000 := majF_small x0 x1 x2
 have cS := fun a00 a01 a10 a11 a20 a21 W h0 h1 h2 => sSolveByMajority_c x0 a00 a01 x1 a10 a11 x2 a20 a21 W h0 h1 h2
 have cI := fun a00 a01 a10 a11 a20 a21 W h0 h1 h2 => SolveByMajority_c x0 a00 a01 x1 a10 a11 x2 a20 a21 W h0 h1 h2
 generalize majF x0 x1 x2 = R at cS cI hsm
 obtain ⟨⟨r0, r1, r2, r3, r4⟩, code⟩ := R
 have CS := qH cS
 have CI := qH cI
 clear cS cI
 obtain ⟨x00, x01⟩ := x0
 have z00 := rd_cons rfl h0
 obtain ⟨rfl, _⟩ := rd_i1 z00.1
 obtain ⟨a01, c01, rfl, _⟩ := rd_list z00.2
 clear z00
 have H0 := qH h0
 clear h0
 obtain ⟨x10, x11⟩ := x1
 have z10 := rd_cons rfl h1
 obtain ⟨rfl, _⟩ := rd_i1 z10.1
 obtain ⟨a11, c11, rfl, _⟩ := rd_list z10.2
 clear z10
 have H1 := qH h1
 clear h1
 obtain ⟨x20, x21⟩ := x2
 have z20 := rd_cons rfl h2
 obtain ⟨rfl, _⟩ := rd_i1 z20.1
 obtain ⟨a21, c21, rfl, _⟩ := rd_list z20.2
 clear z20
 have H2 := qH h2
 clear h2
 have hs := (((St.start w).alloc #[.int .i64 x00, .slice a01 x01.length c01] 24 rfl).alloc #[.int .i64 x10, .slice a11 x11.length c11] 27 (n := w.heap.size + 1) (by simp)).alloc #[.int .i64 x20, .slice a21 x21.length c21] 30 (n := w.heap.size + 1 + 1) (by simp)
 go_enter Tryz.func3, Tryz.ntmps3
 go_wp2_with fail
 refine (szTemplate_b (x00, x01) _ _ (1048576) _ (Rd.mono H0.out hs.bel) (by omega) (by omega)).mono ?_
 rintro e w1 ⟨rfl, hb1⟩
 have hss := hs.step hb1
 have hz1 : w.heap.size + 3 ≤ w1.heap.size := by simpa using hb1.size
 rcases less_cases (1048576) (cost_Template (x00, x01)) with ⟨e1, g0⟩ | ⟨e1, g0⟩
 · rw [e1]
   clear e1
   go_wp2_with fail
   go_ret
   exact ⟨rfl, hss.bel⟩
 rw [e1]
 clear e1
 obtain ⟨qa00, qa01, qa10, qa11, qa20, qa21⟩ := hss.c6 0 0 0 1 1 0 1 1 2 0 2 1
 go_wp2_with fail
 refine (szInstance_b (x10, x11) _ _ (1048576 - (cost_Template (x00, x01))) _ (Rd.mono H1.out hss.bel) (by omega) (by omega)).mono ?_
 rintro e w2 ⟨rfl, hb2⟩
 have hsss := hss.step hb2
 have hz2 : w1.heap.size ≤ w2.heap.size := by simpa using hb2.size
 rcases less_cases (1048576 - (cost_Template (x00, x01))) (cost_Instance (x10, x11)) with ⟨e1, g1⟩ | ⟨e1, g1⟩
 · rw [e1]
   clear e1
   go_wp2_with fail
   go_ret
   exact ⟨rfl, hsss.bel⟩
 rw [e1]
 clear e1
 clear qa00 qa01 qa10 qa11 qa20 qa21
 obtain ⟨qa00, qa01, qa10, qa11, qa20, qa21⟩ := hsss.c6 0 0 0 1 1 0 1 1 2 0 2 1
 go_wp2_with fail
 refine (szOp_b (x20, x21) _ _ (1048576 - (cost_Template (x00, x01)) - (cost_Instance (x10, x11))) _ (Rd.mono H2.out hsss.bel) (by omega) (by omega)).mono ?_
 rintro e w3 ⟨rfl, hb3⟩
 have hssss := hsss.step hb3
 have hz3 : w2.heap.size ≤ w3.heap.size := by simpa using hb3.size
 rcases less_cases (1048576 - (cost_Template (x00, x01)) - (cost_Instance (x10, x11))) (cost_Op (x20, x21)) with ⟨e1, g2⟩ | ⟨e1, g2⟩
 · rw [e1]
   clear e1
   go_wp2_with fail
   go_ret
   exact ⟨rfl, hssss.bel⟩
 rw [e1]
 clear e1
 clear qa00 qa01 qa10 qa11 qa20 qa21
 obtain ⟨qa00, qa01, qa10, qa11, qa20, qa21⟩ := hssss.c6 0 0 0 1 1 0 1 1 2 0 2 1
 have gc0 : cost_Template (x00, x01) ≤ 1048576 := by omega
 have gc1 : cost_Instance (x10, x11) ≤ 1048576 := by omega
 have gc2 : cost_Op (x20, x21) ≤ 1048576 := by omega
 go_upto_region 11 with fail
 refine t4R (fun w' => w'.cell? ⟨w.heap.size, 0, none⟩ = some (.int .i64 x00) ∧ w'.cell? ⟨w.heap.size, 1, none⟩ = some (.slice a01 x01.length c01) ∧ w'.cell? ⟨w.heap.size + 1, 0, none⟩ = some (.int .i64 x10) ∧ w'.cell? ⟨w.heap.size + 1, 1, none⟩ = some (.slice a11 x11.length c11) ∧ w'.cell? ⟨w.heap.size + 1 + 1, 0, none⟩ = some (.int .i64 x20) ∧ w'.cell? ⟨w.heap.size + 1 + 1, 1, none⟩ = some (.slice a21 x21.length c21)) (.float 0 (.float 2 (.float 4 (.fork2 1 (.fork2 3 (.fork2 5 (.fork2 6 (.float 7 (.float 8 (.float 9 (.hard 10 (.hard 11 (.float 12 .nil)))))) 10 (.hard 6 (.float 7 (.float 8 (.float 9 (.hard 11 (.float 12 .nil))))))) 10 (.hard 5 (.hard 6 (.float 7 (.float 8 (.float 9 (.hard 11 (.float 12 .nil)))))))) 10 (.hard 3 (.hard 5 (.hard 6 (.float 7 (.float 8 (.float 9 (.hard 11 (.float 12 .nil))))))))) 10 (.hard 1 (.hard 3 (.hard 5 (.hard 6 (.float 7 (.float 8 (.float 9 (.hard 11 (.float 12 .nil))))))))))))) ?_ ?_
 · exact ⟨(hssss.drew).c 0 0, (hssss.drew).c 0 1, (hssss.drew).c 1 0, (hssss.drew).c 1 1, (hssss.drew).c 2 0, (hssss.drew).c 2 1⟩
 have hQ0 := hssss.drew
 clear qa00 qa01 qa10 qa11 qa20 qa21
 have hzF11 : w3.heap.size ≤ (w3.drew).heap.size := by simp
 generalize hgenF11 : w3.drew = wF11 at *
 clear hgenF11
 refine t4F ?_
 apply mp_cut
 · intro HJ
   refine t4_fork2 ?_ ?_
   · refine t4_hard rfl (by rfl) (fun K hK => ?_)
     go_wp2_with (go_at_call 8; refine (toTemplate_b (x00, x01) _ _ _ (Rd.mono H0.out hQ0.bel) gc0).mono ?_; rintro e w4 ⟨us00, us01, rfl, frs0, hb4⟩)
     have hQ0 := hQ0.step hb4
     have hz4 : wF11.heap.size ≤ w4.heap.size := by simpa using hb4.size
     have Js0 := qH (Fresh.iv frs0)
     have zs00 := rd_cons rfl (Iv.rd Js0.out)
     obtain ⟨rfl, _⟩ := rd_i1 zs00.1
     obtain ⟨as01, cs01, rfl, _⟩ := rd_list zs00.2
     clear zs00
     clear frs0
     refine ⟨⟨hQ0.c 0 0, hQ0.c 0 1, hQ0.c 1 0, hQ0.c 1 1, hQ0.c 2 0, hQ0.c 2 1⟩, ?_⟩
     refine t4F ?_
     refine t4_fork2 ?_ ?_
     · refine t4_hard rfl (by rfl) (fun K hK => ?_)
       go_wp2_with (go_at_call 9; refine (toInstance_b (x10, x11) _ _ _ (Rd.mono H1.out hQ0.bel) gc1).mono ?_; rintro e w5 ⟨us10, us11, rfl, frs1, hb5⟩)
       have Js0' := qH (Iv.mono Js0.out hb5)
       try clear Js0
       have hQ1 := hQ0.step hb5
       have hz5 : w4.heap.size ≤ w5.heap.size := by simpa using hb5.size
       have Js1 := qH (Fresh.iv frs1)
       have zs10 := rd_cons rfl (Iv.rd Js1.out)
       obtain ⟨rfl, _⟩ := rd_i1 zs10.1
       obtain ⟨as11, cs11, rfl, _⟩ := rd_list zs10.2
       clear zs10
       clear frs1
       refine ⟨⟨hQ1.c 0 0, hQ1.c 0 1, hQ1.c 1 0, hQ1.c 1 1, hQ1.c 2 0, hQ1.c 2 1⟩, ?_⟩
       refine t4F ?_
       refine t4_fork2 ?_ ?_
       · refine t4_hard rfl (by rfl) (fun K hK => ?_)
         go_wp2_with (go_at_call 10; refine (toOp_b (x20, x21) _ _ _ (Rd.mono H2.out hQ1.bel) gc2).mono ?_; rintro e w6 ⟨us20, us21, rfl, frs2, hb6⟩)
         have Js0'' := qH (Iv.mono Js0'.out hb6)
         try clear Js0'
         have Js1' := qH (Iv.mono Js1.out hb6)
         try clear Js1
         have hQ2 := hQ1.step hb6
         have hz6 : w5.heap.size ≤ w6.heap.size := by simpa using hb6.size
         have Js2 := qH (Fresh.iv frs2)
         have zs20 := rd_cons rfl (Iv.rd Js2.out)
         obtain ⟨rfl, _⟩ := rd_i1 zs20.1
         obtain ⟨as21, cs21, rfl, _⟩ := rd_list zs20.2
         clear zs20
         clear frs2
         refine ⟨⟨hQ2.c 0 0, hQ2.c 0 1, hQ2.c 1 0, hQ2.c 1 1, hQ2.c 2 0, hQ2.c 2 1⟩, ?_⟩
         refine t4F ?_
         refine t4_fork2 ?_ ?_
         · refine t4_hard rfl (by rfl) (fun K hK => ?_)
           go_wp2_with (go_at_call 7; refine (CS.out _ _ _ _ _ _ _ (Iv.rd Js0''.out) (Iv.rd Js1'.out) (Iv.rd Js2.out)).mono ?_; rintro e w7 ⟨uW0, uW1, uW2, uW3, uW4, rfl, frW, hb7⟩)
           have Js0_p3 := qH (Iv.mono Js0''.out hb7)
           try clear Js0''
           have Js1'' := qH (Iv.mono Js1'.out hb7)
           try clear Js1'
           have Js2' := qH (Iv.mono Js2.out hb7)
           try clear Js2
           have hQ3 := hQ2.step hb7
           have hz7 : w6.heap.size ≤ w7.heap.size := by simpa using hb7.size
           have JW := qH (Fresh.iv frW)
           have zW0 := rd_cons rfl (Iv.rd JW.out)
           obtain ⟨rfl, _⟩ := rd_i1 zW0.1
           have zW1 := rd_cons rfl zW0.2
           obtain ⟨aW1, cW1, rfl, _⟩ := rd_list zW1.1
           have zW2 := rd_cons rfl zW1.2
           obtain ⟨aW2, cW2, rfl, _⟩ := rd_list zW2.1
           have zW3 := rd_cons rfl zW2.2
           obtain ⟨aW3, cW3, rfl, _⟩ := rd_list zW3.1
           obtain ⟨aW4, cW4, rfl, _⟩ := rd_list zW3.2
           clear zW0 zW1 zW2 zW3
           clear frW
           try clear Js0_p3
           try clear Js1''
           try clear Js2'
           refine ⟨⟨hQ3.c 0 0, hQ3.c 0 1, hQ3.c 1 0, hQ3.c 1 1, hQ3.c 2 0, hQ3.c 2 1⟩, ?_⟩
           refine t4F ?_
           refine t4_hard rfl (by rfl) (fun K hK => ?_)
           go_wp2_with fail
           have hQ4 := hQ3.alloc #[.int .i64 0, .slice none 0 0, .slice none 0 0, .slice none 0 0, .slice none 0 0] 37 rfl
           have JW' := qH (Iv.mono JW.out (belowA _ (.cells #[.int .i64 0, .slice none 0 0, .slice none 0 0, .slice none 0 0, .slice none 0 0] 37)))
           try clear JW
           have hzF11A1 : w7.heap.size + 1 ≤ (w7.alloc (.cells #[.int .i64 0, .slice none 0 0, .slice none 0 0, .slice none 0 0, .slice none 0 0] 37)).heap.size := by simp
           generalize hgenF11A1 : w7.alloc (.cells #[.int .i64 0, .slice none 0 0, .slice none 0 0, .slice none 0 0, .slice none 0 0] 37) = wF11A1 at *
           clear hgenF11A1
           refine ⟨⟨hQ4.c 0 0, hQ4.c 0 1, hQ4.c 1 0, hQ4.c 1 1, hQ4.c 2 0, hQ4.c 2 1⟩, ?_⟩
           refine t4F ?_
           refine t4_hard rfl (by rfl) (fun K hK => ?_)
           have fF110 := hQ4.freeAt 3 rfl 0
           have cF110 := hQ4.c 3 0
           have fF111 := hQ4.freeAt 3 rfl 1
           have cF111 := hQ4.c 3 1
           have fF112 := hQ4.freeAt 3 rfl 2
           have cF112 := hQ4.c 3 2
           have fF113 := hQ4.freeAt 3 rfl 3
           have cF113 := hQ4.c 3 3
           have fF114 := hQ4.freeAt 3 rfl 4
           have cF114 := hQ4.c 3 4
           go_wp2_with fail
           have hQ2 := (((((hQ4.set (p := [_, _, _]) (by simp <;> omega) 0 (.int .i64 r0)).set (p := [_, _, _]) (by simp <;> omega) 1 (.slice aW1 r1.length cW1)).set (p := [_, _, _]) (by simp <;> omega) 2 (.slice aW2 r2.length cW2)).set (p := [_, _, _]) (by simp <;> omega) 3 (.slice aW3 r3.length cW3)).set (p := [_, _, _]) (by simp <;> omega) 4 (.slice aW4 r4.length cW4))
           have JW'' := qH (Iv.setOut (Iv.setOut (Iv.setOut (Iv.setOut (Iv.setOut JW'.out (a := ⟨w7.heap.size, 0, none⟩) (by first | (left; simp only; first | done | omega) | (right; simp only; first | done | omega)) (.int .i64 r0)) (a := ⟨w7.heap.size, 1, none⟩) (by first | (left; simp only; first | done | omega) | (right; simp only; first | done | omega)) (.slice aW1 r1.length cW1)) (a := ⟨w7.heap.size, 2, none⟩) (by first | (left; simp only; first | done | omega) | (right; simp only; first | done | omega)) (.slice aW2 r2.length cW2)) (a := ⟨w7.heap.size, 3, none⟩) (by first | (left; simp only; first | done | omega) | (right; simp only; first | done | omega)) (.slice aW3 r3.length cW3)) (a := ⟨w7.heap.size, 4, none⟩) (by first | (left; simp only; first | done | omega) | (right; simp only; first | done | omega)) (.slice aW4 r4.length cW4))
           try clear JW'
           clear fF110 cF110 fF111 cF111 fF112 cF112 fF113 cF113 fF114 cF114
           refine ⟨?_, ?_⟩
           · first | (have u9 : wF11A1.cell? ⟨w.heap.size, 0, none⟩ = some (.int .i64 x00) ∧ wF11A1.cell? ⟨w.heap.size, 1, none⟩ = some (.slice a01 x01.length c01) ∧ wF11A1.cell? ⟨w.heap.size + 1, 0, none⟩ = some (.int .i64 x10) ∧ wF11A1.cell? ⟨w.heap.size + 1, 1, none⟩ = some (.slice a11 x11.length c11) ∧ wF11A1.cell? ⟨w.heap.size + 1 + 1, 0, none⟩ = some (.int .i64 x20) ∧ wF11A1.cell? ⟨w.heap.size + 1 + 1, 1, none⟩ = some (.slice a21 x21.length c21) := ⟨hQ4.c 0 0, hQ4.c 0 1, hQ4.c 1 0, hQ4.c 1 1, hQ4.c 2 0, hQ4.c 2 1⟩; with_reducible exact u9) | (have u9 : (((((wF11A1.setCell ⟨w7.heap.size, 0, none⟩ (.int .i64 r0)).setCell ⟨w7.heap.size, 1, none⟩ (.slice aW1 r1.length cW1)).setCell ⟨w7.heap.size, 2, none⟩ (.slice aW2 r2.length cW2)).setCell ⟨w7.heap.size, 3, none⟩ (.slice aW3 r3.length cW3)).setCell ⟨w7.heap.size, 4, none⟩ (.slice aW4 r4.length cW4)).cell? ⟨w.heap.size, 0, none⟩ = some (.int .i64 x00) ∧ (((((wF11A1.setCell ⟨w7.heap.size, 0, none⟩ (.int .i64 r0)).setCell ⟨w7.heap.size, 1, none⟩ (.slice aW1 r1.length cW1)).setCell ⟨w7.heap.size, 2, none⟩ (.slice aW2 r2.length cW2)).setCell ⟨w7.heap.size, 3, none⟩ (.slice aW3 r3.length cW3)).setCell ⟨w7.heap.size, 4, none⟩ (.slice aW4 r4.length cW4)).cell? ⟨w.heap.size, 1, none⟩ = some (.slice a01 x01.length c01) ∧ (((((wF11A1.setCell ⟨w7.heap.size, 0, none⟩ (.int .i64 r0)).setCell ⟨w7.heap.size, 1, none⟩ (.slice aW1 r1.length cW1)).setCell ⟨w7.heap.size, 2, none⟩ (.slice aW2 r2.length cW2)).setCell ⟨w7.heap.size, 3, none⟩ (.slice aW3 r3.length cW3)).setCell ⟨w7.heap.size, 4, none⟩ (.slice aW4 r4.length cW4)).cell? ⟨w.heap.size + 1, 0, none⟩ = some (.int .i64 x10) ∧ (((((wF11A1.setCell ⟨w7.heap.size, 0, none⟩ (.int .i64 r0)).setCell ⟨w7.heap.size, 1, none⟩ (.slice aW1 r1.length cW1)).setCell ⟨w7.heap.size, 2, none⟩ (.slice aW2 r2.length cW2)).setCell ⟨w7.heap.size, 3, none⟩ (.slice aW3 r3.length cW3)).setCell ⟨w7.heap.size, 4, none⟩ (.slice aW4 r4.length cW4)).cell? ⟨w.heap.size + 1, 1, none⟩ = some (.slice a11 x11.length c11) ∧ (((((wF11A1.setCell ⟨w7.heap.size, 0, none⟩ (.int .i64 r0)).setCell ⟨w7.heap.size, 1, none⟩ (.slice aW1 r1.length cW1)).setCell ⟨w7.heap.size, 2, none⟩ (.slice aW2 r2.length cW2)).setCell ⟨w7.heap.size, 3, none⟩ (.slice aW3 r3.length cW3)).setCell ⟨w7.heap.size, 4, none⟩ (.slice aW4 r4.length cW4)).cell? ⟨w.heap.size + 1 + 1, 0, none⟩ = some (.int .i64 x20) ∧ (((((wF11A1.setCell ⟨w7.heap.size, 0, none⟩ (.int .i64 r0)).setCell ⟨w7.heap.size, 1, none⟩ (.slice aW1 r1.length cW1)).setCell ⟨w7.heap.size, 2, none⟩ (.slice aW2 r2.length cW2)).setCell ⟨w7.heap.size, 3, none⟩ (.slice aW3 r3.length cW3)).setCell ⟨w7.heap.size, 4, none⟩ (.slice aW4 r4.length cW4)).cell? ⟨w.heap.size + 1 + 1, 1, none⟩ = some (.slice a21 x21.length c21) := ⟨hQ2.c 0 0, hQ2.c 0 1, hQ2.c 1 0, hQ2.c 1 1, hQ2.c 2 0, hQ2.c 2 1⟩; with_reducible exact u9) | exact ⟨hQ2.c 0 0, hQ2.c 0 1, hQ2.c 1 0, hQ2.c 1 1, hQ2.c 2 0, hQ2.c 2 1⟩ | exact ⟨hQ4.c 0 0, hQ4.c 0 1, hQ4.c 1 0, hQ4.c 1 1, hQ4.c 2 0, hQ4.c 2 1⟩
           refine t4F ?_
           refine t4_nil (NoPanic.normal ?_)
           have hsF11 : St w (((((wF11A1.setCell ⟨w7.heap.size, 0, none⟩ (.int .i64 r0)).setCell ⟨w7.heap.size, 1, none⟩ (.slice aW1 r1.length cW1)).setCell ⟨w7.heap.size, 2, none⟩ (.slice aW2 r2.length cW2)).setCell ⟨w7.heap.size, 3, none⟩ (.slice aW3 r3.length cW3)).setCell ⟨w7.heap.size, 4, none⟩ (.slice aW4 r4.length cW4)).heap.size (((((wF11A1.setCell ⟨w7.heap.size, 0, none⟩ (.int .i64 r0)).setCell ⟨w7.heap.size, 1, none⟩ (.slice aW1 r1.length cW1)).setCell ⟨w7.heap.size, 2, none⟩ (.slice aW2 r2.length cW2)).setCell ⟨w7.heap.size, 3, none⟩ (.slice aW3 r3.length cW3)).setCell ⟨w7.heap.size, 4, none⟩ (.slice aW4 r4.length cW4)) [(w.heap.size, #[.int .i64 x00, .slice a01 x01.length c01], 24), (w.heap.size + 1, #[.int .i64 x10, .slice a11 x11.length c11], 27), (w.heap.size + 1 + 1, #[.int .i64 x20, .slice a21 x21.length c21], 30), (w7.heap.size, #[.int .i64 r0, .slice aW1 r1.length cW1, .slice aW2 r2.length cW2, .slice aW3 r3.length cW3, .slice aW4 r4.length cW4], 37)] := hQ2.up hQ2.hi (Nat.le_refl _)
           have hVF11 : wF11A1.heap.size = (((((wF11A1.setCell ⟨w7.heap.size, 0, none⟩ (.int .i64 r0)).setCell ⟨w7.heap.size, 1, none⟩ (.slice aW1 r1.length cW1)).setCell ⟨w7.heap.size, 2, none⟩ (.slice aW2 r2.length cW2)).setCell ⟨w7.heap.size, 3, none⟩ (.slice aW3 r3.length cW3)).setCell ⟨w7.heap.size, 4, none⟩ (.slice aW4 r4.length cW4)).heap.size := by simp [World.setCell]
           obtain ⟨loUF11, hiUF11, hUF11, JUF11⟩ : ∃ lo hi : Nat, (w3.heap.size ≤ lo ∧ hi ≤ wF11A1.heap.size ∧ (w7.heap.size < lo ∨ hi ≤ w7.heap.size) ∧ w3.heap.size ≤ w7.heap.size ∧ w7.heap.size < wF11A1.heap.size) ∧ Hid (Iv lo hi (((((wF11A1.setCell ⟨w7.heap.size, 0, none⟩ (.int .i64 r0)).setCell ⟨w7.heap.size, 1, none⟩ (.slice aW1 r1.length cW1)).setCell ⟨w7.heap.size, 2, none⟩ (.slice aW2 r2.length cW2)).setCell ⟨w7.heap.size, 3, none⟩ (.slice aW3 r3.length cW3)).setCell ⟨w7.heap.size, 4, none⟩ (.slice aW4 r4.length cW4)) [.int .i64 r0, .slice aW1 r1.length cW1, .slice aW2 r2.length cW2, .slice aW3 r3.length cW3, .slice aW4 r4.length cW4] (r0, r1, r2, r3, r4)) := ⟨w6.heap.size, w7.heap.size, by omega, JW''.out⟩
           rw [hVF11] at hUF11
           clear hVF11 JW''
           generalize hhwUF11 : (((((wF11A1.setCell ⟨w7.heap.size, 0, none⟩ (.int .i64 r0)).setCell ⟨w7.heap.size, 1, none⟩ (.slice aW1 r1.length cW1)).setCell ⟨w7.heap.size, 2, none⟩ (.slice aW2 r2.length cW2)).setCell ⟨w7.heap.size, 3, none⟩ (.slice aW3 r3.length cW3)).setCell ⟨w7.heap.size, 4, none⟩ (.slice aW4 r4.length cW4)) = wUF11 at hsF11 hUF11 JUF11 ⊢
           clear hhwUF11
           generalize hhgUF11 : w7.heap.size = gUF11 at hsF11 hUF11 JUF11 ⊢
           clear hhgUF11
           generalize as01 = zas01 at hsF11 hUF11 JUF11 ⊢
           generalize cs01 = zcs01 at hsF11 hUF11 JUF11 ⊢
           generalize as11 = zas11 at hsF11 hUF11 JUF11 ⊢
           generalize cs11 = zcs11 at hsF11 hUF11 JUF11 ⊢
           generalize as21 = zas21 at hsF11 hUF11 JUF11 ⊢
           generalize cs21 = zcs21 at hsF11 hUF11 JUF11 ⊢
           generalize aW1 = zaW1 at hsF11 hUF11 JUF11 ⊢
           generalize cW1 = zcW1 at hsF11 hUF11 JUF11 ⊢
           generalize aW2 = zaW2 at hsF11 hUF11 JUF11 ⊢
           generalize cW2 = zcW2 at hsF11 hUF11 JUF11 ⊢
           generalize aW3 = zaW3 at hsF11 hUF11 JUF11 ⊢
           generalize cW3 = zcW3 at hsF11 hUF11 JUF11 ⊢
           generalize aW4 = zaW4 at hsF11 hUF11 JUF11 ⊢
           generalize cW4 = zcW4 at hsF11 hUF11 JUF11 ⊢
           revert JUF11
           revert hUF11
           revert hsF11
           revert zcW4
           revert zaW4
           revert zcW3
           revert zaW3
           revert zcW2
           revert zaW2
           revert zcW1
           revert zaW1
           revert zcs21
           revert zas21
           revert zcs11
           revert zas11
           revert zcs01
           revert zas01
           revert hiUF11
           revert loUF11
           revert gUF11
           revert wUF11
           exact HJ.get
         · refine t4_hard rfl (by rfl) (fun K hK => ?_)
           go_wp2_with fail
           have hQ5 := hQ2.alloc #[.int .i64 0, .slice none 0 0, .slice none 0 0, .slice none 0 0, .slice none 0 0] 37 rfl
           have Js0_p3 := qH (Iv.mono Js0''.out (belowA _ (.cells #[.int .i64 0, .slice none 0 0, .slice none 0 0, .slice none 0 0, .slice none 0 0] 37)))
           try clear Js0''
           have Js1'' := qH (Iv.mono Js1'.out (belowA _ (.cells #[.int .i64 0, .slice none 0 0, .slice none 0 0, .slice none 0 0, .slice none 0 0] 37)))
           try clear Js1'
           have Js2' := qH (Iv.mono Js2.out (belowA _ (.cells #[.int .i64 0, .slice none 0 0, .slice none 0 0, .slice none 0 0, .slice none 0 0] 37)))
           try clear Js2
           have hzF11A2 : w6.heap.size + 1 ≤ (w6.alloc (.cells #[.int .i64 0, .slice none 0 0, .slice none 0 0, .slice none 0 0, .slice none 0 0] 37)).heap.size := by simp
           generalize hgenF11A2 : w6.alloc (.cells #[.int .i64 0, .slice none 0 0, .slice none 0 0, .slice none 0 0, .slice none 0 0] 37) = wF11A2 at *
           clear hgenF11A2
           refine ⟨⟨hQ5.c 0 0, hQ5.c 0 1, hQ5.c 1 0, hQ5.c 1 1, hQ5.c 2 0, hQ5.c 2 1⟩, ?_⟩
           refine t4F ?_
           refine t4_hard rfl (by rfl) (fun K hK => ?_)
           go_wp2_with (go_at_call 7; refine (CS.out _ _ _ _ _ _ _ (Iv.rd Js0_p3.out) (Iv.rd Js1''.out) (Iv.rd Js2'.out)).mono ?_; rintro e w7 ⟨uW0, uW1, uW2, uW3, uW4, rfl, frW, hb7⟩)
           have Js0_p4 := qH (Iv.mono Js0_p3.out hb7)
           try clear Js0_p3
           have Js1_p3 := qH (Iv.mono Js1''.out hb7)
           try clear Js1''
           have Js2'' := qH (Iv.mono Js2'.out hb7)
           try clear Js2'
           have hQ6 := hQ5.step hb7
           have hz7 : wF11A2.heap.size ≤ w7.heap.size := by simpa using hb7.size
           have JW := qH (Fresh.iv frW)
           have zW0 := rd_cons rfl (Iv.rd JW.out)
           obtain ⟨rfl, _⟩ := rd_i1 zW0.1
           have zW1 := rd_cons rfl zW0.2
           obtain ⟨aW1, cW1, rfl, _⟩ := rd_list zW1.1
           have zW2 := rd_cons rfl zW1.2
           obtain ⟨aW2, cW2, rfl, _⟩ := rd_list zW2.1
           have zW3 := rd_cons rfl zW2.2
           obtain ⟨aW3, cW3, rfl, _⟩ := rd_list zW3.1
           obtain ⟨aW4, cW4, rfl, _⟩ := rd_list zW3.2
           clear zW0 zW1 zW2 zW3
           clear frW
           try clear Js0_p4
           try clear Js1_p3
           try clear Js2''
           refine ⟨⟨hQ6.c 0 0, hQ6.c 0 1, hQ6.c 1 0, hQ6.c 1 1, hQ6.c 2 0, hQ6.c 2 1⟩, ?_⟩
           refine t4F ?_
           refine t4_hard rfl (by rfl) (fun K hK => ?_)
           have fF110 := hQ6.freeAt 3 rfl 0
           have cF110 := hQ6.c 3 0
           have fF111 := hQ6.freeAt 3 rfl 1
           have cF111 := hQ6.c 3 1
           have fF112 := hQ6.freeAt 3 rfl 2
           have cF112 := hQ6.c 3 2
           have fF113 := hQ6.freeAt 3 rfl 3
           have cF113 := hQ6.c 3 3
           have fF114 := hQ6.freeAt 3 rfl 4
           have cF114 := hQ6.c 3 4
           go_wp2_with fail
           have hQ3 := (((((hQ6.set (p := [_, _, _]) (by simp <;> omega) 0 (.int .i64 r0)).set (p := [_, _, _]) (by simp <;> omega) 1 (.slice aW1 r1.length cW1)).set (p := [_, _, _]) (by simp <;> omega) 2 (.slice aW2 r2.length cW2)).set (p := [_, _, _]) (by simp <;> omega) 3 (.slice aW3 r3.length cW3)).set (p := [_, _, _]) (by simp <;> omega) 4 (.slice aW4 r4.length cW4))
           have JW' := qH (Iv.setOut (Iv.setOut (Iv.setOut (Iv.setOut (Iv.setOut JW.out (a := ⟨w6.heap.size, 0, none⟩) (by first | (left; simp only; first | done | omega) | (right; simp only; first | done | omega)) (.int .i64 r0)) (a := ⟨w6.heap.size, 1, none⟩) (by first | (left; simp only; first | done | omega) | (right; simp only; first | done | omega)) (.slice aW1 r1.length cW1)) (a := ⟨w6.heap.size, 2, none⟩) (by first | (left; simp only; first | done | omega) | (right; simp only; first | done | omega)) (.slice aW2 r2.length cW2)) (a := ⟨w6.heap.size, 3, none⟩) (by first | (left; simp only; first | done | omega) | (right; simp only; first | done | omega)) (.slice aW3 r3.length cW3)) (a := ⟨w6.heap.size, 4, none⟩) (by first | (left; simp only; first | done | omega) | (right; simp only; first | done | omega)) (.slice aW4 r4.length cW4))
           try clear JW
           clear fF110 cF110 fF111 cF111 fF112 cF112 fF113 cF113 fF114 cF114
           refine ⟨?_, ?_⟩
           · first | (have u9 : w7.cell? ⟨w.heap.size, 0, none⟩ = some (.int .i64 x00) ∧ w7.cell? ⟨w.heap.size, 1, none⟩ = some (.slice a01 x01.length c01) ∧ w7.cell? ⟨w.heap.size + 1, 0, none⟩ = some (.int .i64 x10) ∧ w7.cell? ⟨w.heap.size + 1, 1, none⟩ = some (.slice a11 x11.length c11) ∧ w7.cell? ⟨w.heap.size + 1 + 1, 0, none⟩ = some (.int .i64 x20) ∧ w7.cell? ⟨w.heap.size + 1 + 1, 1, none⟩ = some (.slice a21 x21.length c21) := ⟨hQ6.c 0 0, hQ6.c 0 1, hQ6.c 1 0, hQ6.c 1 1, hQ6.c 2 0, hQ6.c 2 1⟩; with_reducible exact u9) | (have u9 : (((((w7.setCell ⟨w6.heap.size, 0, none⟩ (.int .i64 r0)).setCell ⟨w6.heap.size, 1, none⟩ (.slice aW1 r1.length cW1)).setCell ⟨w6.heap.size, 2, none⟩ (.slice aW2 r2.length cW2)).setCell ⟨w6.heap.size, 3, none⟩ (.slice aW3 r3.length cW3)).setCell ⟨w6.heap.size, 4, none⟩ (.slice aW4 r4.length cW4)).cell? ⟨w.heap.size, 0, none⟩ = some (.int .i64 x00) ∧ (((((w7.setCell ⟨w6.heap.size, 0, none⟩ (.int .i64 r0)).setCell ⟨w6.heap.size, 1, none⟩ (.slice aW1 r1.length cW1)).setCell ⟨w6.heap.size, 2, none⟩ (.slice aW2 r2.length cW2)).setCell ⟨w6.heap.size, 3, none⟩ (.slice aW3 r3.length cW3)).setCell ⟨w6.heap.size, 4, none⟩ (.slice aW4 r4.length cW4)).cell? ⟨w.heap.size, 1, none⟩ = some (.slice a01 x01.length c01) ∧ (((((w7.setCell ⟨w6.heap.size, 0, none⟩ (.int .i64 r0)).setCell ⟨w6.heap.size, 1, none⟩ (.slice aW1 r1.length cW1)).setCell ⟨w6.heap.size, 2, none⟩ (.slice aW2 r2.length cW2)).setCell ⟨w6.heap.size, 3, none⟩ (.slice aW3 r3.length cW3)).setCell ⟨w6.heap.size, 4, none⟩ (.slice aW4 r4.length cW4)).cell? ⟨w.heap.size + 1, 0, none⟩ = some (.int .i64 x10) ∧ (((((w7.setCell ⟨w6.heap.size, 0, none⟩ (.int .i64 r0)).setCell ⟨w6.heap.size, 1, none⟩ (.slice aW1 r1.length cW1)).setCell ⟨w6.heap.size, 2, none⟩ (.slice aW2 r2.length cW2)).setCell ⟨w6.heap.size, 3, none⟩ (.slice aW3 r3.length cW3)).setCell ⟨w6.heap.size, 4, none⟩ (.slice aW4 r4.length cW4)).cell? ⟨w.heap.size + 1, 1, none⟩ = some (.slice a11 x11.length c11) ∧ (((((w7.setCell ⟨w6.heap.size, 0, none⟩ (.int .i64 r0)).setCell ⟨w6.heap.size, 1, none⟩ (.slice aW1 r1.length cW1)).setCell ⟨w6.heap.size, 2, none⟩ (.slice aW2 r2.length cW2)).setCell ⟨w6.heap.size, 3, none⟩ (.slice aW3 r3.length cW3)).setCell ⟨w6.heap.size, 4, none⟩ (.slice aW4 r4.length cW4)).cell? ⟨w.heap.size + 1 + 1, 0, none⟩ = some (.int .i64 x20) ∧ (((((w7.setCell ⟨w6.heap.size, 0, none⟩ (.int .i64 r0)).setCell ⟨w6.heap.size, 1, none⟩ (.slice aW1 r1.length cW1)).setCell ⟨w6.heap.size, 2, none⟩ (.slice aW2 r2.length cW2)).setCell ⟨w6.heap.size, 3, none⟩ (.slice aW3 r3.length cW3)).setCell ⟨w6.heap.size, 4, none⟩ (.slice aW4 r4.length cW4)).cell? ⟨w.heap.size + 1 + 1, 1, none⟩ = some (.slice a21 x21.length c21) := ⟨hQ3.c 0 0, hQ3.c 0 1, hQ3.c 1 0, hQ3.c 1 1, hQ3.c 2 0, hQ3.c 2 1⟩; with_reducible exact u9) | exact ⟨hQ3.c 0 0, hQ3.c 0 1, hQ3.c 1 0, hQ3.c 1 1, hQ3.c 2 0, hQ3.c 2 1⟩ | exact ⟨hQ6.c 0 0, hQ6.c 0 1, hQ6.c 1 0, hQ6.c 1 1, hQ6.c 2 0, hQ6.c 2 1⟩
           refine t4F ?_
           refine t4_nil (NoPanic.normal ?_)
           have hsF11 : St w (((((w7.setCell ⟨w6.heap.size, 0, none⟩ (.int .i64 r0)).setCell ⟨w6.heap.size, 1, none⟩ (.slice aW1 r1.length cW1)).setCell ⟨w6.heap.size, 2, none⟩ (.slice aW2 r2.length cW2)).setCell ⟨w6.heap.size, 3, none⟩ (.slice aW3 r3.length cW3)).setCell ⟨w6.heap.size, 4, none⟩ (.slice aW4 r4.length cW4)).heap.size (((((w7.setCell ⟨w6.heap.size, 0, none⟩ (.int .i64 r0)).setCell ⟨w6.heap.size, 1, none⟩ (.slice aW1 r1.length cW1)).setCell ⟨w6.heap.size, 2, none⟩ (.slice aW2 r2.length cW2)).setCell ⟨w6.heap.size, 3, none⟩ (.slice aW3 r3.length cW3)).setCell ⟨w6.heap.size, 4, none⟩ (.slice aW4 r4.length cW4)) [(w.heap.size, #[.int .i64 x00, .slice a01 x01.length c01], 24), (w.heap.size + 1, #[.int .i64 x10, .slice a11 x11.length c11], 27), (w.heap.size + 1 + 1, #[.int .i64 x20, .slice a21 x21.length c21], 30), (w6.heap.size, #[.int .i64 r0, .slice aW1 r1.length cW1, .slice aW2 r2.length cW2, .slice aW3 r3.length cW3, .slice aW4 r4.length cW4], 37)] := hQ3.up hQ3.hi (Nat.le_refl _)
           have hVF11 : w7.heap.size = (((((w7.setCell ⟨w6.heap.size, 0, none⟩ (.int .i64 r0)).setCell ⟨w6.heap.size, 1, none⟩ (.slice aW1 r1.length cW1)).setCell ⟨w6.heap.size, 2, none⟩ (.slice aW2 r2.length cW2)).setCell ⟨w6.heap.size, 3, none⟩ (.slice aW3 r3.length cW3)).setCell ⟨w6.heap.size, 4, none⟩ (.slice aW4 r4.length cW4)).heap.size := by simp [World.setCell]
           obtain ⟨loUF11, hiUF11, hUF11, JUF11⟩ : ∃ lo hi : Nat, (w3.heap.size ≤ lo ∧ hi ≤ w7.heap.size ∧ (w6.heap.size < lo ∨ hi ≤ w6.heap.size) ∧ w3.heap.size ≤ w6.heap.size ∧ w6.heap.size < w7.heap.size) ∧ Hid (Iv lo hi (((((w7.setCell ⟨w6.heap.size, 0, none⟩ (.int .i64 r0)).setCell ⟨w6.heap.size, 1, none⟩ (.slice aW1 r1.length cW1)).setCell ⟨w6.heap.size, 2, none⟩ (.slice aW2 r2.length cW2)).setCell ⟨w6.heap.size, 3, none⟩ (.slice aW3 r3.length cW3)).setCell ⟨w6.heap.size, 4, none⟩ (.slice aW4 r4.length cW4)) [.int .i64 r0, .slice aW1 r1.length cW1, .slice aW2 r2.length cW2, .slice aW3 r3.length cW3, .slice aW4 r4.length cW4] (r0, r1, r2, r3, r4)) := ⟨wF11A2.heap.size, w7.heap.size, by omega, JW'.out⟩
           rw [hVF11] at hUF11
           clear hVF11 JW'
           generalize hhwUF11 : (((((w7.setCell ⟨w6.heap.size, 0, none⟩ (.int .i64 r0)).setCell ⟨w6.heap.size, 1, none⟩ (.slice aW1 r1.length cW1)).setCell ⟨w6.heap.size, 2, none⟩ (.slice aW2 r2.length cW2)).setCell ⟨w6.heap.size, 3, none⟩ (.slice aW3 r3.length cW3)).setCell ⟨w6.heap.size, 4, none⟩ (.slice aW4 r4.length cW4)) = wUF11 at hsF11 hUF11 JUF11 ⊢
           clear hhwUF11
           generalize hhgUF11 : w6.heap.size = gUF11 at hsF11 hUF11 JUF11 ⊢
           clear hhgUF11
           generalize as01 = zas01 at hsF11 hUF11 JUF11 ⊢
           generalize cs01 = zcs01 at hsF11 hUF11 JUF11 ⊢
           generalize as11 = zas11 at hsF11 hUF11 JUF11 ⊢
           generalize cs11 = zcs11 at hsF11 hUF11 JUF11 ⊢
           generalize as21 = zas21 at hsF11 hUF11 JUF11 ⊢
           generalize cs21 = zcs21 at hsF11 hUF11 JUF11 ⊢
           generalize aW1 = zaW1 at hsF11 hUF11 JUF11 ⊢
           generalize cW1 = zcW1 at hsF11 hUF11 JUF11 ⊢
           generalize aW2 = zaW2 at hsF11 hUF11 JUF11 ⊢
           generalize cW2 = zcW2 at hsF11 hUF11 JUF11 ⊢
           generalize aW3 = zaW3 at hsF11 hUF11 JUF11 ⊢
           generalize cW3 = zcW3 at hsF11 hUF11 JUF11 ⊢
           generalize aW4 = zaW4 at hsF11 hUF11 JUF11 ⊢
           generalize cW4 = zcW4 at hsF11 hUF11 JUF11 ⊢
           revert JUF11
           revert hUF11
           revert hsF11
           revert zcW4
           revert zaW4
           revert zcW3
           revert zaW3
           revert zcW2
           revert zaW2
           revert zcW1
           revert zaW1
           revert zcs21
           revert zas21
           revert zcs11
           revert zas11
           revert zcs01
           revert zas01
           revert hiUF11
           revert loUF11
           revert gUF11
           revert wUF11
           exact HJ.get
       · refine t4_hard rfl (by rfl) (fun K hK => ?_)
         go_wp2_with fail
         have hQ7 := hQ1.alloc #[.int .i64 0, .slice none 0 0, .slice none 0 0, .slice none 0 0, .slice none 0 0] 37 rfl
         have Js0'' := qH (Iv.mono Js0'.out (belowA _ (.cells #[.int .i64 0, .slice none 0 0, .slice none 0 0, .slice none 0 0, .slice none 0 0] 37)))
         try clear Js0'
         have Js1' := qH (Iv.mono Js1.out (belowA _ (.cells #[.int .i64 0, .slice none 0 0, .slice none 0 0, .slice none 0 0, .slice none 0 0] 37)))
         try clear Js1
         have hzF11A3 : w5.heap.size + 1 ≤ (w5.alloc (.cells #[.int .i64 0, .slice none 0 0, .slice none 0 0, .slice none 0 0, .slice none 0 0] 37)).heap.size := by simp
         generalize hgenF11A3 : w5.alloc (.cells #[.int .i64 0, .slice none 0 0, .slice none 0 0, .slice none 0 0, .slice none 0 0] 37) = wF11A3 at *
         clear hgenF11A3
         refine ⟨⟨hQ7.c 0 0, hQ7.c 0 1, hQ7.c 1 0, hQ7.c 1 1, hQ7.c 2 0, hQ7.c 2 1⟩, ?_⟩
         refine t4F ?_
         refine t4_hard rfl (by rfl) (fun K hK => ?_)
         go_wp2_with (go_at_call 10; refine (toOp_b (x20, x21) _ _ _ (Rd.mono H2.out hQ7.bel) gc2).mono ?_; rintro e w6 ⟨us20, us21, rfl, frs2, hb6⟩)
         have Js0_p3 := qH (Iv.mono Js0''.out hb6)
         try clear Js0''
         have Js1'' := qH (Iv.mono Js1'.out hb6)
         try clear Js1'
         have hQ8 := hQ7.step hb6
         have hz6 : wF11A3.heap.size ≤ w6.heap.size := by simpa using hb6.size
         have Js2 := qH (Fresh.iv frs2)
         have zs20 := rd_cons rfl (Iv.rd Js2.out)
         obtain ⟨rfl, _⟩ := rd_i1 zs20.1
         obtain ⟨as21, cs21, rfl, _⟩ := rd_list zs20.2
         clear zs20
         clear frs2
         refine ⟨⟨hQ8.c 0 0, hQ8.c 0 1, hQ8.c 1 0, hQ8.c 1 1, hQ8.c 2 0, hQ8.c 2 1⟩, ?_⟩
         refine t4F ?_
         refine t4_hard rfl (by rfl) (fun K hK => ?_)
         go_wp2_with (go_at_call 7; refine (CS.out _ _ _ _ _ _ _ (Iv.rd Js0_p3.out) (Iv.rd Js1''.out) (Iv.rd Js2.out)).mono ?_; rintro e w7 ⟨uW0, uW1, uW2, uW3, uW4, rfl, frW, hb7⟩)
         have Js0_p4 := qH (Iv.mono Js0_p3.out hb7)
         try clear Js0_p3
         have Js1_p3 := qH (Iv.mono Js1''.out hb7)
         try clear Js1''
         have Js2' := qH (Iv.mono Js2.out hb7)
         try clear Js2
         have hQ9 := hQ8.step hb7
         have hz7 : w6.heap.size ≤ w7.heap.size := by simpa using hb7.size
         have JW := qH (Fresh.iv frW)
         have zW0 := rd_cons rfl (Iv.rd JW.out)
         obtain ⟨rfl, _⟩ := rd_i1 zW0.1
         have zW1 := rd_cons rfl zW0.2
         obtain ⟨aW1, cW1, rfl, _⟩ := rd_list zW1.1
         have zW2 := rd_cons rfl zW1.2
         obtain ⟨aW2, cW2, rfl, _⟩ := rd_list zW2.1
         have zW3 := rd_cons rfl zW2.2
         obtain ⟨aW3, cW3, rfl, _⟩ := rd_list zW3.1
         obtain ⟨aW4, cW4, rfl, _⟩ := rd_list zW3.2
         clear zW0 zW1 zW2 zW3
         clear frW
         try clear Js0_p4
         try clear Js1_p3
         try clear Js2'
         refine ⟨⟨hQ9.c 0 0, hQ9.c 0 1, hQ9.c 1 0, hQ9.c 1 1, hQ9.c 2 0, hQ9.c 2 1⟩, ?_⟩
         refine t4F ?_
         refine t4_hard rfl (by rfl) (fun K hK => ?_)
         have fF110 := hQ9.freeAt 3 rfl 0
         have cF110 := hQ9.c 3 0
         have fF111 := hQ9.freeAt 3 rfl 1
         have cF111 := hQ9.c 3 1
         have fF112 := hQ9.freeAt 3 rfl 2
         have cF112 := hQ9.c 3 2
         have fF113 := hQ9.freeAt 3 rfl 3
         have cF113 := hQ9.c 3 3
         have fF114 := hQ9.freeAt 3 rfl 4
         have cF114 := hQ9.c 3 4
         go_wp2_with fail
         have hQ4 := (((((hQ9.set (p := [_, _, _]) (by simp <;> omega) 0 (.int .i64 r0)).set (p := [_, _, _]) (by simp <;> omega) 1 (.slice aW1 r1.length cW1)).set (p := [_, _, _]) (by simp <;> omega) 2 (.slice aW2 r2.length cW2)).set (p := [_, _, _]) (by simp <;> omega) 3 (.slice aW3 r3.length cW3)).set (p := [_, _, _]) (by simp <;> omega) 4 (.slice aW4 r4.length cW4))
         have JW' := qH (Iv.setOut (Iv.setOut (Iv.setOut (Iv.setOut (Iv.setOut JW.out (a := ⟨w5.heap.size, 0, none⟩) (by first | (left; simp only; first | done | omega) | (right; simp only; first | done | omega)) (.int .i64 r0)) (a := ⟨w5.heap.size, 1, none⟩) (by first | (left; simp only; first | done | omega) | (right; simp only; first | done | omega)) (.slice aW1 r1.length cW1)) (a := ⟨w5.heap.size, 2, none⟩) (by first | (left; simp only; first | done | omega) | (right; simp only; first | done | omega)) (.slice aW2 r2.length cW2)) (a := ⟨w5.heap.size, 3, none⟩) (by first | (left; simp only; first | done | omega) | (right; simp only; first | done | omega)) (.slice aW3 r3.length cW3)) (a := ⟨w5.heap.size, 4, none⟩) (by first | (left; simp only; first | done | omega) | (right; simp only; first | done | omega)) (.slice aW4 r4.length cW4))
         try clear JW
         clear fF110 cF110 fF111 cF111 fF112 cF112 fF113 cF113 fF114 cF114
         refine ⟨?_, ?_⟩
         · first | (have u9 : w7.cell? ⟨w.heap.size, 0, none⟩ = some (.int .i64 x00) ∧ w7.cell? ⟨w.heap.size, 1, none⟩ = some (.slice a01 x01.length c01) ∧ w7.cell? ⟨w.heap.size + 1, 0, none⟩ = some (.int .i64 x10) ∧ w7.cell? ⟨w.heap.size + 1, 1, none⟩ = some (.slice a11 x11.length c11) ∧ w7.cell? ⟨w.heap.size + 1 + 1, 0, none⟩ = some (.int .i64 x20) ∧ w7.cell? ⟨w.heap.size + 1 + 1, 1, none⟩ = some (.slice a21 x21.length c21) := ⟨hQ9.c 0 0, hQ9.c 0 1, hQ9.c 1 0, hQ9.c 1 1, hQ9.c 2 0, hQ9.c 2 1⟩; with_reducible exact u9) | (have u9 : (((((w7.setCell ⟨w5.heap.size, 0, none⟩ (.int .i64 r0)).setCell ⟨w5.heap.size, 1, none⟩ (.slice aW1 r1.length cW1)).setCell ⟨w5.heap.size, 2, none⟩ (.slice aW2 r2.length cW2)).setCell ⟨w5.heap.size, 3, none⟩ (.slice aW3 r3.length cW3)).setCell ⟨w5.heap.size, 4, none⟩ (.slice aW4 r4.length cW4)).cell? ⟨w.heap.size, 0, none⟩ = some (.int .i64 x00) ∧ (((((w7.setCell ⟨w5.heap.size, 0, none⟩ (.int .i64 r0)).setCell ⟨w5.heap.size, 1, none⟩ (.slice aW1 r1.length cW1)).setCell ⟨w5.heap.size, 2, none⟩ (.slice aW2 r2.length cW2)).setCell ⟨w5.heap.size, 3, none⟩ (.slice aW3 r3.length cW3)).setCell ⟨w5.heap.size, 4, none⟩ (.slice aW4 r4.length cW4)).cell? ⟨w.heap.size, 1, none⟩ = some (.slice a01 x01.length c01) ∧ (((((w7.setCell ⟨w5.heap.size, 0, none⟩ (.int .i64 r0)).setCell ⟨w5.heap.size, 1, none⟩ (.slice aW1 r1.length cW1)).setCell ⟨w5.heap.size, 2, none⟩ (.slice aW2 r2.length cW2)).setCell ⟨w5.heap.size, 3, none⟩ (.slice aW3 r3.length cW3)).setCell ⟨w5.heap.size, 4, none⟩ (.slice aW4 r4.length cW4)).cell? ⟨w.heap.size + 1, 0, none⟩ = some (.int .i64 x10) ∧ (((((w7.setCell ⟨w5.heap.size, 0, none⟩ (.int .i64 r0)).setCell ⟨w5.heap.size, 1, none⟩ (.slice aW1 r1.length cW1)).setCell ⟨w5.heap.size, 2, none⟩ (.slice aW2 r2.length cW2)).setCell ⟨w5.heap.size, 3, none⟩ (.slice aW3 r3.length cW3)).setCell ⟨w5.heap.size, 4, none⟩ (.slice aW4 r4.length cW4)).cell? ⟨w.heap.size + 1, 1, none⟩ = some (.slice a11 x11.length c11) ∧ (((((w7.setCell ⟨w5.heap.size, 0, none⟩ (.int .i64 r0)).setCell ⟨w5.heap.size, 1, none⟩ (.slice aW1 r1.length cW1)).setCell ⟨w5.heap.size, 2, none⟩ (.slice aW2 r2.length cW2)).setCell ⟨w5.heap.size, 3, none⟩ (.slice aW3 r3.length cW3)).setCell ⟨w5.heap.size, 4, none⟩ (.slice aW4 r4.length cW4)).cell? ⟨w.heap.size + 1 + 1, 0, none⟩ = some (.int .i64 x20) ∧ (((((w7.setCell ⟨w5.heap.size, 0, none⟩ (.int .i64 r0)).setCell ⟨w5.heap.size, 1, none⟩ (.slice aW1 r1.length cW1)).setCell ⟨w5.heap.size, 2, none⟩ (.slice aW2 r2.length cW2)).setCell ⟨w5.heap.size, 3, none⟩ (.slice aW3 r3.length cW3)).setCell ⟨w5.heap.size, 4, none⟩ (.slice aW4 r4.length cW4)).cell? ⟨w.heap.size + 1 + 1, 1, none⟩ = some (.slice a21 x21.length c21) := ⟨hQ4.c 0 0, hQ4.c 0 1, hQ4.c 1 0, hQ4.c 1 1, hQ4.c 2 0, hQ4.c 2 1⟩; with_reducible exact u9) | exact ⟨hQ4.c 0 0, hQ4.c 0 1, hQ4.c 1 0, hQ4.c 1 1, hQ4.c 2 0, hQ4.c 2 1⟩ | exact ⟨hQ9.c 0 0, hQ9.c 0 1, hQ9.c 1 0, hQ9.c 1 1, hQ9.c 2 0, hQ9.c 2 1⟩
         refine t4F ?_
         refine t4_nil (NoPanic.normal ?_)
         have hsF11 : St w (((((w7.setCell ⟨w5.heap.size, 0, none⟩ (.int .i64 r0)).setCell ⟨w5.heap.size, 1, none⟩ (.slice aW1 r1.length cW1)).setCell ⟨w5.heap.size, 2, none⟩ (.slice aW2 r2.length cW2)).setCell ⟨w5.heap.size, 3, none⟩ (.slice aW3 r3.length cW3)).setCell ⟨w5.heap.size, 4, none⟩ (.slice aW4 r4.length cW4)).heap.size (((((w7.setCell ⟨w5.heap.size, 0, none⟩ (.int .i64 r0)).setCell ⟨w5.heap.size, 1, none⟩ (.slice aW1 r1.length cW1)).setCell ⟨w5.heap.size, 2, none⟩ (.slice aW2 r2.length cW2)).setCell ⟨w5.heap.size, 3, none⟩ (.slice aW3 r3.length cW3)).setCell ⟨w5.heap.size, 4, none⟩ (.slice aW4 r4.length cW4)) [(w.heap.size, #[.int .i64 x00, .slice a01 x01.length c01], 24), (w.heap.size + 1, #[.int .i64 x10, .slice a11 x11.length c11], 27), (w.heap.size + 1 + 1, #[.int .i64 x20, .slice a21 x21.length c21], 30), (w5.heap.size, #[.int .i64 r0, .slice aW1 r1.length cW1, .slice aW2 r2.length cW2, .slice aW3 r3.length cW3, .slice aW4 r4.length cW4], 37)] := hQ4.up hQ4.hi (Nat.le_refl _)
         have hVF11 : w7.heap.size = (((((w7.setCell ⟨w5.heap.size, 0, none⟩ (.int .i64 r0)).setCell ⟨w5.heap.size, 1, none⟩ (.slice aW1 r1.length cW1)).setCell ⟨w5.heap.size, 2, none⟩ (.slice aW2 r2.length cW2)).setCell ⟨w5.heap.size, 3, none⟩ (.slice aW3 r3.length cW3)).setCell ⟨w5.heap.size, 4, none⟩ (.slice aW4 r4.length cW4)).heap.size := by simp [World.setCell]
         obtain ⟨loUF11, hiUF11, hUF11, JUF11⟩ : ∃ lo hi : Nat, (w3.heap.size ≤ lo ∧ hi ≤ w7.heap.size ∧ (w5.heap.size < lo ∨ hi ≤ w5.heap.size) ∧ w3.heap.size ≤ w5.heap.size ∧ w5.heap.size < w7.heap.size) ∧ Hid (Iv lo hi (((((w7.setCell ⟨w5.heap.size, 0, none⟩ (.int .i64 r0)).setCell ⟨w5.heap.size, 1, none⟩ (.slice aW1 r1.length cW1)).setCell ⟨w5.heap.size, 2, none⟩ (.slice aW2 r2.length cW2)).setCell ⟨w5.heap.size, 3, none⟩ (.slice aW3 r3.length cW3)).setCell ⟨w5.heap.size, 4, none⟩ (.slice aW4 r4.length cW4)) [.int .i64 r0, .slice aW1 r1.length cW1, .slice aW2 r2.length cW2, .slice aW3 r3.length cW3, .slice aW4 r4.length cW4] (r0, r1, r2, r3, r4)) := ⟨w6.heap.size, w7.heap.size, by omega, JW'.out⟩
         rw [hVF11] at hUF11
         clear hVF11 JW'
         generalize hhwUF11 : (((((w7.setCell ⟨w5.heap.size, 0, none⟩ (.int .i64 r0)).setCell ⟨w5.heap.size, 1, none⟩ (.slice aW1 r1.length cW1)).setCell ⟨w5.heap.size, 2, none⟩ (.slice aW2 r2.length cW2)).setCell ⟨w5.heap.size, 3, none⟩ (.slice aW3 r3.length cW3)).setCell ⟨w5.heap.size, 4, none⟩ (.slice aW4 r4.length cW4)) = wUF11 at hsF11 hUF11 JUF11 ⊢
         clear hhwUF11
         generalize hhgUF11 : w5.heap.size = gUF11 at hsF11 hUF11 JUF11 ⊢
         clear hhgUF11
         generalize as01 = zas01 at hsF11 hUF11 JUF11 ⊢
         generalize cs01 = zcs01 at hsF11 hUF11 JUF11 ⊢
         generalize as11 = zas11 at hsF11 hUF11 JUF11 ⊢
         generalize cs11 = zcs11 at hsF11 hUF11 JUF11 ⊢
         generalize as21 = zas21 at hsF11 hUF11 JUF11 ⊢
         generalize cs21 = zcs21 at hsF11 hUF11 JUF11 ⊢
         generalize aW1 = zaW1 at hsF11 hUF11 JUF11 ⊢
         generalize cW1 = zcW1 at hsF11 hUF11 JUF11 ⊢
         generalize aW2 = zaW2 at hsF11 hUF11 JUF11 ⊢
         generalize cW2 = zcW2 at hsF11 hUF11 JUF11 ⊢
         generalize aW3 = zaW3 at hsF11 hUF11 JUF11 ⊢
         generalize cW3 = zcW3 at hsF11 hUF11 JUF11 ⊢
         generalize aW4 = zaW4 at hsF11 hUF11 JUF11 ⊢
         generalize cW4 = zcW4 at hsF11 hUF11 JUF11 ⊢
         revert JUF11
         revert hUF11
         revert hsF11
         revert zcW4
         revert zaW4
         revert zcW3
         revert zaW3
         revert zcW2
         revert zaW2
         revert zcW1
         revert zaW1
         revert zcs21
         revert zas21
         revert zcs11
         revert zas11
         revert zcs01
         revert zas01
         revert hiUF11
         revert loUF11
         revert gUF11
         revert wUF11
         exact HJ.get
     · refine t4_hard rfl (by rfl) (fun K hK => ?_)
       go_wp2_with fail
       have hQ10 := hQ0.alloc #[.int .i64 0, .slice none 0 0, .slice none 0 0, .slice none 0 0, .slice none 0 0] 37 rfl
       have Js0' := qH (Iv.mono Js0.out (belowA _ (.cells #[.int .i64 0, .slice none 0 0, .slice none 0 0, .slice none 0 0, .slice none 0 0] 37)))
       try clear Js0
       have hzF11A4 : w4.heap.size + 1 ≤ (w4.alloc (.cells #[.int .i64 0, .slice none 0 0, .slice none 0 0, .slice none 0 0, .slice none 0 0] 37)).heap.size := by simp
       generalize hgenF11A4 : w4.alloc (.cells #[.int .i64 0, .slice none 0 0, .slice none 0 0, .slice none 0 0, .slice none 0 0] 37) = wF11A4 at *
       clear hgenF11A4
       refine ⟨⟨hQ10.c 0 0, hQ10.c 0 1, hQ10.c 1 0, hQ10.c 1 1, hQ10.c 2 0, hQ10.c 2 1⟩, ?_⟩
       refine t4F ?_
       refine t4_hard rfl (by rfl) (fun K hK => ?_)
       go_wp2_with (go_at_call 9; refine (toInstance_b (x10, x11) _ _ _ (Rd.mono H1.out hQ10.bel) gc1).mono ?_; rintro e w5 ⟨us10, us11, rfl, frs1, hb5⟩)
       have Js0'' := qH (Iv.mono Js0'.out hb5)
       try clear Js0'
       have hQ11 := hQ10.step hb5
       have hz5 : wF11A4.heap.size ≤ w5.heap.size := by simpa using hb5.size
       have Js1 := qH (Fresh.iv frs1)
       have zs10 := rd_cons rfl (Iv.rd Js1.out)
       obtain ⟨rfl, _⟩ := rd_i1 zs10.1
       obtain ⟨as11, cs11, rfl, _⟩ := rd_list zs10.2
       clear zs10
       clear frs1
       refine ⟨⟨hQ11.c 0 0, hQ11.c 0 1, hQ11.c 1 0, hQ11.c 1 1, hQ11.c 2 0, hQ11.c 2 1⟩, ?_⟩
       refine t4F ?_
       refine t4_hard rfl (by rfl) (fun K hK => ?_)
       go_wp2_with (go_at_call 10; refine (toOp_b (x20, x21) _ _ _ (Rd.mono H2.out hQ11.bel) gc2).mono ?_; rintro e w6 ⟨us20, us21, rfl, frs2, hb6⟩)
       have Js0_p3 := qH (Iv.mono Js0''.out hb6)
       try clear Js0''
       have Js1' := qH (Iv.mono Js1.out hb6)
       try clear Js1
       have hQ12 := hQ11.step hb6
       have hz6 : w5.heap.size ≤ w6.heap.size := by simpa using hb6.size
       have Js2 := qH (Fresh.iv frs2)
       have zs20 := rd_cons rfl (Iv.rd Js2.out)
       obtain ⟨rfl, _⟩ := rd_i1 zs20.1
       obtain ⟨as21, cs21, rfl, _⟩ := rd_list zs20.2
       clear zs20
       clear frs2
       refine ⟨⟨hQ12.c 0 0, hQ12.c 0 1, hQ12.c 1 0, hQ12.c 1 1, hQ12.c 2 0, hQ12.c 2 1⟩, ?_⟩
       refine t4F ?_
       refine t4_hard rfl (by rfl) (fun K hK => ?_)
       go_wp2_with (go_at_call 7; refine (CS.out _ _ _ _ _ _ _ (Iv.rd Js0_p3.out) (Iv.rd Js1'.out) (Iv.rd Js2.out)).mono ?_; rintro e w7 ⟨uW0, uW1, uW2, uW3, uW4, rfl, frW, hb7⟩)
       have Js0_p4 := qH (Iv.mono Js0_p3.out hb7)
       try clear Js0_p3
       have Js1'' := qH (Iv.mono Js1'.out hb7)
       try clear Js1'
       have Js2' := qH (Iv.mono Js2.out hb7)
       try clear Js2
       have hQ13 := hQ12.step hb7
       have hz7 : w6.heap.size ≤ w7.heap.size := by simpa using hb7.size
       have JW := qH (Fresh.iv frW)
       have zW0 := rd_cons rfl (Iv.rd JW.out)
       obtain ⟨rfl, _⟩ := rd_i1 zW0.1
       have zW1 := rd_cons rfl zW0.2
       obtain ⟨aW1, cW1, rfl, _⟩ := rd_list zW1.1
       have zW2 := rd_cons rfl zW1.2
       obtain ⟨aW2, cW2, rfl, _⟩ := rd_list zW2.1
       have zW3 := rd_cons rfl zW2.2
       obtain ⟨aW3, cW3, rfl, _⟩ := rd_list zW3.1
       obtain ⟨aW4, cW4, rfl, _⟩ := rd_list zW3.2
       clear zW0 zW1 zW2 zW3
       clear frW
       try clear Js0_p4
       try clear Js1''
       try clear Js2'
       refine ⟨⟨hQ13.c 0 0, hQ13.c 0 1, hQ13.c 1 0, hQ13.c 1 1, hQ13.c 2 0, hQ13.c 2 1⟩, ?_⟩
       refine t4F ?_
       refine t4_hard rfl (by rfl) (fun K hK => ?_)
       have fF110 := hQ13.freeAt 3 rfl 0
       have cF110 := hQ13.c 3 0
       have fF111 := hQ13.freeAt 3 rfl 1
       have cF111 := hQ13.c 3 1
       have fF112 := hQ13.freeAt 3 rfl 2
       have cF112 := hQ13.c 3 2
       have fF113 := hQ13.freeAt 3 rfl 3
       have cF113 := hQ13.c 3 3
       have fF114 := hQ13.freeAt 3 rfl 4
       have cF114 := hQ13.c 3 4
       go_wp2_with fail
       have hQ5 := (((((hQ13.set (p := [_, _, _]) (by simp <;> omega) 0 (.int .i64 r0)).set (p := [_, _, _]) (by simp <;> omega) 1 (.slice aW1 r1.length cW1)).set (p := [_, _, _]) (by simp <;> omega) 2 (.slice aW2 r2.length cW2)).set (p := [_, _, _]) (by simp <;> omega) 3 (.slice aW3 r3.length cW3)).set (p := [_, _, _]) (by simp <;> omega) 4 (.slice aW4 r4.length cW4))
       have JW' := qH (Iv.setOut (Iv.setOut (Iv.setOut (Iv.setOut (Iv.setOut JW.out (a := ⟨w4.heap.size, 0, none⟩) (by first | (left; simp only; first | done | omega) | (right; simp only; first | done | omega)) (.int .i64 r0)) (a := ⟨w4.heap.size, 1, none⟩) (by first | (left; simp only; first | done | omega) | (right; simp only; first | done | omega)) (.slice aW1 r1.length cW1)) (a := ⟨w4.heap.size, 2, none⟩) (by first | (left; simp only; first | done | omega) | (right; simp only; first | done | omega)) (.slice aW2 r2.length cW2)) (a := ⟨w4.heap.size, 3, none⟩) (by first | (left; simp only; first | done | omega) | (right; simp only; first | done | omega)) (.slice aW3 r3.length cW3)) (a := ⟨w4.heap.size, 4, none⟩) (by first | (left; simp only; first | done | omega) | (right; simp only; first | done | omega)) (.slice aW4 r4.length cW4))
       try clear JW
       clear fF110 cF110 fF111 cF111 fF112 cF112 fF113 cF113 fF114 cF114
       refine ⟨?_, ?_⟩
       · first | (have u9 : w7.cell? ⟨w.heap.size, 0, none⟩ = some (.int .i64 x00) ∧ w7.cell? ⟨w.heap.size, 1, none⟩ = some (.slice a01 x01.length c01) ∧ w7.cell? ⟨w.heap.size + 1, 0, none⟩ = some (.int .i64 x10) ∧ w7.cell? ⟨w.heap.size + 1, 1, none⟩ = some (.slice a11 x11.length c11) ∧ w7.cell? ⟨w.heap.size + 1 + 1, 0, none⟩ = some (.int .i64 x20) ∧ w7.cell? ⟨w.heap.size + 1 + 1, 1, none⟩ = some (.slice a21 x21.length c21) := ⟨hQ13.c 0 0, hQ13.c 0 1, hQ13.c 1 0, hQ13.c 1 1, hQ13.c 2 0, hQ13.c 2 1⟩; with_reducible exact u9) | (have u9 : (((((w7.setCell ⟨w4.heap.size, 0, none⟩ (.int .i64 r0)).setCell ⟨w4.heap.size, 1, none⟩ (.slice aW1 r1.length cW1)).setCell ⟨w4.heap.size, 2, none⟩ (.slice aW2 r2.length cW2)).setCell ⟨w4.heap.size, 3, none⟩ (.slice aW3 r3.length cW3)).setCell ⟨w4.heap.size, 4, none⟩ (.slice aW4 r4.length cW4)).cell? ⟨w.heap.size, 0, none⟩ = some (.int .i64 x00) ∧ (((((w7.setCell ⟨w4.heap.size, 0, none⟩ (.int .i64 r0)).setCell ⟨w4.heap.size, 1, none⟩ (.slice aW1 r1.length cW1)).setCell ⟨w4.heap.size, 2, none⟩ (.slice aW2 r2.length cW2)).setCell ⟨w4.heap.size, 3, none⟩ (.slice aW3 r3.length cW3)).setCell ⟨w4.heap.size, 4, none⟩ (.slice aW4 r4.length cW4)).cell? ⟨w.heap.size, 1, none⟩ = some (.slice a01 x01.length c01) ∧ (((((w7.setCell ⟨w4.heap.size, 0, none⟩ (.int .i64 r0)).setCell ⟨w4.heap.size, 1, none⟩ (.slice aW1 r1.length cW1)).setCell ⟨w4.heap.size, 2, none⟩ (.slice aW2 r2.length cW2)).setCell ⟨w4.heap.size, 3, none⟩ (.slice aW3 r3.length cW3)).setCell ⟨w4.heap.size, 4, none⟩ (.slice aW4 r4.length cW4)).cell? ⟨w.heap.size + 1, 0, none⟩ = some (.int .i64 x10) ∧ (((((w7.setCell ⟨w4.heap.size, 0, none⟩ (.int .i64 r0)).setCell ⟨w4.heap.size, 1, none⟩ (.slice aW1 r1.length cW1)).setCell ⟨w4.heap.size, 2, none⟩ (.slice aW2 r2.length cW2)).setCell ⟨w4.heap.size, 3, none⟩ (.slice aW3 r3.length cW3)).setCell ⟨w4.heap.size, 4, none⟩ (.slice aW4 r4.length cW4)).cell? ⟨w.heap.size + 1, 1, none⟩ = some (.slice a11 x11.length c11) ∧ (((((w7.setCell ⟨w4.heap.size, 0, none⟩ (.int .i64 r0)).setCell ⟨w4.heap.size, 1, none⟩ (.slice aW1 r1.length cW1)).setCell ⟨w4.heap.size, 2, none⟩ (.slice aW2 r2.length cW2)).setCell ⟨w4.heap.size, 3, none⟩ (.slice aW3 r3.length cW3)).setCell ⟨w4.heap.size, 4, none⟩ (.slice aW4 r4.length cW4)).cell? ⟨w.heap.size + 1 + 1, 0, none⟩ = some (.int .i64 x20) ∧ (((((w7.setCell ⟨w4.heap.size, 0, none⟩ (.int .i64 r0)).setCell ⟨w4.heap.size, 1, none⟩ (.slice aW1 r1.length cW1)).setCell ⟨w4.heap.size, 2, none⟩ (.slice aW2 r2.length cW2)).setCell ⟨w4.heap.size, 3, none⟩ (.slice aW3 r3.length cW3)).setCell ⟨w4.heap.size, 4, none⟩ (.slice aW4 r4.length cW4)).cell? ⟨w.heap.size + 1 + 1, 1, none⟩ = some (.slice a21 x21.length c21) := ⟨hQ5.c 0 0, hQ5.c 0 1, hQ5.c 1 0, hQ5.c 1 1, hQ5.c 2 0, hQ5.c 2 1⟩; with_reducible exact u9) | exact ⟨hQ5.c 0 0, hQ5.c 0 1, hQ5.c 1 0, hQ5.c 1 1, hQ5.c 2 0, hQ5.c 2 1⟩ | exact ⟨hQ13.c 0 0, hQ13.c 0 1, hQ13.c 1 0, hQ13.c 1 1, hQ13.c 2 0, hQ13.c 2 1⟩
       refine t4F ?_
       refine t4_nil (NoPanic.normal ?_)
       have hsF11 : St w (((((w7.setCell ⟨w4.heap.size, 0, none⟩ (.int .i64 r0)).setCell ⟨w4.heap.size, 1, none⟩ (.slice aW1 r1.length cW1)).setCell ⟨w4.heap.size, 2, none⟩ (.slice aW2 r2.length cW2)).setCell ⟨w4.heap.size, 3, none⟩ (.slice aW3 r3.length cW3)).setCell ⟨w4.heap.size, 4, none⟩ (.slice aW4 r4.length cW4)).heap.size (((((w7.setCell ⟨w4.heap.size, 0, none⟩ (.int .i64 r0)).setCell ⟨w4.heap.size, 1, none⟩ (.slice aW1 r1.length cW1)).setCell ⟨w4.heap.size, 2, none⟩ (.slice aW2 r2.length cW2)).setCell ⟨w4.heap.size, 3, none⟩ (.slice aW3 r3.length cW3)).setCell ⟨w4.heap.size, 4, none⟩ (.slice aW4 r4.length cW4)) [(w.heap.size, #[.int .i64 x00, .slice a01 x01.length c01], 24), (w.heap.size + 1, #[.int .i64 x10, .slice a11 x11.length c11], 27), (w.heap.size + 1 + 1, #[.int .i64 x20, .slice a21 x21.length c21], 30), (w4.heap.size, #[.int .i64 r0, .slice aW1 r1.length cW1, .slice aW2 r2.length cW2, .slice aW3 r3.length cW3, .slice aW4 r4.length cW4], 37)] := hQ5.up hQ5.hi (Nat.le_refl _)
       have hVF11 : w7.heap.size = (((((w7.setCell ⟨w4.heap.size, 0, none⟩ (.int .i64 r0)).setCell ⟨w4.heap.size, 1, none⟩ (.slice aW1 r1.length cW1)).setCell ⟨w4.heap.size, 2, none⟩ (.slice aW2 r2.length cW2)).setCell ⟨w4.heap.size, 3, none⟩ (.slice aW3 r3.length cW3)).setCell ⟨w4.heap.size, 4, none⟩ (.slice aW4 r4.length cW4)).heap.size := by simp [World.setCell]
       obtain ⟨loUF11, hiUF11, hUF11, JUF11⟩ : ∃ lo hi : Nat, (w3.heap.size ≤ lo ∧ hi ≤ w7.heap.size ∧ (w4.heap.size < lo ∨ hi ≤ w4.heap.size) ∧ w3.heap.size ≤ w4.heap.size ∧ w4.heap.size < w7.heap.size) ∧ Hid (Iv lo hi (((((w7.setCell ⟨w4.heap.size, 0, none⟩ (.int .i64 r0)).setCell ⟨w4.heap.size, 1, none⟩ (.slice aW1 r1.length cW1)).setCell ⟨w4.heap.size, 2, none⟩ (.slice aW2 r2.length cW2)).setCell ⟨w4.heap.size, 3, none⟩ (.slice aW3 r3.length cW3)).setCell ⟨w4.heap.size, 4, none⟩ (.slice aW4 r4.length cW4)) [.int .i64 r0, .slice aW1 r1.length cW1, .slice aW2 r2.length cW2, .slice aW3 r3.length cW3, .slice aW4 r4.length cW4] (r0, r1, r2, r3, r4)) := ⟨w6.heap.size, w7.heap.size, by omega, JW'.out⟩
       rw [hVF11] at hUF11
       clear hVF11 JW'
       generalize hhwUF11 : (((((w7.setCell ⟨w4.heap.size, 0, none⟩ (.int .i64 r0)).setCell ⟨w4.heap.size, 1, none⟩ (.slice aW1 r1.length cW1)).setCell ⟨w4.heap.size, 2, none⟩ (.slice aW2 r2.length cW2)).setCell ⟨w4.heap.size, 3, none⟩ (.slice aW3 r3.length cW3)).setCell ⟨w4.heap.size, 4, none⟩ (.slice aW4 r4.length cW4)) = wUF11 at hsF11 hUF11 JUF11 ⊢
       clear hhwUF11
       generalize hhgUF11 : w4.heap.size = gUF11 at hsF11 hUF11 JUF11 ⊢
       clear hhgUF11
       generalize as01 = zas01 at hsF11 hUF11 JUF11 ⊢
       generalize cs01 = zcs01 at hsF11 hUF11 JUF11 ⊢
       generalize as11 = zas11 at hsF11 hUF11 JUF11 ⊢
       generalize cs11 = zcs11 at hsF11 hUF11 JUF11 ⊢
       generalize as21 = zas21 at hsF11 hUF11 JUF11 ⊢
       generalize cs21 = zcs21 at hsF11 hUF11 JUF11 ⊢
       generalize aW1 = zaW1 at hsF11 hUF11 JUF11 ⊢
       generalize cW1 = zcW1 at hsF11 hUF11 JUF11 ⊢
       generalize aW2 = zaW2 at hsF11 hUF11 JUF11 ⊢
       generalize cW2 = zcW2 at hsF11 hUF11 JUF11 ⊢
       generalize aW3 = zaW3 at hsF11 hUF11 JUF11 ⊢
       generalize cW3 = zcW3 at hsF11 hUF11 JUF11 ⊢
       generalize aW4 = zaW4 at hsF11 hUF11 JUF11 ⊢
       generalize cW4 = zcW4 at hsF11 hUF11 JUF11 ⊢
       revert JUF11
       revert hUF11
       revert hsF11
       revert zcW4
       revert zaW4
       revert zcW3
       revert zaW3
       revert zcW2
       revert zaW2
       revert zcW1
       revert zaW1
       revert zcs21
       revert zas21
       revert zcs11
       revert zas11
       revert zcs01
       revert zas01
       revert hiUF11
       revert loUF11
       revert gUF11
       revert wUF11
       exact HJ.get
   · refine t4_hard rfl (by rfl) (fun K hK => ?_)
     go_wp2_with fail
     have hQ14 := hQ0.alloc #[.int .i64 0, .slice none 0 0, .slice none 0 0, .slice none 0 0, .slice none 0 0] 37 rfl
     have hzF11A5 : wF11.heap.size + 1 ≤ (wF11.alloc (.cells #[.int .i64 0, .slice none 0 0, .slice none 0 0, .slice none 0 0, .slice none 0 0] 37)).heap.size := by simp
     generalize hgenF11A5 : wF11.alloc (.cells #[.int .i64 0, .slice none 0 0, .slice none 0 0, .slice none 0 0, .slice none 0 0] 37) = wF11A5 at *
     clear hgenF11A5
     refine ⟨⟨hQ14.c 0 0, hQ14.c 0 1, hQ14.c 1 0, hQ14.c 1 1, hQ14.c 2 0, hQ14.c 2 1⟩, ?_⟩
     refine t4F ?_
     refine t4_hard rfl (by rfl) (fun K hK => ?_)
     go_wp2_with (go_at_call 8; refine (toTemplate_b (x00, x01) _ _ _ (Rd.mono H0.out hQ14.bel) gc0).mono ?_; rintro e w4 ⟨us00, us01, rfl, frs0, hb4⟩)
     have hQ15 := hQ14.step hb4
     have hz4 : wF11A5.heap.size ≤ w4.heap.size := by simpa using hb4.size
     have Js0 := qH (Fresh.iv frs0)
     have zs00 := rd_cons rfl (Iv.rd Js0.out)
     obtain ⟨rfl, _⟩ := rd_i1 zs00.1
     obtain ⟨as01, cs01, rfl, _⟩ := rd_list zs00.2
     clear zs00
     clear frs0
     refine ⟨⟨hQ15.c 0 0, hQ15.c 0 1, hQ15.c 1 0, hQ15.c 1 1, hQ15.c 2 0, hQ15.c 2 1⟩, ?_⟩
     refine t4F ?_
     refine t4_hard rfl (by rfl) (fun K hK => ?_)
     go_wp2_with (go_at_call 9; refine (toInstance_b (x10, x11) _ _ _ (Rd.mono H1.out hQ15.bel) gc1).mono ?_; rintro e w5 ⟨us10, us11, rfl, frs1, hb5⟩)
     have Js0' := qH (Iv.mono Js0.out hb5)
     try clear Js0
     have hQ16 := hQ15.step hb5
     have hz5 : w4.heap.size ≤ w5.heap.size := by simpa using hb5.size
     have Js1 := qH (Fresh.iv frs1)
     have zs10 := rd_cons rfl (Iv.rd Js1.out)
     obtain ⟨rfl, _⟩ := rd_i1 zs10.1
     obtain ⟨as11, cs11, rfl, _⟩ := rd_list zs10.2
     clear zs10
     clear frs1
     refine ⟨⟨hQ16.c 0 0, hQ16.c 0 1, hQ16.c 1 0, hQ16.c 1 1, hQ16.c 2 0, hQ16.c 2 1⟩, ?_⟩
     refine t4F ?_
     refine t4_hard rfl (by rfl) (fun K hK => ?_)
     go_wp2_with (go_at_call 10; refine (toOp_b (x20, x21) _ _ _ (Rd.mono H2.out hQ16.bel) gc2).mono ?_; rintro e w6 ⟨us20, us21, rfl, frs2, hb6⟩)
     have Js0'' := qH (Iv.mono Js0'.out hb6)
     try clear Js0'
     have Js1' := qH (Iv.mono Js1.out hb6)
     try clear Js1
     have hQ17 := hQ16.step hb6
     have hz6 : w5.heap.size ≤ w6.heap.size := by simpa using hb6.size
     have Js2 := qH (Fresh.iv frs2)
     have zs20 := rd_cons rfl (Iv.rd Js2.out)
     obtain ⟨rfl, _⟩ := rd_i1 zs20.1
     obtain ⟨as21, cs21, rfl, _⟩ := rd_list zs20.2
     clear zs20
     clear frs2
     refine ⟨⟨hQ17.c 0 0, hQ17.c 0 1, hQ17.c 1 0, hQ17.c 1 1, hQ17.c 2 0, hQ17.c 2 1⟩, ?_⟩
     refine t4F ?_
     refine t4_hard rfl (by rfl) (fun K hK => ?_)
     go_wp2_with (go_at_call 7; refine (CS.out _ _ _ _ _ _ _ (Iv.rd Js0''.out) (Iv.rd Js1'.out) (Iv.rd Js2.out)).mono ?_; rintro e w7 ⟨uW0, uW1, uW2, uW3, uW4, rfl, frW, hb7⟩)
     have Js0_p3 := qH (Iv.mono Js0''.out hb7)
     try clear Js0''
     have Js1'' := qH (Iv.mono Js1'.out hb7)
     try clear Js1'
     have Js2' := qH (Iv.mono Js2.out hb7)
     try clear Js2
     have hQ18 := hQ17.step hb7
     have hz7 : w6.heap.size ≤ w7.heap.size := by simpa using hb7.size
     have JW := qH (Fresh.iv frW)
     have zW0 := rd_cons rfl (Iv.rd JW.out)
     obtain ⟨rfl, _⟩ := rd_i1 zW0.1
     have zW1 := rd_cons rfl zW0.2
     obtain ⟨aW1, cW1, rfl, _⟩ := rd_list zW1.1
     have zW2 := rd_cons rfl zW1.2
     obtain ⟨aW2, cW2, rfl, _⟩ := rd_list zW2.1
     have zW3 := rd_cons rfl zW2.2
     obtain ⟨aW3, cW3, rfl, _⟩ := rd_list zW3.1
     obtain ⟨aW4, cW4, rfl, _⟩ := rd_list zW3.2
     clear zW0 zW1 zW2 zW3
     clear frW
     try clear Js0_p3
     try clear Js1''
     try clear Js2'
     refine ⟨⟨hQ18.c 0 0, hQ18.c 0 1, hQ18.c 1 0, hQ18.c 1 1, hQ18.c 2 0, hQ18.c 2 1⟩, ?_⟩
     refine t4F ?_
     refine t4_hard rfl (by rfl) (fun K hK => ?_)
     have fF110 := hQ18.freeAt 3 rfl 0
     have cF110 := hQ18.c 3 0
     have fF111 := hQ18.freeAt 3 rfl 1
     have cF111 := hQ18.c 3 1
     have fF112 := hQ18.freeAt 3 rfl 2
     have cF112 := hQ18.c 3 2
     have fF113 := hQ18.freeAt 3 rfl 3
     have cF113 := hQ18.c 3 3
     have fF114 := hQ18.freeAt 3 rfl 4
     have cF114 := hQ18.c 3 4
     go_wp2_with fail
     have hQ6 := (((((hQ18.set (p := [_, _, _]) (by simp <;> omega) 0 (.int .i64 r0)).set (p := [_, _, _]) (by simp <;> omega) 1 (.slice aW1 r1.length cW1)).set (p := [_, _, _]) (by simp <;> omega) 2 (.slice aW2 r2.length cW2)).set (p := [_, _, _]) (by simp <;> omega) 3 (.slice aW3 r3.length cW3)).set (p := [_, _, _]) (by simp <;> omega) 4 (.slice aW4 r4.length cW4))
     have JW' := qH (Iv.setOut (Iv.setOut (Iv.setOut (Iv.setOut (Iv.setOut JW.out (a := ⟨wF11.heap.size, 0, none⟩) (by first | (left; simp only; first | done | omega) | (right; simp only; first | done | omega)) (.int .i64 r0)) (a := ⟨wF11.heap.size, 1, none⟩) (by first | (left; simp only; first | done | omega) | (right; simp only; first | done | omega)) (.slice aW1 r1.length cW1)) (a := ⟨wF11.heap.size, 2, none⟩) (by first | (left; simp only; first | done | omega) | (right; simp only; first | done | omega)) (.slice aW2 r2.length cW2)) (a := ⟨wF11.heap.size, 3, none⟩) (by first | (left; simp only; first | done | omega) | (right; simp only; first | done | omega)) (.slice aW3 r3.length cW3)) (a := ⟨wF11.heap.size, 4, none⟩) (by first | (left; simp only; first | done | omega) | (right; simp only; first | done | omega)) (.slice aW4 r4.length cW4))
     try clear JW
     clear fF110 cF110 fF111 cF111 fF112 cF112 fF113 cF113 fF114 cF114
     refine ⟨?_, ?_⟩
     · first | (have u9 : w7.cell? ⟨w.heap.size, 0, none⟩ = some (.int .i64 x00) ∧ w7.cell? ⟨w.heap.size, 1, none⟩ = some (.slice a01 x01.length c01) ∧ w7.cell? ⟨w.heap.size + 1, 0, none⟩ = some (.int .i64 x10) ∧ w7.cell? ⟨w.heap.size + 1, 1, none⟩ = some (.slice a11 x11.length c11) ∧ w7.cell? ⟨w.heap.size + 1 + 1, 0, none⟩ = some (.int .i64 x20) ∧ w7.cell? ⟨w.heap.size + 1 + 1, 1, none⟩ = some (.slice a21 x21.length c21) := ⟨hQ18.c 0 0, hQ18.c 0 1, hQ18.c 1 0, hQ18.c 1 1, hQ18.c 2 0, hQ18.c 2 1⟩; with_reducible exact u9) | (have u9 : (((((w7.setCell ⟨wF11.heap.size, 0, none⟩ (.int .i64 r0)).setCell ⟨wF11.heap.size, 1, none⟩ (.slice aW1 r1.length cW1)).setCell ⟨wF11.heap.size, 2, none⟩ (.slice aW2 r2.length cW2)).setCell ⟨wF11.heap.size, 3, none⟩ (.slice aW3 r3.length cW3)).setCell ⟨wF11.heap.size, 4, none⟩ (.slice aW4 r4.length cW4)).cell? ⟨w.heap.size, 0, none⟩ = some (.int .i64 x00) ∧ (((((w7.setCell ⟨wF11.heap.size, 0, none⟩ (.int .i64 r0)).setCell ⟨wF11.heap.size, 1, none⟩ (.slice aW1 r1.length cW1)).setCell ⟨wF11.heap.size, 2, none⟩ (.slice aW2 r2.length cW2)).setCell ⟨wF11.heap.size, 3, none⟩ (.slice aW3 r3.length cW3)).setCell ⟨wF11.heap.size, 4, none⟩ (.slice aW4 r4.length cW4)).cell? ⟨w.heap.size, 1, none⟩ = some (.slice a01 x01.length c01) ∧ (((((w7.setCell ⟨wF11.heap.size, 0, none⟩ (.int .i64 r0)).setCell ⟨wF11.heap.size, 1, none⟩ (.slice aW1 r1.length cW1)).setCell ⟨wF11.heap.size, 2, none⟩ (.slice aW2 r2.length cW2)).setCell ⟨wF11.heap.size, 3, none⟩ (.slice aW3 r3.length cW3)).setCell ⟨wF11.heap.size, 4, none⟩ (.slice aW4 r4.length cW4)).cell? ⟨w.heap.size + 1, 0, none⟩ = some (.int .i64 x10) ∧ (((((w7.setCell ⟨wF11.heap.size, 0, none⟩ (.int .i64 r0)).setCell ⟨wF11.heap.size, 1, none⟩ (.slice aW1 r1.length cW1)).setCell ⟨wF11.heap.size, 2, none⟩ (.slice aW2 r2.length cW2)).setCell ⟨wF11.heap.size, 3, none⟩ (.slice aW3 r3.length cW3)).setCell ⟨wF11.heap.size, 4, none⟩ (.slice aW4 r4.length cW4)).cell? ⟨w.heap.size + 1, 1, none⟩ = some (.slice a11 x11.length c11) ∧ (((((w7.setCell ⟨wF11.heap.size, 0, none⟩ (.int .i64 r0)).setCell ⟨wF11.heap.size, 1, none⟩ (.slice aW1 r1.length cW1)).setCell ⟨wF11.heap.size, 2, none⟩ (.slice aW2 r2.length cW2)).setCell ⟨wF11.heap.size, 3, none⟩ (.slice aW3 r3.length cW3)).setCell ⟨wF11.heap.size, 4, none⟩ (.slice aW4 r4.length cW4)).cell? ⟨w.heap.size + 1 + 1, 0, none⟩ = some (.int .i64 x20) ∧ (((((w7.setCell ⟨wF11.heap.size, 0, none⟩ (.int .i64 r0)).setCell ⟨wF11.heap.size, 1, none⟩ (.slice aW1 r1.length cW1)).setCell ⟨wF11.heap.size, 2, none⟩ (.slice aW2 r2.length cW2)).setCell ⟨wF11.heap.size, 3, none⟩ (.slice aW3 r3.length cW3)).setCell ⟨wF11.heap.size, 4, none⟩ (.slice aW4 r4.length cW4)).cell? ⟨w.heap.size + 1 + 1, 1, none⟩ = some (.slice a21 x21.length c21) := ⟨hQ6.c 0 0, hQ6.c 0 1, hQ6.c 1 0, hQ6.c 1 1, hQ6.c 2 0, hQ6.c 2 1⟩; with_reducible exact u9) | exact ⟨hQ6.c 0 0, hQ6.c 0 1, hQ6.c 1 0, hQ6.c 1 1, hQ6.c 2 0, hQ6.c 2 1⟩ | exact ⟨hQ18.c 0 0, hQ18.c 0 1, hQ18.c 1 0, hQ18.c 1 1, hQ18.c 2 0, hQ18.c 2 1⟩
     refine t4F ?_
     refine t4_nil (NoPanic.normal ?_)
     have hsF11 : St w (((((w7.setCell ⟨wF11.heap.size, 0, none⟩ (.int .i64 r0)).setCell ⟨wF11.heap.size, 1, none⟩ (.slice aW1 r1.length cW1)).setCell ⟨wF11.heap.size, 2, none⟩ (.slice aW2 r2.length cW2)).setCell ⟨wF11.heap.size, 3, none⟩ (.slice aW3 r3.length cW3)).setCell ⟨wF11.heap.size, 4, none⟩ (.slice aW4 r4.length cW4)).heap.size (((((w7.setCell ⟨wF11.heap.size, 0, none⟩ (.int .i64 r0)).setCell ⟨wF11.heap.size, 1, none⟩ (.slice aW1 r1.length cW1)).setCell ⟨wF11.heap.size, 2, none⟩ (.slice aW2 r2.length cW2)).setCell ⟨wF11.heap.size, 3, none⟩ (.slice aW3 r3.length cW3)).setCell ⟨wF11.heap.size, 4, none⟩ (.slice aW4 r4.length cW4)) [(w.heap.size, #[.int .i64 x00, .slice a01 x01.length c01], 24), (w.heap.size + 1, #[.int .i64 x10, .slice a11 x11.length c11], 27), (w.heap.size + 1 + 1, #[.int .i64 x20, .slice a21 x21.length c21], 30), (wF11.heap.size, #[.int .i64 r0, .slice aW1 r1.length cW1, .slice aW2 r2.length cW2, .slice aW3 r3.length cW3, .slice aW4 r4.length cW4], 37)] := hQ6.up hQ6.hi (Nat.le_refl _)
     have hVF11 : w7.heap.size = (((((w7.setCell ⟨wF11.heap.size, 0, none⟩ (.int .i64 r0)).setCell ⟨wF11.heap.size, 1, none⟩ (.slice aW1 r1.length cW1)).setCell ⟨wF11.heap.size, 2, none⟩ (.slice aW2 r2.length cW2)).setCell ⟨wF11.heap.size, 3, none⟩ (.slice aW3 r3.length cW3)).setCell ⟨wF11.heap.size, 4, none⟩ (.slice aW4 r4.length cW4)).heap.size := by simp [World.setCell]
     obtain ⟨loUF11, hiUF11, hUF11, JUF11⟩ : ∃ lo hi : Nat, (w3.heap.size ≤ lo ∧ hi ≤ w7.heap.size ∧ (wF11.heap.size < lo ∨ hi ≤ wF11.heap.size) ∧ w3.heap.size ≤ wF11.heap.size ∧ wF11.heap.size < w7.heap.size) ∧ Hid (Iv lo hi (((((w7.setCell ⟨wF11.heap.size, 0, none⟩ (.int .i64 r0)).setCell ⟨wF11.heap.size, 1, none⟩ (.slice aW1 r1.length cW1)).setCell ⟨wF11.heap.size, 2, none⟩ (.slice aW2 r2.length cW2)).setCell ⟨wF11.heap.size, 3, none⟩ (.slice aW3 r3.length cW3)).setCell ⟨wF11.heap.size, 4, none⟩ (.slice aW4 r4.length cW4)) [.int .i64 r0, .slice aW1 r1.length cW1, .slice aW2 r2.length cW2, .slice aW3 r3.length cW3, .slice aW4 r4.length cW4] (r0, r1, r2, r3, r4)) := ⟨w6.heap.size, w7.heap.size, by omega, JW'.out⟩
     rw [hVF11] at hUF11
     clear hVF11 JW'
     generalize hhwUF11 : (((((w7.setCell ⟨wF11.heap.size, 0, none⟩ (.int .i64 r0)).setCell ⟨wF11.heap.size, 1, none⟩ (.slice aW1 r1.length cW1)).setCell ⟨wF11.heap.size, 2, none⟩ (.slice aW2 r2.length cW2)).setCell ⟨wF11.heap.size, 3, none⟩ (.slice aW3 r3.length cW3)).setCell ⟨wF11.heap.size, 4, none⟩ (.slice aW4 r4.length cW4)) = wUF11 at hsF11 hUF11 JUF11 ⊢
     clear hhwUF11
     generalize hhgUF11 : wF11.heap.size = gUF11 at hsF11 hUF11 JUF11 ⊢
     clear hhgUF11
     generalize as01 = zas01 at hsF11 hUF11 JUF11 ⊢
     generalize cs01 = zcs01 at hsF11 hUF11 JUF11 ⊢
     generalize as11 = zas11 at hsF11 hUF11 JUF11 ⊢
     generalize cs11 = zcs11 at hsF11 hUF11 JUF11 ⊢
     generalize as21 = zas21 at hsF11 hUF11 JUF11 ⊢
     generalize cs21 = zcs21 at hsF11 hUF11 JUF11 ⊢
     generalize aW1 = zaW1 at hsF11 hUF11 JUF11 ⊢
     generalize cW1 = zcW1 at hsF11 hUF11 JUF11 ⊢
     generalize aW2 = zaW2 at hsF11 hUF11 JUF11 ⊢
     generalize cW2 = zcW2 at hsF11 hUF11 JUF11 ⊢
     generalize aW3 = zaW3 at hsF11 hUF11 JUF11 ⊢
     generalize cW3 = zcW3 at hsF11 hUF11 JUF11 ⊢
     generalize aW4 = zaW4 at hsF11 hUF11 JUF11 ⊢
     generalize cW4 = zcW4 at hsF11 hUF11 JUF11 ⊢
     revert JUF11
     revert hUF11
     revert hsF11
     revert zcW4
     revert zaW4
     revert zcW3
     revert zaW3
     revert zcW2
     revert zaW2
     revert zcW1
     revert zaW1
     revert zcs21
     revert zas21
     revert zcs11
     revert zas11
     revert zcs01
     revert zas01
     revert hiUF11
     revert loUF11
     revert gUF11
     revert wUF11
     exact HJ.get
 intro wUF11 gUF11 loUF11 hiUF11 as01 cs01 as11 cs11 as21 cs21 aW1 cW1 aW2 cW2 aW3 cW3 aW4 cW4
 intro hsF11 hUF11 JWF11
 obtain ⟨h1F11, h2F11, h3F11, h4F11, h5F11⟩ := hUF11
 obtain ⟨qa00, qa01, qa10, qa11, qa20, qa21, qw0, qw1⟩ := hsF11.c8 0 0 0 1 1 0 1 1 2 0 2 1 3 0 3 1
 obtain ⟨qw2, qw3, qw4⟩ := hsF11.c3 3 2 3 3 3 4
 go_wp2_with fail
 refine (toTemplate_b (x00, x01) _ _ _ (Rd.mono H0.out hsF11.bel) gc0).mono ?_
 rintro e w8 ⟨ux00, ux01, rfl, frx0, hb8⟩
 have JWF11' := qH (Iv.mono JWF11.out hb8)
 clear JWF11
 have hsF11s := hsF11.step hb8
 have hz4 : wUF11.heap.size ≤ w8.heap.size := by simpa using hb8.size
 have Jx0 := qH (Fresh.iv frx0)
 have zx00 := rd_cons rfl (Iv.rd Jx0.out)
 obtain ⟨rfl, _⟩ := rd_i1 zx00.1
 obtain ⟨ax01, cx01, rfl, _⟩ := rd_list zx00.2
 clear zx00
 clear frx0
 clear qa00 qa01 qa10 qa11 qa20 qa21 qw0 qw1 qw2 qw3 qw4
 obtain ⟨qa00, qa01, qa10, qa11, qa20, qa21, qw0, qw1⟩ := hsF11s.c8 0 0 0 1 1 0 1 1 2 0 2 1 3 0 3 1
 obtain ⟨qw2, qw3, qw4⟩ := hsF11s.c3 3 2 3 3 3 4
 have hsF11sa := hsF11s.alloc #[.int .i64 x00, .slice ax01 x01.length cx01] 42 rfl
 have JWF11'' := qH (Iv.mono JWF11'.out (belowA _ (.cells #[.int .i64 x00, .slice ax01 x01.length cx01] 42)))
 clear JWF11'
 have Jx0' := qH (Iv.mono Jx0.out (belowA _ (.cells #[.int .i64 x00, .slice ax01 x01.length cx01] 42)))
 clear Jx0
 clear qa00 qa01 qa10 qa11 qa20 qa21 qw0 qw1 qw2 qw3 qw4
 obtain ⟨qa00, qa01, qa10, qa11, qa20, qa21, qw0, qw1⟩ := hsF11sa.c8 0 0 0 1 1 0 1 1 2 0 2 1 3 0 3 1
 obtain ⟨qw2, qw3, qw4, qx00, qx01⟩ := hsF11sa.c5 3 2 3 3 3 4 4 0 4 1
 go_wp2_with fail
 refine (toInstance_b (x10, x11) _ _ _ (Rd.mono H1.out hsF11sa.bel) gc1).mono ?_
 rintro e w9 ⟨ux10, ux11, rfl, frx1, hb9⟩
 have JWF11_p3 := qH (Iv.mono JWF11''.out hb9)
 clear JWF11''
 have Jx0'' := qH (Iv.mono Jx0'.out hb9)
 clear Jx0'
 have hsF11sas := hsF11sa.step hb9
 have hz5 : w8.heap.size + 1 ≤ w9.heap.size := by simpa using hb9.size
 have Jx1 := qH (Fresh.iv frx1)
 have zx10 := rd_cons rfl (Iv.rd Jx1.out)
 obtain ⟨rfl, _⟩ := rd_i1 zx10.1
 obtain ⟨ax11, cx11, rfl, _⟩ := rd_list zx10.2
 clear zx10
 clear frx1
 clear qa00 qa01 qa10 qa11 qa20 qa21 qw0 qw1 qw2 qw3 qw4 qx00 qx01
 obtain ⟨qa00, qa01, qa10, qa11, qa20, qa21, qw0, qw1⟩ := hsF11sas.c8 0 0 0 1 1 0 1 1 2 0 2 1 3 0 3 1
 obtain ⟨qw2, qw3, qw4, qx00, qx01⟩ := hsF11sas.c5 3 2 3 3 3 4 4 0 4 1
 have hQ1 := hsF11sas.alloc #[.int .i64 x10, .slice ax11 x11.length cx11] 46 rfl
 have JWF11_p4 := qH (Iv.mono JWF11_p3.out (belowA _ (.cells #[.int .i64 x10, .slice ax11 x11.length cx11] 46)))
 clear JWF11_p3
 have Jx0_p3 := qH (Iv.mono Jx0''.out (belowA _ (.cells #[.int .i64 x10, .slice ax11 x11.length cx11] 46)))
 clear Jx0''
 have Jx1' := qH (Iv.mono Jx1.out (belowA _ (.cells #[.int .i64 x10, .slice ax11 x11.length cx11] 46)))
 clear Jx1
 clear qa00 qa01 qa10 qa11 qa20 qa21 qw0 qw1 qw2 qw3 qw4 qx00 qx01
 obtain ⟨qa00, qa01, qa10, qa11, qa20, qa21, qw0, qw1⟩ := hQ1.c8 0 0 0 1 1 0 1 1 2 0 2 1 3 0 3 1
 obtain ⟨qw2, qw3, qw4, qx00, qx01, qx10, qx11⟩ := hQ1.c7 3 2 3 3 3 4 4 0 4 1 5 0 5 1
 go_wp2_with fail
 refine (toOp_b (x20, x21) _ _ _ (Rd.mono H2.out hQ1.bel) gc2).mono ?_
 rintro e w10 ⟨ux20, ux21, rfl, frx2, hb10⟩
 have JWF11_p5 := qH (Iv.mono JWF11_p4.out hb10)
 clear JWF11_p4
 have Jx0_p4 := qH (Iv.mono Jx0_p3.out hb10)
 clear Jx0_p3
 have Jx1'' := qH (Iv.mono Jx1'.out hb10)
 clear Jx1'
 have hQ19 := hQ1.step hb10
 have hz6 : w9.heap.size + 1 ≤ w10.heap.size := by simpa using hb10.size
 have Jx2 := qH (Fresh.iv frx2)
 have zx20 := rd_cons rfl (Iv.rd Jx2.out)
 obtain ⟨rfl, _⟩ := rd_i1 zx20.1
 obtain ⟨ax21, cx21, rfl, _⟩ := rd_list zx20.2
 clear zx20
 clear frx2
 clear qa00 qa01 qa10 qa11 qa20 qa21 qw0 qw1 qw2 qw3 qw4 qx00 qx01 qx10 qx11
 obtain ⟨qa00, qa01, qa10, qa11, qa20, qa21, qw0, qw1⟩ := hQ19.c8 0 0 0 1 1 0 1 1 2 0 2 1 3 0 3 1
 obtain ⟨qw2, qw3, qw4, qx00, qx01, qx10, qx11⟩ := hQ19.c7 3 2 3 3 3 4 4 0 4 1 5 0 5 1
 have hQ20 := hQ19.alloc #[.int .i64 x20, .slice ax21 x21.length cx21] 48 rfl
 have JWF11_p6 := qH (Iv.mono JWF11_p5.out (belowA _ (.cells #[.int .i64 x20, .slice ax21 x21.length cx21] 48)))
 clear JWF11_p5
 have Jx0_p5 := qH (Iv.mono Jx0_p4.out (belowA _ (.cells #[.int .i64 x20, .slice ax21 x21.length cx21] 48)))
 clear Jx0_p4
 have Jx1_p3 := qH (Iv.mono Jx1''.out (belowA _ (.cells #[.int .i64 x20, .slice ax21 x21.length cx21] 48)))
 clear Jx1''
 have Jx2' := qH (Iv.mono Jx2.out (belowA _ (.cells #[.int .i64 x20, .slice ax21 x21.length cx21] 48)))
 clear Jx2
 clear qa00 qa01 qa10 qa11 qa20 qa21 qw0 qw1 qw2 qw3 qw4 qx00 qx01 qx10 qx11
 obtain ⟨qa00, qa01, qa10, qa11, qa20, qa21, qw0, qw1⟩ := hQ20.c8 0 0 0 1 1 0 1 1 2 0 2 1 3 0 3 1
 obtain ⟨qw2, qw3, qw4, qx00, qx01, qx10, qx11, qx20⟩ := hQ20.c8 3 2 3 3 3 4 4 0 4 1 5 0 5 1 6 0
 have qx21 := hQ20.c 6 1
 go_wp2_with fail
 refine (CI.out _ _ _ _ _ _ _ (Iv.rd Jx0_p5.out) (Iv.rd Jx1_p3.out) (Iv.rd Jx2'.out)).mono ?_
 rintro e w11 ⟨uG0, uG1, uG2, uG3, uG4, rfl, frG, hb11⟩
 have JWF11_p7 := qH (Iv.mono JWF11_p6.out hb11)
 clear JWF11_p6
 have Jx0_p6 := qH (Iv.mono Jx0_p5.out hb11)
 clear Jx0_p5
 have Jx1_p4 := qH (Iv.mono Jx1_p3.out hb11)
 clear Jx1_p3
 have Jx2'' := qH (Iv.mono Jx2'.out hb11)
 clear Jx2'
 have hQ21 := hQ20.step hb11
 have hz7 : w10.heap.size + 1 ≤ w11.heap.size := by simpa using hb11.size
 have JG := qH (Fresh.iv frG)
 have zG0 := rd_cons rfl (Iv.rd JG.out)
 obtain ⟨rfl, _⟩ := rd_i1 zG0.1
 have zG1 := rd_cons rfl zG0.2
 obtain ⟨aG1, cG1, rfl, _⟩ := rd_list zG1.1
 have zG2 := rd_cons rfl zG1.2
 obtain ⟨aG2, cG2, rfl, _⟩ := rd_list zG2.1
 have zG3 := rd_cons rfl zG2.2
 obtain ⟨aG3, cG3, rfl, _⟩ := rd_list zG3.1
 obtain ⟨aG4, cG4, rfl, _⟩ := rd_list zG3.2
 clear zG0 zG1 zG2 zG3
 clear frG
 clear qa00 qa01 qa10 qa11 qa20 qa21 qw0 qw1 qw2 qw3 qw4 qx00 qx01 qx10 qx11 qx20 qx21
 obtain ⟨qa00, qa01, qa10, qa11, qa20, qa21, qw0, qw1⟩ := hQ21.c8 0 0 0 1 1 0 1 1 2 0 2 1 3 0 3 1
 obtain ⟨qw2, qw3, qw4, qx00, qx01, qx10, qx11, qx20⟩ := hQ21.c8 3 2 3 3 3 4 4 0 4 1 5 0 5 1 6 0
 have qx21 := hQ21.c 6 1
 have hQ22 := hQ21.alloc #[.int .i64 r0, .slice aG1 r1.length cG1, .slice aG2 r2.length cG2, .slice aG3 r3.length cG3, .slice aG4 r4.length cG4] 37 rfl
 have JWF11_p8 := qH (Iv.mono JWF11_p7.out (belowA _ (.cells #[.int .i64 r0, .slice aG1 r1.length cG1, .slice aG2 r2.length cG2, .slice aG3 r3.length cG3, .slice aG4 r4.length cG4] 37)))
 clear JWF11_p7
 have Jx0_p7 := qH (Iv.mono Jx0_p6.out (belowA _ (.cells #[.int .i64 r0, .slice aG1 r1.length cG1, .slice aG2 r2.length cG2, .slice aG3 r3.length cG3, .slice aG4 r4.length cG4] 37)))
 clear Jx0_p6
 have Jx1_p5 := qH (Iv.mono Jx1_p4.out (belowA _ (.cells #[.int .i64 r0, .slice aG1 r1.length cG1, .slice aG2 r2.length cG2, .slice aG3 r3.length cG3, .slice aG4 r4.length cG4] 37)))
 clear Jx1_p4
 have Jx2_p3 := qH (Iv.mono Jx2''.out (belowA _ (.cells #[.int .i64 r0, .slice aG1 r1.length cG1, .slice aG2 r2.length cG2, .slice aG3 r3.length cG3, .slice aG4 r4.length cG4] 37)))
 clear Jx2''
 have JG' := qH (Iv.mono JG.out (belowA _ (.cells #[.int .i64 r0, .slice aG1 r1.length cG1, .slice aG2 r2.length cG2, .slice aG3 r3.length cG3, .slice aG4 r4.length cG4] 37)))
 clear JG
 clear qa00 qa01 qa10 qa11 qa20 qa21 qw0 qw1 qw2 qw3 qw4 qx00 qx01 qx10 qx11 qx20 qx21
 obtain ⟨qa00, qa01, qa10, qa11, qa20, qa21, qw0, qw1⟩ := hQ22.c8 0 0 0 1 1 0 1 1 2 0 2 1 3 0 3 1
 obtain ⟨qw2, qw3, qw4, qx00, qx01, qx10, qx11, qx20⟩ := hQ22.c8 3 2 3 3 3 4 4 0 4 1 5 0 5 1 6 0
 obtain ⟨qx21, qg0, qg1, qg2, qg3, qg4⟩ := hQ22.c6 6 1 7 0 7 1 7 2 7 3 7 4
 go_wp2_with fail
 refine (eqVerdict_s (r0, r1, r2, r3, r4) _ _ _ _ _ _ _ _ _ _ _ (Iv.rd JG'.out) (Iv.rd JWF11_p8.out)).mono ?_
 rintro e w12 ⟨rfl, hb12⟩
 have JWF11_p9 := qH (Iv.mono JWF11_p8.out hb12)
 clear JWF11_p8
 have Jx0_p8 := qH (Iv.mono Jx0_p7.out hb12)
 clear Jx0_p7
 have Jx1_p6 := qH (Iv.mono Jx1_p5.out hb12)
 clear Jx1_p5
 have Jx2_p4 := qH (Iv.mono Jx2_p3.out hb12)
 clear Jx2_p3
 have JG'' := qH (Iv.mono JG'.out hb12)
 clear JG'
 have hQ23 := hQ22.step hb12
 have hz8 : w11.heap.size + 1 ≤ w12.heap.size := by simpa using hb12.size
 clear qa00 qa01 qa10 qa11 qa20 qa21 qw0 qw1 qw2 qw3 qw4 qx00 qx01 qx10 qx11 qx20 qx21 qg0 qg1 qg2 qg3 qg4
 obtain ⟨qa00, qa01, qa10, qa11, qa20, qa21, qw0, qw1⟩ := hQ23.c8 0 0 0 1 1 0 1 1 2 0 2 1 3 0 3 1
 obtain ⟨qw2, qw3, qw4, qx00, qx01, qx10, qx11, qx20⟩ := hQ23.c8 3 2 3 3 3 4 4 0 4 1 5 0 5 1 6 0
 obtain ⟨qx21, qg0, qg1, qg2, qg3, qg4⟩ := hQ23.c6 6 1 7 0 7 1 7 2 7 3 7 4
 have hcode : (code != code) = false := by simp
 go_wp2_with fail
 refine elR (fun w' => w'.cell? ⟨w.heap.size, 0, none⟩ = some (.int .i64 x00) ∧ w'.cell? ⟨w.heap.size, 1, none⟩ = some (.slice a01 x01.length c01) ∧ w'.cell? ⟨w.heap.size + 1, 0, none⟩ = some (.int .i64 x10) ∧ w'.cell? ⟨w.heap.size + 1, 1, none⟩ = some (.slice a11 x11.length c11) ∧ w'.cell? ⟨w.heap.size + 1 + 1, 0, none⟩ = some (.int .i64 x20) ∧ w'.cell? ⟨w.heap.size + 1 + 1, 1, none⟩ = some (.slice a21 x21.length c21) ∧ w'.cell? ⟨gUF11, 0, none⟩ = some (.int .i64 r0) ∧ w'.cell? ⟨gUF11, 1, none⟩ = some (.slice aW1 r1.length cW1) ∧ w'.cell? ⟨gUF11, 2, none⟩ = some (.slice aW2 r2.length cW2) ∧ w'.cell? ⟨gUF11, 3, none⟩ = some (.slice aW3 r3.length cW3) ∧ w'.cell? ⟨gUF11, 4, none⟩ = some (.slice aW4 r4.length cW4) ∧ w'.cell? ⟨w8.heap.size, 0, none⟩ = some (.int .i64 x00) ∧ w'.cell? ⟨w8.heap.size, 1, none⟩ = some (.slice ax01 x01.length cx01) ∧ w'.cell? ⟨w9.heap.size, 0, none⟩ = some (.int .i64 x10) ∧ w'.cell? ⟨w9.heap.size, 1, none⟩ = some (.slice ax11 x11.length cx11) ∧ w'.cell? ⟨w10.heap.size, 0, none⟩ = some (.int .i64 x20) ∧ w'.cell? ⟨w10.heap.size, 1, none⟩ = some (.slice ax21 x21.length cx21) ∧ w'.cell? ⟨w11.heap.size, 0, none⟩ = some (.int .i64 r0) ∧ w'.cell? ⟨w11.heap.size, 1, none⟩ = some (.slice aG1 r1.length cG1) ∧ w'.cell? ⟨w11.heap.size, 2, none⟩ = some (.slice aG2 r2.length cG2) ∧ w'.cell? ⟨w11.heap.size, 3, none⟩ = some (.slice aG3 r3.length cG3) ∧ w'.cell? ⟨w11.heap.size, 4, none⟩ = some (.slice aG4 r4.length cG4)) [(0, 0), (1, 0), (2, 1), (3, 1), (4, 0)] ?_ ?_
 · exact ⟨(hQ23.drew).c 0 0, (hQ23.drew).c 0 1, (hQ23.drew).c 1 0, (hQ23.drew).c 1 1, (hQ23.drew).c 2 0, (hQ23.drew).c 2 1, (hQ23.drew).c 3 0, (hQ23.drew).c 3 1, (hQ23.drew).c 3 2, (hQ23.drew).c 3 3, (hQ23.drew).c 3 4, (hQ23.drew).c 4 0, (hQ23.drew).c 4 1, (hQ23.drew).c 5 0, (hQ23.drew).c 5 1, (hQ23.drew).c 6 0, (hQ23.drew).c 6 1, (hQ23.drew).c 7 0, (hQ23.drew).c 7 1, (hQ23.drew).c 7 2, (hQ23.drew).c 7 3, (hQ23.drew).c 7 4⟩
 have JWF11_p10 := qH (Iv.mono JWF11_p9.out (belowD _))
 clear JWF11_p9
 have Jx0_p9 := qH (Iv.mono Jx0_p8.out (belowD _))
 clear Jx0_p8
 have Jx1_p7 := qH (Iv.mono Jx1_p6.out (belowD _))
 clear Jx1_p6
 have Jx2_p5 := qH (Iv.mono Jx2_p4.out (belowD _))
 clear Jx2_p4
 have JG_p3 := qH (Iv.mono JG''.out (belowD _))
 clear JG''
 have hQ24 := hQ23.drew
 refine elF ?_
 refine el_hard rfl (by rfl) (fun K hK => ?_)
 go_wp2_with (go_at_call 8; refine (toTemplate_b (x00, x01) _ _ _ (Rd.mono H0.out hQ24.bel) gc0).mono ?_; rintro e w13 ⟨uy00, uy01, rfl, fry0, hb13⟩)
 have JWF11_p11 := qH (Iv.mono JWF11_p10.out hb13)
 clear JWF11_p10
 have Jx0_p10 := qH (Iv.mono Jx0_p9.out hb13)
 clear Jx0_p9
 have Jx1_p8 := qH (Iv.mono Jx1_p7.out hb13)
 clear Jx1_p7
 have Jx2_p6 := qH (Iv.mono Jx2_p5.out hb13)
 clear Jx2_p5
 have JG_p4 := qH (Iv.mono JG_p3.out hb13)
 clear JG_p3
 have hQ25 := hQ24.step hb13
 have hz9 : w12.heap.size ≤ w13.heap.size := by simpa using hb13.size
 have Jy0 := qH (Fresh.iv fry0)
 have zy00 := rd_cons rfl (Iv.rd Jy0.out)
 obtain ⟨rfl, _⟩ := rd_i1 zy00.1
 obtain ⟨ay01, cy01, rfl, _⟩ := rd_list zy00.2
 clear zy00
 clear fry0
 refine ⟨⟨hQ25.c 0 0, hQ25.c 0 1, hQ25.c 1 0, hQ25.c 1 1, hQ25.c 2 0, hQ25.c 2 1, hQ25.c 3 0, hQ25.c 3 1, hQ25.c 3 2, hQ25.c 3 3, hQ25.c 3 4, hQ25.c 4 0, hQ25.c 4 1, hQ25.c 5 0, hQ25.c 5 1, hQ25.c 6 0, hQ25.c 6 1, hQ25.c 7 0, hQ25.c 7 1, hQ25.c 7 2, hQ25.c 7 3, hQ25.c 7 4⟩, ?_⟩
 refine elF ?_
 refine el_hard rfl (by rfl) (fun K hK => ?_)
 go_wp2_with (go_at_call 13; refine (eqTemplate_s (x00, x01) _ _ _ _ _ (Iv.rd Jx0_p10.out) (Iv.rd Jy0.out)).mono ?_; rintro e w14 ⟨rfl, hb14⟩)
 clear Jy0
 have JWF11_p12 := qH (Iv.mono JWF11_p11.out hb14)
 clear JWF11_p11
 have Jx0_p11 := qH (Iv.mono Jx0_p10.out hb14)
 clear Jx0_p10
 have Jx1_p9 := qH (Iv.mono Jx1_p8.out hb14)
 clear Jx1_p8
 have Jx2_p7 := qH (Iv.mono Jx2_p6.out hb14)
 clear Jx2_p6
 have JG_p5 := qH (Iv.mono JG_p4.out hb14)
 clear JG_p4
 have hQ26 := hQ25.step hb14
 have hz10 : w13.heap.size ≤ w14.heap.size := by simpa using hb14.size
 refine ⟨⟨hQ26.c 0 0, hQ26.c 0 1, hQ26.c 1 0, hQ26.c 1 1, hQ26.c 2 0, hQ26.c 2 1, hQ26.c 3 0, hQ26.c 3 1, hQ26.c 3 2, hQ26.c 3 3, hQ26.c 3 4, hQ26.c 4 0, hQ26.c 4 1, hQ26.c 5 0, hQ26.c 5 1, hQ26.c 6 0, hQ26.c 6 1, hQ26.c 7 0, hQ26.c 7 1, hQ26.c 7 2, hQ26.c 7 3, hQ26.c 7 4⟩, ?_⟩
 refine elF ?_
 refine el_nil (NoPanic.normal ?_)
 clear qa00 qa01 qa10 qa11 qa20 qa21 qw0 qw1 qw2 qw3 qw4 qx00 qx01 qx10 qx11 qx20 qx21 qg0 qg1 qg2 qg3 qg4
 obtain ⟨qa00, qa01, qa10, qa11, qa20, qa21, qw0, qw1⟩ := hQ26.c8 0 0 0 1 1 0 1 1 2 0 2 1 3 0 3 1
 obtain ⟨qw2, qw3, qw4, qx00, qx01, qx10, qx11, qx20⟩ := hQ26.c8 3 2 3 3 3 4 4 0 4 1 5 0 5 1 6 0
 obtain ⟨qx21, qg0, qg1, qg2, qg3, qg4⟩ := hQ26.c6 6 1 7 0 7 1 7 2 7 3 7 4
 go_wp2_with fail
 refine elR (fun w' => w'.cell? ⟨w.heap.size, 0, none⟩ = some (.int .i64 x00) ∧ w'.cell? ⟨w.heap.size, 1, none⟩ = some (.slice a01 x01.length c01) ∧ w'.cell? ⟨w.heap.size + 1, 0, none⟩ = some (.int .i64 x10) ∧ w'.cell? ⟨w.heap.size + 1, 1, none⟩ = some (.slice a11 x11.length c11) ∧ w'.cell? ⟨w.heap.size + 1 + 1, 0, none⟩ = some (.int .i64 x20) ∧ w'.cell? ⟨w.heap.size + 1 + 1, 1, none⟩ = some (.slice a21 x21.length c21) ∧ w'.cell? ⟨gUF11, 0, none⟩ = some (.int .i64 r0) ∧ w'.cell? ⟨gUF11, 1, none⟩ = some (.slice aW1 r1.length cW1) ∧ w'.cell? ⟨gUF11, 2, none⟩ = some (.slice aW2 r2.length cW2) ∧ w'.cell? ⟨gUF11, 3, none⟩ = some (.slice aW3 r3.length cW3) ∧ w'.cell? ⟨gUF11, 4, none⟩ = some (.slice aW4 r4.length cW4) ∧ w'.cell? ⟨w8.heap.size, 0, none⟩ = some (.int .i64 x00) ∧ w'.cell? ⟨w8.heap.size, 1, none⟩ = some (.slice ax01 x01.length cx01) ∧ w'.cell? ⟨w9.heap.size, 0, none⟩ = some (.int .i64 x10) ∧ w'.cell? ⟨w9.heap.size, 1, none⟩ = some (.slice ax11 x11.length cx11) ∧ w'.cell? ⟨w10.heap.size, 0, none⟩ = some (.int .i64 x20) ∧ w'.cell? ⟨w10.heap.size, 1, none⟩ = some (.slice ax21 x21.length cx21) ∧ w'.cell? ⟨w11.heap.size, 0, none⟩ = some (.int .i64 r0) ∧ w'.cell? ⟨w11.heap.size, 1, none⟩ = some (.slice aG1 r1.length cG1) ∧ w'.cell? ⟨w11.heap.size, 2, none⟩ = some (.slice aG2 r2.length cG2) ∧ w'.cell? ⟨w11.heap.size, 3, none⟩ = some (.slice aG3 r3.length cG3) ∧ w'.cell? ⟨w11.heap.size, 4, none⟩ = some (.slice aG4 r4.length cG4)) [(0, 0), (1, 0), (2, 1), (3, 1), (4, 0)] ?_ ?_
 · exact ⟨(hQ26.drew).c 0 0, (hQ26.drew).c 0 1, (hQ26.drew).c 1 0, (hQ26.drew).c 1 1, (hQ26.drew).c 2 0, (hQ26.drew).c 2 1, (hQ26.drew).c 3 0, (hQ26.drew).c 3 1, (hQ26.drew).c 3 2, (hQ26.drew).c 3 3, (hQ26.drew).c 3 4, (hQ26.drew).c 4 0, (hQ26.drew).c 4 1, (hQ26.drew).c 5 0, (hQ26.drew).c 5 1, (hQ26.drew).c 6 0, (hQ26.drew).c 6 1, (hQ26.drew).c 7 0, (hQ26.drew).c 7 1, (hQ26.drew).c 7 2, (hQ26.drew).c 7 3, (hQ26.drew).c 7 4⟩
 have JWF11_p13 := qH (Iv.mono JWF11_p12.out (belowD _))
 clear JWF11_p12
 have Jx0_p12 := qH (Iv.mono Jx0_p11.out (belowD _))
 clear Jx0_p11
 have Jx1_p10 := qH (Iv.mono Jx1_p9.out (belowD _))
 clear Jx1_p9
 have Jx2_p8 := qH (Iv.mono Jx2_p7.out (belowD _))
 clear Jx2_p7
 have JG_p6 := qH (Iv.mono JG_p5.out (belowD _))
 clear JG_p5
 have hQ27 := hQ26.drew
 refine elF ?_
 refine el_hard rfl (by rfl) (fun K hK => ?_)
 go_wp2_with (go_at_call 9; refine (toInstance_b (x10, x11) _ _ _ (Rd.mono H1.out hQ27.bel) gc1).mono ?_; rintro e w15 ⟨uy10, uy11, rfl, fry1, hb15⟩)
 have JWF11_p14 := qH (Iv.mono JWF11_p13.out hb15)
 clear JWF11_p13
 have Jx0_p13 := qH (Iv.mono Jx0_p12.out hb15)
 clear Jx0_p12
 have Jx1_p11 := qH (Iv.mono Jx1_p10.out hb15)
 clear Jx1_p10
 have Jx2_p9 := qH (Iv.mono Jx2_p8.out hb15)
 clear Jx2_p8
 have JG_p7 := qH (Iv.mono JG_p6.out hb15)
 clear JG_p6
 have hQ28 := hQ27.step hb15
 have hz11 : w14.heap.size ≤ w15.heap.size := by simpa using hb15.size
 have Jy1 := qH (Fresh.iv fry1)
 have zy10 := rd_cons rfl (Iv.rd Jy1.out)
 obtain ⟨rfl, _⟩ := rd_i1 zy10.1
 obtain ⟨ay11, cy11, rfl, _⟩ := rd_list zy10.2
 clear zy10
 clear fry1
 refine ⟨⟨hQ28.c 0 0, hQ28.c 0 1, hQ28.c 1 0, hQ28.c 1 1, hQ28.c 2 0, hQ28.c 2 1, hQ28.c 3 0, hQ28.c 3 1, hQ28.c 3 2, hQ28.c 3 3, hQ28.c 3 4, hQ28.c 4 0, hQ28.c 4 1, hQ28.c 5 0, hQ28.c 5 1, hQ28.c 6 0, hQ28.c 6 1, hQ28.c 7 0, hQ28.c 7 1, hQ28.c 7 2, hQ28.c 7 3, hQ28.c 7 4⟩, ?_⟩
 refine elF ?_
 refine el_hard rfl (by rfl) (fun K hK => ?_)
 go_wp2_with (go_at_call 14; refine (eqInstance_s (x10, x11) _ _ _ _ _ (Iv.rd Jx1_p11.out) (Iv.rd Jy1.out)).mono ?_; rintro e w16 ⟨rfl, hb16⟩)
 clear Jy1
 have JWF11_p15 := qH (Iv.mono JWF11_p14.out hb16)
 clear JWF11_p14
 have Jx0_p14 := qH (Iv.mono Jx0_p13.out hb16)
 clear Jx0_p13
 have Jx1_p12 := qH (Iv.mono Jx1_p11.out hb16)
 clear Jx1_p11
 have Jx2_p10 := qH (Iv.mono Jx2_p9.out hb16)
 clear Jx2_p9
 have JG_p8 := qH (Iv.mono JG_p7.out hb16)
 clear JG_p7
 have hQ29 := hQ28.step hb16
 have hz12 : w15.heap.size ≤ w16.heap.size := by simpa using hb16.size
 refine ⟨⟨hQ29.c 0 0, hQ29.c 0 1, hQ29.c 1 0, hQ29.c 1 1, hQ29.c 2 0, hQ29.c 2 1, hQ29.c 3 0, hQ29.c 3 1, hQ29.c 3 2, hQ29.c 3 3, hQ29.c 3 4, hQ29.c 4 0, hQ29.c 4 1, hQ29.c 5 0, hQ29.c 5 1, hQ29.c 6 0, hQ29.c 6 1, hQ29.c 7 0, hQ29.c 7 1, hQ29.c 7 2, hQ29.c 7 3, hQ29.c 7 4⟩, ?_⟩
 refine elF ?_
 refine el_nil (NoPanic.normal ?_)
 clear qa00 qa01 qa10 qa11 qa20 qa21 qw0 qw1 qw2 qw3 qw4 qx00 qx01 qx10 qx11 qx20 qx21 qg0 qg1 qg2 qg3 qg4
 obtain ⟨qa00, qa01, qa10, qa11, qa20, qa21, qw0, qw1⟩ := hQ29.c8 0 0 0 1 1 0 1 1 2 0 2 1 3 0 3 1
 obtain ⟨qw2, qw3, qw4, qx00, qx01, qx10, qx11, qx20⟩ := hQ29.c8 3 2 3 3 3 4 4 0 4 1 5 0 5 1 6 0
 obtain ⟨qx21, qg0, qg1, qg2, qg3, qg4⟩ := hQ29.c6 6 1 7 0 7 1 7 2 7 3 7 4
 go_wp2_with fail
 refine elR (fun w' => w'.cell? ⟨w.heap.size, 0, none⟩ = some (.int .i64 x00) ∧ w'.cell? ⟨w.heap.size, 1, none⟩ = some (.slice a01 x01.length c01) ∧ w'.cell? ⟨w.heap.size + 1, 0, none⟩ = some (.int .i64 x10) ∧ w'.cell? ⟨w.heap.size + 1, 1, none⟩ = some (.slice a11 x11.length c11) ∧ w'.cell? ⟨w.heap.size + 1 + 1, 0, none⟩ = some (.int .i64 x20) ∧ w'.cell? ⟨w.heap.size + 1 + 1, 1, none⟩ = some (.slice a21 x21.length c21) ∧ w'.cell? ⟨gUF11, 0, none⟩ = some (.int .i64 r0) ∧ w'.cell? ⟨gUF11, 1, none⟩ = some (.slice aW1 r1.length cW1) ∧ w'.cell? ⟨gUF11, 2, none⟩ = some (.slice aW2 r2.length cW2) ∧ w'.cell? ⟨gUF11, 3, none⟩ = some (.slice aW3 r3.length cW3) ∧ w'.cell? ⟨gUF11, 4, none⟩ = some (.slice aW4 r4.length cW4) ∧ w'.cell? ⟨w8.heap.size, 0, none⟩ = some (.int .i64 x00) ∧ w'.cell? ⟨w8.heap.size, 1, none⟩ = some (.slice ax01 x01.length cx01) ∧ w'.cell? ⟨w9.heap.size, 0, none⟩ = some (.int .i64 x10) ∧ w'.cell? ⟨w9.heap.size, 1, none⟩ = some (.slice ax11 x11.length cx11) ∧ w'.cell? ⟨w10.heap.size, 0, none⟩ = some (.int .i64 x20) ∧ w'.cell? ⟨w10.heap.size, 1, none⟩ = some (.slice ax21 x21.length cx21) ∧ w'.cell? ⟨w11.heap.size, 0, none⟩ = some (.int .i64 r0) ∧ w'.cell? ⟨w11.heap.size, 1, none⟩ = some (.slice aG1 r1.length cG1) ∧ w'.cell? ⟨w11.heap.size, 2, none⟩ = some (.slice aG2 r2.length cG2) ∧ w'.cell? ⟨w11.heap.size, 3, none⟩ = some (.slice aG3 r3.length cG3) ∧ w'.cell? ⟨w11.heap.size, 4, none⟩ = some (.slice aG4 r4.length cG4)) [(0, 0), (1, 0), (2, 1), (3, 1), (4, 0)] ?_ ?_
 · exact ⟨(hQ29.drew).c 0 0, (hQ29.drew).c 0 1, (hQ29.drew).c 1 0, (hQ29.drew).c 1 1, (hQ29.drew).c 2 0, (hQ29.drew).c 2 1, (hQ29.drew).c 3 0, (hQ29.drew).c 3 1, (hQ29.drew).c 3 2, (hQ29.drew).c 3 3, (hQ29.drew).c 3 4, (hQ29.drew).c 4 0, (hQ29.drew).c 4 1, (hQ29.drew).c 5 0, (hQ29.drew).c 5 1, (hQ29.drew).c 6 0, (hQ29.drew).c 6 1, (hQ29.drew).c 7 0, (hQ29.drew).c 7 1, (hQ29.drew).c 7 2, (hQ29.drew).c 7 3, (hQ29.drew).c 7 4⟩
 have JWF11_p16 := qH (Iv.mono JWF11_p15.out (belowD _))
 clear JWF11_p15
 have Jx0_p15 := qH (Iv.mono Jx0_p14.out (belowD _))
 clear Jx0_p14
 have Jx1_p13 := qH (Iv.mono Jx1_p12.out (belowD _))
 clear Jx1_p12
 have Jx2_p11 := qH (Iv.mono Jx2_p10.out (belowD _))
 clear Jx2_p10
 have JG_p9 := qH (Iv.mono JG_p8.out (belowD _))
 clear JG_p8
 have hQ30 := hQ29.drew
 refine elF ?_
 refine el_hard rfl (by rfl) (fun K hK => ?_)
 go_wp2_with (go_at_call 10; refine (toOp_b (x20, x21) _ _ _ (Rd.mono H2.out hQ30.bel) gc2).mono ?_; rintro e w17 ⟨uy20, uy21, rfl, fry2, hb17⟩)
 have JWF11_p17 := qH (Iv.mono JWF11_p16.out hb17)
 clear JWF11_p16
 have Jx0_p16 := qH (Iv.mono Jx0_p15.out hb17)
 clear Jx0_p15
 have Jx1_p14 := qH (Iv.mono Jx1_p13.out hb17)
 clear Jx1_p13
 have Jx2_p12 := qH (Iv.mono Jx2_p11.out hb17)
 clear Jx2_p11
 have JG_p10 := qH (Iv.mono JG_p9.out hb17)
 clear JG_p9
 have hQ31 := hQ30.step hb17
 have hz13 : w16.heap.size ≤ w17.heap.size := by simpa using hb17.size
 have Jy2 := qH (Fresh.iv fry2)
 have zy20 := rd_cons rfl (Iv.rd Jy2.out)
 obtain ⟨rfl, _⟩ := rd_i1 zy20.1
 obtain ⟨ay21, cy21, rfl, _⟩ := rd_list zy20.2
 clear zy20
 clear fry2
 refine ⟨⟨hQ31.c 0 0, hQ31.c 0 1, hQ31.c 1 0, hQ31.c 1 1, hQ31.c 2 0, hQ31.c 2 1, hQ31.c 3 0, hQ31.c 3 1, hQ31.c 3 2, hQ31.c 3 3, hQ31.c 3 4, hQ31.c 4 0, hQ31.c 4 1, hQ31.c 5 0, hQ31.c 5 1, hQ31.c 6 0, hQ31.c 6 1, hQ31.c 7 0, hQ31.c 7 1, hQ31.c 7 2, hQ31.c 7 3, hQ31.c 7 4⟩, ?_⟩
 refine elF ?_
 refine el_hard rfl (by rfl) (fun K hK => ?_)
 go_wp2_with (go_at_call 15; refine (eqOp_s (x20, x21) _ _ _ _ _ (Iv.rd Jx2_p12.out) (Iv.rd Jy2.out)).mono ?_; rintro e w18 ⟨rfl, hb18⟩)
 clear Jy2
 have JWF11_p18 := qH (Iv.mono JWF11_p17.out hb18)
 clear JWF11_p17
 have Jx0_p17 := qH (Iv.mono Jx0_p16.out hb18)
 clear Jx0_p16
 have Jx1_p15 := qH (Iv.mono Jx1_p14.out hb18)
 clear Jx1_p14
 have Jx2_p13 := qH (Iv.mono Jx2_p12.out hb18)
 clear Jx2_p12
 have JG_p11 := qH (Iv.mono JG_p10.out hb18)
 clear JG_p10
 have hQ32 := hQ31.step hb18
 have hz14 : w17.heap.size ≤ w18.heap.size := by simpa using hb18.size
 refine ⟨⟨hQ32.c 0 0, hQ32.c 0 1, hQ32.c 1 0, hQ32.c 1 1, hQ32.c 2 0, hQ32.c 2 1, hQ32.c 3 0, hQ32.c 3 1, hQ32.c 3 2, hQ32.c 3 3, hQ32.c 3 4, hQ32.c 4 0, hQ32.c 4 1, hQ32.c 5 0, hQ32.c 5 1, hQ32.c 6 0, hQ32.c 6 1, hQ32.c 7 0, hQ32.c 7 1, hQ32.c 7 2, hQ32.c 7 3, hQ32.c 7 4⟩, ?_⟩
 refine elF ?_
 refine el_nil (NoPanic.normal ?_)
 clear qa00 qa01 qa10 qa11 qa20 qa21 qw0 qw1 qw2 qw3 qw4 qx00 qx01 qx10 qx11 qx20 qx21 qg0 qg1 qg2 qg3 qg4
 obtain ⟨qa00, qa01, qa10, qa11, qa20, qa21, qw0, qw1⟩ := hQ32.c8 0 0 0 1 1 0 1 1 2 0 2 1 3 0 3 1
 obtain ⟨qw2, qw3, qw4, qx00, qx01, qx10, qx11, qx20⟩ := hQ32.c8 3 2 3 3 3 4 4 0 4 1 5 0 5 1 6 0
 obtain ⟨qx21, qg0, qg1, qg2, qg3, qg4⟩ := hQ32.c6 6 1 7 0 7 1 7 2 7 3 7 4
 have mcb0 := mcb_Template (x00, x01)
 obtain ⟨psx0, hox0, hnx0, hpx0⟩ := Jx0_p17.out
 have HOx0 := qH hox0
 clear hox0
 clear Jx0_p17
 go_wp2_with fail
 refine (markTemplate_g (x00, x01) _ _ psx0 1 _ HOx0.out hnx0 (by omega) (by omega)).mono ?_
 rintro e w19 ⟨yx0, mx0, rfl, l0x0, l1x0, hyx0, hhx0, hbutx0⟩
 clear hyx0 hhx0 HOx0
 have hqx0 : ∀ k, k ∈ psx0 → wUF11.heap.size ≤ k ∧ k < w8.heap.size := fun k hk => by have := hpx0 k hk; simpa using this
 have JWF11_p19 := qH (Iv.but JWF11_p18.out hbutx0 (fun k hk => by have := hqx0 k hk; simp; omega))
 clear JWF11_p18
 have Jx1_p16 := qH (Iv.but Jx1_p15.out hbutx0 (fun k hk => by have := hqx0 k hk; simp; omega))
 clear Jx1_p15
 have Jx2_p14 := qH (Iv.but Jx2_p13.out hbutx0 (fun k hk => by have := hqx0 k hk; simp; omega))
 clear Jx2_p13
 have JG_p12 := qH (Iv.but JG_p11.out hbutx0 (fun k hk => by have := hqx0 k hk; simp; omega))
 clear JG_p11
 have hQ33 := hQ32.butIv hbutx0 (fun k hk => by have := hqx0 k hk; omega) (fun x hx hp => by
  have := hqx0 _ hp
  simp only [List.mem_append, List.mem_cons, List.mem_nil_iff, or_false, List.not_mem_nil, false_or, or_assoc] at hx
  rcases hx with rfl | rfl | rfl | rfl | rfl | rfl | rfl | rfl <;> (simp only at this; omega))
 have hz15 : w18.heap.size ≤ w19.heap.size := by simpa using hbutx0.size
 clear qa00 qa01 qa10 qa11 qa20 qa21 qw0 qw1 qw2 qw3 qw4 qx00 qx01 qx10 qx11 qx20 qx21 qg0 qg1 qg2 qg3 qg4
 obtain ⟨qa00, qa01, qa10, qa11, qa20, qa21, qw0, qw1⟩ := hQ33.c8 0 0 0 1 1 0 1 1 2 0 2 1 3 0 3 1
 obtain ⟨qw2, qw3, qw4, qx00, qx01, qx10, qx11, qx20⟩ := hQ33.c8 3 2 3 3 3 4 4 0 4 1 5 0 5 1 6 0
 obtain ⟨qx21, qg0, qg1, qg2, qg3, qg4⟩ := hQ33.c6 6 1 7 0 7 1 7 2 7 3 7 4
 have mcb1 := mcb_Instance (x10, x11)
 obtain ⟨psx1, hox1, hnx1, hpx1⟩ := Jx1_p16.out
 have HOx1 := qH hox1
 clear hox1
 clear Jx1_p16
 go_wp2_with fail
 refine (markInstance_g (x10, x11) _ _ psx1 mx0 _ HOx1.out hnx1 (by omega) (by omega)).mono ?_
 rintro e w20 ⟨yx1, mx1, rfl, l0x1, l1x1, hyx1, hhx1, hbutx1⟩
 clear hyx1 hhx1 HOx1
 have hqx1 : ∀ k, k ∈ psx1 → w8.heap.size + 1 ≤ k ∧ k < w9.heap.size := fun k hk => by have := hpx1 k hk; simpa using this
 have JWF11_p20 := qH (Iv.but JWF11_p19.out hbutx1 (fun k hk => by have := hqx1 k hk; simp; omega))
 clear JWF11_p19
 have Jx2_p15 := qH (Iv.but Jx2_p14.out hbutx1 (fun k hk => by have := hqx1 k hk; simp; omega))
 clear Jx2_p14
 have JG_p13 := qH (Iv.but JG_p12.out hbutx1 (fun k hk => by have := hqx1 k hk; simp; omega))
 clear JG_p12
 have hQ34 := hQ33.butIv hbutx1 (fun k hk => by have := hqx1 k hk; omega) (fun x hx hp => by
  have := hqx1 _ hp
  simp only [List.mem_append, List.mem_cons, List.mem_nil_iff, or_false, List.not_mem_nil, false_or, or_assoc] at hx
  rcases hx with rfl | rfl | rfl | rfl | rfl | rfl | rfl | rfl <;> (simp only at this; omega))
 have hz16 : w19.heap.size ≤ w20.heap.size := by simpa using hbutx1.size
 clear qa00 qa01 qa10 qa11 qa20 qa21 qw0 qw1 qw2 qw3 qw4 qx00 qx01 qx10 qx11 qx20 qx21 qg0 qg1 qg2 qg3 qg4
 obtain ⟨qa00, qa01, qa10, qa11, qa20, qa21, qw0, qw1⟩ := hQ34.c8 0 0 0 1 1 0 1 1 2 0 2 1 3 0 3 1
 obtain ⟨qw2, qw3, qw4, qx00, qx01, qx10, qx11, qx20⟩ := hQ34.c8 3 2 3 3 3 4 4 0 4 1 5 0 5 1 6 0
 obtain ⟨qx21, qg0, qg1, qg2, qg3, qg4⟩ := hQ34.c6 6 1 7 0 7 1 7 2 7 3 7 4
 have mcb2 := mcb_Op (x20, x21)
 obtain ⟨psx2, hox2, hnx2, hpx2⟩ := Jx2_p15.out
 have HOx2 := qH hox2
 clear hox2
 clear Jx2_p15
 go_wp2_with fail
 refine (markOp_g (x20, x21) _ _ psx2 mx1 _ HOx2.out hnx2 (by omega) (by omega)).mono ?_
 rintro e w21 ⟨yx2, mx2, rfl, l0x2, l1x2, hyx2, hhx2, hbutx2⟩
 clear hyx2 hhx2 HOx2
 have hqx2 : ∀ k, k ∈ psx2 → w9.heap.size + 1 ≤ k ∧ k < w10.heap.size := fun k hk => by have := hpx2 k hk; simpa using this
 have JWF11_p21 := qH (Iv.but JWF11_p20.out hbutx2 (fun k hk => by have := hqx2 k hk; simp; omega))
 clear JWF11_p20
 have JG_p14 := qH (Iv.but JG_p13.out hbutx2 (fun k hk => by have := hqx2 k hk; simp; omega))
 clear JG_p13
 have hQ35 := hQ34.butIv hbutx2 (fun k hk => by have := hqx2 k hk; omega) (fun x hx hp => by
  have := hqx2 _ hp
  simp only [List.mem_append, List.mem_cons, List.mem_nil_iff, or_false, List.not_mem_nil, false_or, or_assoc] at hx
  rcases hx with rfl | rfl | rfl | rfl | rfl | rfl | rfl | rfl <;> (simp only at this; omega))
 have hz17 : w20.heap.size ≤ w21.heap.size := by simpa using hbutx2.size
 clear qa00 qa01 qa10 qa11 qa20 qa21 qw0 qw1 qw2 qw3 qw4 qx00 qx01 qx10 qx11 qx20 qx21 qg0 qg1 qg2 qg3 qg4
 obtain ⟨qa00, qa01, qa10, qa11, qa20, qa21, qw0, qw1⟩ := hQ35.c8 0 0 0 1 1 0 1 1 2 0 2 1 3 0 3 1
 obtain ⟨qw2, qw3, qw4, qx00, qx01, qx10, qx11, qx20⟩ := hQ35.c8 3 2 3 3 3 4 4 0 4 1 5 0 5 1 6 0
 obtain ⟨qx21, qg0, qg1, qg2, qg3, qg4⟩ := hQ35.c6 6 1 7 0 7 1 7 2 7 3 7 4
 go_wp2_with fail
 refine (eqVerdict_s (r0, r1, r2, r3, r4) _ _ _ _ _ _ _ _ _ _ _ (Iv.rd JG_p14.out) (Iv.rd JWF11_p21.out)).mono ?_
 rintro e w22 ⟨rfl, hb22⟩
 have JWF11_p22 := qH (Iv.mono JWF11_p21.out hb22)
 clear JWF11_p21
 have JG_p15 := qH (Iv.mono JG_p14.out hb22)
 clear JG_p14
 have hQ36 := hQ35.step hb22
 have hz18 : w21.heap.size ≤ w22.heap.size := by simpa using hb22.size
 clear qa00 qa01 qa10 qa11 qa20 qa21 qw0 qw1 qw2 qw3 qw4 qx00 qx01 qx10 qx11 qx20 qx21 qg0 qg1 qg2 qg3 qg4
 obtain ⟨qa00, qa01, qa10, qa11, qa20, qa21, qw0, qw1⟩ := hQ36.c8 0 0 0 1 1 0 1 1 2 0 2 1 3 0 3 1
 obtain ⟨qw2, qw3, qw4, qx00, qx01, qx10, qx11, qx20⟩ := hQ36.c8 3 2 3 3 3 4 4 0 4 1 5 0 5 1 6 0
 obtain ⟨qx21, qg0, qg1, qg2, qg3, qg4⟩ := hQ36.c6 6 1 7 0 7 1 7 2 7 3 7 4
 obtain ⟨psG, hoG, hnG, hpG⟩ := JG_p15.out
 have HOG := qH hoG
 clear hoG
 clear JG_p15
 go_wp2_with fail
 refine (markVerdict_g (r0, r1, r2, r3, r4) _ _ _ _ _ psG 1 _ HOG.out hnG (by omega) (by omega)).mono ?_
 rintro e w23 ⟨yG, mG, rfl, l0G, l1G, hyG, hhG, hbutG⟩
 have HYG := qH hyG
 have HHG := qH hhG
 clear hyG hhG HOG
 have hqG : ∀ k, k ∈ psG → w10.heap.size + 1 ≤ k ∧ k < w11.heap.size := fun k hk => by have := hpG k hk; simpa using this
 have JWF11_p23 := qH (Iv.but JWF11_p22.out hbutG (fun k hk => by have := hqG k hk; simp; omega))
 clear JWF11_p22
 have hQ37 := hQ36.butIv hbutG (fun k hk => by have := hqG k hk; omega) (fun x hx hp => by
  have := hqG _ hp
  simp only [List.mem_append, List.mem_cons, List.mem_nil_iff, or_false, List.not_mem_nil, false_or, or_assoc] at hx
  rcases hx with rfl | rfl | rfl | rfl | rfl | rfl | rfl | rfl <;> (simp only at this; omega))
 have hz19 : w22.heap.size ≤ w23.heap.size := by simpa using hbutG.size
 clear qa00 qa01 qa10 qa11 qa20 qa21 qw0 qw1 qw2 qw3 qw4 qx00 qx01 qx10 qx11 qx20 qx21 qg0 qg1 qg2 qg3 qg4
 obtain ⟨qa00, qa01, qa10, qa11, qa20, qa21, qw0, qw1⟩ := hQ37.c8 0 0 0 1 1 0 1 1 2 0 2 1 3 0 3 1
 obtain ⟨qw2, qw3, qw4, qx00, qx01, qx10, qx11, qx20⟩ := hQ37.c8 3 2 3 3 3 4 4 0 4 1 5 0 5 1 6 0
 obtain ⟨qx21, qg0, qg1, qg2, qg3, qg4⟩ := hQ37.c6 6 1 7 0 7 1 7 2 7 3 7 4
 have HYr24 := qH (Own.rd HYG.out)
 go_wp2_with fail
 refine (heldVerdict_g yG _ _ _ _ _ 1 mG _ HYr24.out HHG.out (by omega) (by omega) (by omega)).mono ?_
 rintro e w24 ⟨rfl, hb24⟩
 have HYG' := qH (Own.mono HYG.out hb24)
 clear HYG HYr24
 have HYG := HYG'
 clear HYG'
 have JWF11_p24 := qH (Iv.mono JWF11_p23.out hb24)
 clear JWF11_p23
 have hQ38 := hQ37.step hb24
 have hz20 : w23.heap.size ≤ w24.heap.size := by simpa using hb24.size
 clear qa00 qa01 qa10 qa11 qa20 qa21 qw0 qw1 qw2 qw3 qw4 qx00 qx01 qx10 qx11 qx20 qx21 qg0 qg1 qg2 qg3 qg4
 obtain ⟨qa00, qa01, qa10, qa11, qa20, qa21, qw0, qw1⟩ := hQ38.c8 0 0 0 1 1 0 1 1 2 0 2 1 3 0 3 1
 obtain ⟨qw2, qw3, qw4, qx00, qx01, qx10, qx11, qx20⟩ := hQ38.c8 3 2 3 3 3 4 4 0 4 1 5 0 5 1 6 0
 obtain ⟨qx21, qg0, qg1, qg2, qg3, qg4⟩ := hQ38.c6 6 1 7 0 7 1 7 2 7 3 7 4
 have hmm : (mG != mG) = false := by simp
 have hm0 : ¬ mG < 0 := by omega
 go_upto_region 38 with fail
 refine t4R (fun w' => w'.cell? ⟨w.heap.size, 0, none⟩ = some (.int .i64 x00) ∧ w'.cell? ⟨w.heap.size, 1, none⟩ = some (.slice a01 x01.length c01) ∧ w'.cell? ⟨w.heap.size + 1, 0, none⟩ = some (.int .i64 x10) ∧ w'.cell? ⟨w.heap.size + 1, 1, none⟩ = some (.slice a11 x11.length c11) ∧ w'.cell? ⟨w.heap.size + 1 + 1, 0, none⟩ = some (.int .i64 x20) ∧ w'.cell? ⟨w.heap.size + 1 + 1, 1, none⟩ = some (.slice a21 x21.length c21) ∧ w'.cell? ⟨gUF11, 0, none⟩ = some (.int .i64 r0) ∧ w'.cell? ⟨gUF11, 1, none⟩ = some (.slice aW1 r1.length cW1) ∧ w'.cell? ⟨gUF11, 2, none⟩ = some (.slice aW2 r2.length cW2) ∧ w'.cell? ⟨gUF11, 3, none⟩ = some (.slice aW3 r3.length cW3) ∧ w'.cell? ⟨gUF11, 4, none⟩ = some (.slice aW4 r4.length cW4) ∧ w'.cell? ⟨w8.heap.size, 0, none⟩ = some (.int .i64 x00) ∧ w'.cell? ⟨w8.heap.size, 1, none⟩ = some (.slice ax01 x01.length cx01) ∧ w'.cell? ⟨w9.heap.size, 0, none⟩ = some (.int .i64 x10) ∧ w'.cell? ⟨w9.heap.size, 1, none⟩ = some (.slice ax11 x11.length cx11) ∧ w'.cell? ⟨w10.heap.size, 0, none⟩ = some (.int .i64 x20) ∧ w'.cell? ⟨w10.heap.size, 1, none⟩ = some (.slice ax21 x21.length cx21) ∧ w'.cell? ⟨w11.heap.size, 0, none⟩ = some (.int .i64 r0) ∧ w'.cell? ⟨w11.heap.size, 1, none⟩ = some (.slice aG1 r1.length cG1) ∧ w'.cell? ⟨w11.heap.size, 2, none⟩ = some (.slice aG2 r2.length cG2) ∧ w'.cell? ⟨w11.heap.size, 3, none⟩ = some (.slice aG3 r3.length cG3) ∧ w'.cell? ⟨w11.heap.size, 4, none⟩ = some (.slice aG4 r4.length cG4)) (.float 0 (.float 2 (.float 4 (.fork2 1 (.fork2 3 (.fork2 5 (.fork2 6 (.float 7 (.float 8 (.float 9 (.hard 10 (.hard 11 (.float 12 .nil)))))) 10 (.hard 6 (.float 7 (.float 8 (.float 9 (.hard 11 (.float 12 .nil))))))) 10 (.hard 5 (.hard 6 (.float 7 (.float 8 (.float 9 (.hard 11 (.float 12 .nil)))))))) 10 (.hard 3 (.hard 5 (.hard 6 (.float 7 (.float 8 (.float 9 (.hard 11 (.float 12 .nil))))))))) 10 (.hard 1 (.hard 3 (.hard 5 (.hard 6 (.float 7 (.float 8 (.float 9 (.hard 11 (.float 12 .nil))))))))))))) ?_ ?_
 · exact ⟨(hQ38.drew).c 0 0, (hQ38.drew).c 0 1, (hQ38.drew).c 1 0, (hQ38.drew).c 1 1, (hQ38.drew).c 2 0, (hQ38.drew).c 2 1, (hQ38.drew).c 3 0, (hQ38.drew).c 3 1, (hQ38.drew).c 3 2, (hQ38.drew).c 3 3, (hQ38.drew).c 3 4, (hQ38.drew).c 4 0, (hQ38.drew).c 4 1, (hQ38.drew).c 5 0, (hQ38.drew).c 5 1, (hQ38.drew).c 6 0, (hQ38.drew).c 6 1, (hQ38.drew).c 7 0, (hQ38.drew).c 7 1, (hQ38.drew).c 7 2, (hQ38.drew).c 7 3, (hQ38.drew).c 7 4⟩
 have JWF11_p25 := qH (Iv.mono JWF11_p24.out (belowD _))
 clear JWF11_p24
 have HYG' := qH (Own.mono HYG.out (belowD _))
 clear HYG
 have HYG := HYG'
 clear HYG'
 have hQ39 := hQ38.drew
 clear qa00 qa01 qa10 qa11 qa20 qa21 qw0 qw1 qw2 qw3 qw4 qx00 qx01 qx10 qx11 qx20 qx21 qg0 qg1 qg2 qg3 qg4
 have hzF38 : w24.heap.size ≤ (w24.drew).heap.size := by simp
 generalize hgenF38 : w24.drew = wF38 at *
 clear hgenF38
 refine t4F ?_
 apply mp_cut
 · intro HJ
   refine t4_fork2 ?_ ?_
   · refine t4_hard rfl (by rfl) (fun K hK => ?_)
     go_wp2_with (go_at_call 8; refine (toTemplate_b (x00, x01) _ _ _ (Rd.mono H0.out hQ39.bel) gc0).mono ?_; rintro e w25 ⟨ut00, ut01, rfl, frt0, hb25⟩)
     have JWF11_p26 := qH (Iv.mono JWF11_p25.out hb25)
     try clear JWF11_p25
     have hQ40 := hQ39.step hb25
     have hz21 : wF38.heap.size ≤ w25.heap.size := by simpa using hb25.size
     have Jt0 := qH (Fresh.iv frt0)
     have zt00 := rd_cons rfl (Iv.rd Jt0.out)
     obtain ⟨rfl, _⟩ := rd_i1 zt00.1
     obtain ⟨at01, ct01, rfl, _⟩ := rd_list zt00.2
     clear zt00
     clear frt0
     refine ⟨⟨hQ40.c 0 0, hQ40.c 0 1, hQ40.c 1 0, hQ40.c 1 1, hQ40.c 2 0, hQ40.c 2 1, hQ40.c 3 0, hQ40.c 3 1, hQ40.c 3 2, hQ40.c 3 3, hQ40.c 3 4, hQ40.c 4 0, hQ40.c 4 1, hQ40.c 5 0, hQ40.c 5 1, hQ40.c 6 0, hQ40.c 6 1, hQ40.c 7 0, hQ40.c 7 1, hQ40.c 7 2, hQ40.c 7 3, hQ40.c 7 4⟩, ?_⟩
     refine t4F ?_
     have HYG' := qH (Own.mono HYG.out hb25)
     try clear HYG
     have HYG := HYG'
     clear HYG'
     refine t4_fork2 ?_ ?_
     · refine t4_hard rfl (by rfl) (fun K hK => ?_)
       go_wp2_with (go_at_call 9; refine (toInstance_b (x10, x11) _ _ _ (Rd.mono H1.out hQ40.bel) gc1).mono ?_; rintro e w26 ⟨ut10, ut11, rfl, frt1, hb26⟩)
       have JWF11_p27 := qH (Iv.mono JWF11_p26.out hb26)
       try clear JWF11_p26
       have Jt0' := qH (Iv.mono Jt0.out hb26)
       try clear Jt0
       have hQ41 := hQ40.step hb26
       have hz22 : w25.heap.size ≤ w26.heap.size := by simpa using hb26.size
       have Jt1 := qH (Fresh.iv frt1)
       have zt10 := rd_cons rfl (Iv.rd Jt1.out)
       obtain ⟨rfl, _⟩ := rd_i1 zt10.1
       obtain ⟨at11, ct11, rfl, _⟩ := rd_list zt10.2
       clear zt10
       clear frt1
       refine ⟨⟨hQ41.c 0 0, hQ41.c 0 1, hQ41.c 1 0, hQ41.c 1 1, hQ41.c 2 0, hQ41.c 2 1, hQ41.c 3 0, hQ41.c 3 1, hQ41.c 3 2, hQ41.c 3 3, hQ41.c 3 4, hQ41.c 4 0, hQ41.c 4 1, hQ41.c 5 0, hQ41.c 5 1, hQ41.c 6 0, hQ41.c 6 1, hQ41.c 7 0, hQ41.c 7 1, hQ41.c 7 2, hQ41.c 7 3, hQ41.c 7 4⟩, ?_⟩
       refine t4F ?_
       have HYG' := qH (Own.mono HYG.out hb26)
       try clear HYG
       have HYG := HYG'
       clear HYG'
       refine t4_fork2 ?_ ?_
       · refine t4_hard rfl (by rfl) (fun K hK => ?_)
         go_wp2_with (go_at_call 10; refine (toOp_b (x20, x21) _ _ _ (Rd.mono H2.out hQ41.bel) gc2).mono ?_; rintro e w27 ⟨ut20, ut21, rfl, frt2, hb27⟩)
         have JWF11_p28 := qH (Iv.mono JWF11_p27.out hb27)
         try clear JWF11_p27
         have Jt0'' := qH (Iv.mono Jt0'.out hb27)
         try clear Jt0'
         have Jt1' := qH (Iv.mono Jt1.out hb27)
         try clear Jt1
         have hQ42 := hQ41.step hb27
         have hz23 : w26.heap.size ≤ w27.heap.size := by simpa using hb27.size
         have Jt2 := qH (Fresh.iv frt2)
         have zt20 := rd_cons rfl (Iv.rd Jt2.out)
         obtain ⟨rfl, _⟩ := rd_i1 zt20.1
         obtain ⟨at21, ct21, rfl, _⟩ := rd_list zt20.2
         clear zt20
         clear frt2
         refine ⟨⟨hQ42.c 0 0, hQ42.c 0 1, hQ42.c 1 0, hQ42.c 1 1, hQ42.c 2 0, hQ42.c 2 1, hQ42.c 3 0, hQ42.c 3 1, hQ42.c 3 2, hQ42.c 3 3, hQ42.c 3 4, hQ42.c 4 0, hQ42.c 4 1, hQ42.c 5 0, hQ42.c 5 1, hQ42.c 6 0, hQ42.c 6 1, hQ42.c 7 0, hQ42.c 7 1, hQ42.c 7 2, hQ42.c 7 3, hQ42.c 7 4⟩, ?_⟩
         refine t4F ?_
         have HYG' := qH (Own.mono HYG.out hb27)
         try clear HYG
         have HYG := HYG'
         clear HYG'
         refine t4_fork2 ?_ ?_
         · refine t4_hard rfl (by rfl) (fun K hK => ?_)
           go_wp2_with (go_at_call 11; refine (CI.out _ _ _ _ _ _ _ (Iv.rd Jt0''.out) (Iv.rd Jt1'.out) (Iv.rd Jt2.out)).mono ?_; rintro e w28 ⟨uK0, uK1, uK2, uK3, uK4, rfl, frK, hb28⟩)
           have JWF11_p29 := qH (Iv.mono JWF11_p28.out hb28)
           try clear JWF11_p28
           have Jt0_p3 := qH (Iv.mono Jt0''.out hb28)
           try clear Jt0''
           have Jt1'' := qH (Iv.mono Jt1'.out hb28)
           try clear Jt1'
           have Jt2' := qH (Iv.mono Jt2.out hb28)
           try clear Jt2
           have hQ43 := hQ42.step hb28
           have hz24 : w27.heap.size ≤ w28.heap.size := by simpa using hb28.size
           have JK := qH (Fresh.iv frK)
           have zK0 := rd_cons rfl (Iv.rd JK.out)
           obtain ⟨rfl, _⟩ := rd_i1 zK0.1
           have zK1 := rd_cons rfl zK0.2
           obtain ⟨aK1, cK1, rfl, _⟩ := rd_list zK1.1
           have zK2 := rd_cons rfl zK1.2
           obtain ⟨aK2, cK2, rfl, _⟩ := rd_list zK2.1
           have zK3 := rd_cons rfl zK2.2
           obtain ⟨aK3, cK3, rfl, _⟩ := rd_list zK3.1
           obtain ⟨aK4, cK4, rfl, _⟩ := rd_list zK3.2
           clear zK0 zK1 zK2 zK3
           clear frK
           have HYG' := qH (Own.mono HYG.out hb28)
           try clear HYG
           have HYG := HYG'
           clear HYG'
           try clear Jt0_p3
           try clear Jt1''
           try clear Jt2'
           refine ⟨⟨hQ43.c 0 0, hQ43.c 0 1, hQ43.c 1 0, hQ43.c 1 1, hQ43.c 2 0, hQ43.c 2 1, hQ43.c 3 0, hQ43.c 3 1, hQ43.c 3 2, hQ43.c 3 3, hQ43.c 3 4, hQ43.c 4 0, hQ43.c 4 1, hQ43.c 5 0, hQ43.c 5 1, hQ43.c 6 0, hQ43.c 6 1, hQ43.c 7 0, hQ43.c 7 1, hQ43.c 7 2, hQ43.c 7 3, hQ43.c 7 4⟩, ?_⟩
           refine t4F ?_
           refine t4_hard rfl (by rfl) (fun K hK => ?_)
           go_wp2_with fail
           have hQ44 := hQ43.alloc #[.int .i64 0, .slice none 0 0, .slice none 0 0, .slice none 0 0, .slice none 0 0] 37 rfl
           have JWF11_p30 := qH (Iv.mono JWF11_p29.out (belowA _ (.cells #[.int .i64 0, .slice none 0 0, .slice none 0 0, .slice none 0 0, .slice none 0 0] 37)))
           try clear JWF11_p29
           have JK' := qH (Iv.mono JK.out (belowA _ (.cells #[.int .i64 0, .slice none 0 0, .slice none 0 0, .slice none 0 0, .slice none 0 0] 37)))
           try clear JK
           have HYG' := qH (Own.mono HYG.out (belowA _ (.cells #[.int .i64 0, .slice none 0 0, .slice none 0 0, .slice none 0 0, .slice none 0 0] 37)))
           try clear HYG
           have HYG := HYG'
           clear HYG'
           have hzF38A1 : w28.heap.size + 1 ≤ (w28.alloc (.cells #[.int .i64 0, .slice none 0 0, .slice none 0 0, .slice none 0 0, .slice none 0 0] 37)).heap.size := by simp
           generalize hgenF38A1 : w28.alloc (.cells #[.int .i64 0, .slice none 0 0, .slice none 0 0, .slice none 0 0, .slice none 0 0] 37) = wF38A1 at *
           clear hgenF38A1
           refine ⟨⟨hQ44.c 0 0, hQ44.c 0 1, hQ44.c 1 0, hQ44.c 1 1, hQ44.c 2 0, hQ44.c 2 1, hQ44.c 3 0, hQ44.c 3 1, hQ44.c 3 2, hQ44.c 3 3, hQ44.c 3 4, hQ44.c 4 0, hQ44.c 4 1, hQ44.c 5 0, hQ44.c 5 1, hQ44.c 6 0, hQ44.c 6 1, hQ44.c 7 0, hQ44.c 7 1, hQ44.c 7 2, hQ44.c 7 3, hQ44.c 7 4⟩, ?_⟩
           refine t4F ?_
           refine t4_hard rfl (by rfl) (fun K hK => ?_)
           have fF380 := hQ44.freeAt 8 rfl 0
           have cF380 := hQ44.c 8 0
           have fF381 := hQ44.freeAt 8 rfl 1
           have cF381 := hQ44.c 8 1
           have fF382 := hQ44.freeAt 8 rfl 2
           have cF382 := hQ44.c 8 2
           have fF383 := hQ44.freeAt 8 rfl 3
           have cF383 := hQ44.c 8 3
           have fF384 := hQ44.freeAt 8 rfl 4
           have cF384 := hQ44.c 8 4
           go_wp2_with fail
           have hQ7 := (((((hQ44.set (p := [_, _, _, _, _, _, _, _]) (by simp <;> omega) 0 (.int .i64 r0)).set (p := [_, _, _, _, _, _, _, _]) (by simp <;> omega) 1 (.slice aK1 r1.length cK1)).set (p := [_, _, _, _, _, _, _, _]) (by simp <;> omega) 2 (.slice aK2 r2.length cK2)).set (p := [_, _, _, _, _, _, _, _]) (by simp <;> omega) 3 (.slice aK3 r3.length cK3)).set (p := [_, _, _, _, _, _, _, _]) (by simp <;> omega) 4 (.slice aK4 r4.length cK4))
           have JWF11_p31 := qH (Iv.setOut (Iv.setOut (Iv.setOut (Iv.setOut (Iv.setOut JWF11_p30.out (a := ⟨w28.heap.size, 0, none⟩) (by first | (left; simp only; first | done | omega) | (right; simp only; first | done | omega)) (.int .i64 r0)) (a := ⟨w28.heap.size, 1, none⟩) (by first | (left; simp only; first | done | omega) | (right; simp only; first | done | omega)) (.slice aK1 r1.length cK1)) (a := ⟨w28.heap.size, 2, none⟩) (by first | (left; simp only; first | done | omega) | (right; simp only; first | done | omega)) (.slice aK2 r2.length cK2)) (a := ⟨w28.heap.size, 3, none⟩) (by first | (left; simp only; first | done | omega) | (right; simp only; first | done | omega)) (.slice aK3 r3.length cK3)) (a := ⟨w28.heap.size, 4, none⟩) (by first | (left; simp only; first | done | omega) | (right; simp only; first | done | omega)) (.slice aK4 r4.length cK4))
           try clear JWF11_p30
           have JK'' := qH (Iv.setOut (Iv.setOut (Iv.setOut (Iv.setOut (Iv.setOut JK'.out (a := ⟨w28.heap.size, 0, none⟩) (by first | (left; simp only; first | done | omega) | (right; simp only; first | done | omega)) (.int .i64 r0)) (a := ⟨w28.heap.size, 1, none⟩) (by first | (left; simp only; first | done | omega) | (right; simp only; first | done | omega)) (.slice aK1 r1.length cK1)) (a := ⟨w28.heap.size, 2, none⟩) (by first | (left; simp only; first | done | omega) | (right; simp only; first | done | omega)) (.slice aK2 r2.length cK2)) (a := ⟨w28.heap.size, 3, none⟩) (by first | (left; simp only; first | done | omega) | (right; simp only; first | done | omega)) (.slice aK3 r3.length cK3)) (a := ⟨w28.heap.size, 4, none⟩) (by first | (left; simp only; first | done | omega) | (right; simp only; first | done | omega)) (.slice aK4 r4.length cK4))
           try clear JK'
           have HYG' := qH (own_setOut (own_setOut (own_setOut (own_setOut (own_setOut HYG.out (b := w28.heap.size) (o := 0) (fun hk => by have := hqG _ hk; omega) (.int .i64 r0)) (b := w28.heap.size) (o := 1) (fun hk => by have := hqG _ hk; omega) (.slice aK1 r1.length cK1)) (b := w28.heap.size) (o := 2) (fun hk => by have := hqG _ hk; omega) (.slice aK2 r2.length cK2)) (b := w28.heap.size) (o := 3) (fun hk => by have := hqG _ hk; omega) (.slice aK3 r3.length cK3)) (b := w28.heap.size) (o := 4) (fun hk => by have := hqG _ hk; omega) (.slice aK4 r4.length cK4))
           try clear HYG
           have HYG := HYG'
           clear HYG'
           clear fF380 cF380 fF381 cF381 fF382 cF382 fF383 cF383 fF384 cF384
           refine ⟨?_, ?_⟩
           · first | (have u9 : wF38A1.cell? ⟨w.heap.size, 0, none⟩ = some (.int .i64 x00) ∧ wF38A1.cell? ⟨w.heap.size, 1, none⟩ = some (.slice a01 x01.length c01) ∧ wF38A1.cell? ⟨w.heap.size + 1, 0, none⟩ = some (.int .i64 x10) ∧ wF38A1.cell? ⟨w.heap.size + 1, 1, none⟩ = some (.slice a11 x11.length c11) ∧ wF38A1.cell? ⟨w.heap.size + 1 + 1, 0, none⟩ = some (.int .i64 x20) ∧ wF38A1.cell? ⟨w.heap.size + 1 + 1, 1, none⟩ = some (.slice a21 x21.length c21) ∧ wF38A1.cell? ⟨gUF11, 0, none⟩ = some (.int .i64 r0) ∧ wF38A1.cell? ⟨gUF11, 1, none⟩ = some (.slice aW1 r1.length cW1) ∧ wF38A1.cell? ⟨gUF11, 2, none⟩ = some (.slice aW2 r2.length cW2) ∧ wF38A1.cell? ⟨gUF11, 3, none⟩ = some (.slice aW3 r3.length cW3) ∧ wF38A1.cell? ⟨gUF11, 4, none⟩ = some (.slice aW4 r4.length cW4) ∧ wF38A1.cell? ⟨w8.heap.size, 0, none⟩ = some (.int .i64 x00) ∧ wF38A1.cell? ⟨w8.heap.size, 1, none⟩ = some (.slice ax01 x01.length cx01) ∧ wF38A1.cell? ⟨w9.heap.size, 0, none⟩ = some (.int .i64 x10) ∧ wF38A1.cell? ⟨w9.heap.size, 1, none⟩ = some (.slice ax11 x11.length cx11) ∧ wF38A1.cell? ⟨w10.heap.size, 0, none⟩ = some (.int .i64 x20) ∧ wF38A1.cell? ⟨w10.heap.size, 1, none⟩ = some (.slice ax21 x21.length cx21) ∧ wF38A1.cell? ⟨w11.heap.size, 0, none⟩ = some (.int .i64 r0) ∧ wF38A1.cell? ⟨w11.heap.size, 1, none⟩ = some (.slice aG1 r1.length cG1) ∧ wF38A1.cell? ⟨w11.heap.size, 2, none⟩ = some (.slice aG2 r2.length cG2) ∧ wF38A1.cell? ⟨w11.heap.size, 3, none⟩ = some (.slice aG3 r3.length cG3) ∧ wF38A1.cell? ⟨w11.heap.size, 4, none⟩ = some (.slice aG4 r4.length cG4) := ⟨hQ44.c 0 0, hQ44.c 0 1, hQ44.c 1 0, hQ44.c 1 1, hQ44.c 2 0, hQ44.c 2 1, hQ44.c 3 0, hQ44.c 3 1, hQ44.c 3 2, hQ44.c 3 3, hQ44.c 3 4, hQ44.c 4 0, hQ44.c 4 1, hQ44.c 5 0, hQ44.c 5 1, hQ44.c 6 0, hQ44.c 6 1, hQ44.c 7 0, hQ44.c 7 1, hQ44.c 7 2, hQ44.c 7 3, hQ44.c 7 4⟩; with_reducible exact u9) | (have u9 : (((((wF38A1.setCell ⟨w28.heap.size, 0, none⟩ (.int .i64 r0)).setCell ⟨w28.heap.size, 1, none⟩ (.slice aK1 r1.length cK1)).setCell ⟨w28.heap.size, 2, none⟩ (.slice aK2 r2.length cK2)).setCell ⟨w28.heap.size, 3, none⟩ (.slice aK3 r3.length cK3)).setCell ⟨w28.heap.size, 4, none⟩ (.slice aK4 r4.length cK4)).cell? ⟨w.heap.size, 0, none⟩ = some (.int .i64 x00) ∧ (((((wF38A1.setCell ⟨w28.heap.size, 0, none⟩ (.int .i64 r0)).setCell ⟨w28.heap.size, 1, none⟩ (.slice aK1 r1.length cK1)).setCell ⟨w28.heap.size, 2, none⟩ (.slice aK2 r2.length cK2)).setCell ⟨w28.heap.size, 3, none⟩ (.slice aK3 r3.length cK3)).setCell ⟨w28.heap.size, 4, none⟩ (.slice aK4 r4.length cK4)).cell? ⟨w.heap.size, 1, none⟩ = some (.slice a01 x01.length c01) ∧ (((((wF38A1.setCell ⟨w28.heap.size, 0, none⟩ (.int .i64 r0)).setCell ⟨w28.heap.size, 1, none⟩ (.slice aK1 r1.length cK1)).setCell ⟨w28.heap.size, 2, none⟩ (.slice aK2 r2.length cK2)).setCell ⟨w28.heap.size, 3, none⟩ (.slice aK3 r3.length cK3)).setCell ⟨w28.heap.size, 4, none⟩ (.slice aK4 r4.length cK4)).cell? ⟨w.heap.size + 1, 0, none⟩ = some (.int .i64 x10) ∧ (((((wF38A1.setCell ⟨w28.heap.size, 0, none⟩ (.int .i64 r0)).setCell ⟨w28.heap.size, 1, none⟩ (.slice aK1 r1.length cK1)).setCell ⟨w28.heap.size, 2, none⟩ (.slice aK2 r2.length cK2)).setCell ⟨w28.heap.size, 3, none⟩ (.slice aK3 r3.length cK3)).setCell ⟨w28.heap.size, 4, none⟩ (.slice aK4 r4.length cK4)).cell? ⟨w.heap.size + 1, 1, none⟩ = some (.slice a11 x11.length c11) ∧ (((((wF38A1.setCell ⟨w28.heap.size, 0, none⟩ (.int .i64 r0)).setCell ⟨w28.heap.size, 1, none⟩ (.slice aK1 r1.length cK1)).setCell ⟨w28.heap.size, 2, none⟩ (.slice aK2 r2.length cK2)).setCell ⟨w28.heap.size, 3, none⟩ (.slice aK3 r3.length cK3)).setCell ⟨w28.heap.size, 4, none⟩ (.slice aK4 r4.length cK4)).cell? ⟨w.heap.size + 1 + 1, 0, none⟩ = some (.int .i64 x20) ∧ (((((wF38A1.setCell ⟨w28.heap.size, 0, none⟩ (.int .i64 r0)).setCell ⟨w28.heap.size, 1, none⟩ (.slice aK1 r1.length cK1)).setCell ⟨w28.heap.size, 2, none⟩ (.slice aK2 r2.length cK2)).setCell ⟨w28.heap.size, 3, none⟩ (.slice aK3 r3.length cK3)).setCell ⟨w28.heap.size, 4, none⟩ (.slice aK4 r4.length cK4)).cell? ⟨w.heap.size + 1 + 1, 1, none⟩ = some (.slice a21 x21.length c21) ∧ (((((wF38A1.setCell ⟨w28.heap.size, 0, none⟩ (.int .i64 r0)).setCell ⟨w28.heap.size, 1, none⟩ (.slice aK1 r1.length cK1)).setCell ⟨w28.heap.size, 2, none⟩ (.slice aK2 r2.length cK2)).setCell ⟨w28.heap.size, 3, none⟩ (.slice aK3 r3.length cK3)).setCell ⟨w28.heap.size, 4, none⟩ (.slice aK4 r4.length cK4)).cell? ⟨gUF11, 0, none⟩ = some (.int .i64 r0) ∧ (((((wF38A1.setCell ⟨w28.heap.size, 0, none⟩ (.int .i64 r0)).setCell ⟨w28.heap.size, 1, none⟩ (.slice aK1 r1.length cK1)).setCell ⟨w28.heap.size, 2, none⟩ (.slice aK2 r2.length cK2)).setCell ⟨w28.heap.size, 3, none⟩ (.slice aK3 r3.length cK3)).setCell ⟨w28.heap.size, 4, none⟩ (.slice aK4 r4.length cK4)).cell? ⟨gUF11, 1, none⟩ = some (.slice aW1 r1.length cW1) ∧ (((((wF38A1.setCell ⟨w28.heap.size, 0, none⟩ (.int .i64 r0)).setCell ⟨w28.heap.size, 1, none⟩ (.slice aK1 r1.length cK1)).setCell ⟨w28.heap.size, 2, none⟩ (.slice aK2 r2.length cK2)).setCell ⟨w28.heap.size, 3, none⟩ (.slice aK3 r3.length cK3)).setCell ⟨w28.heap.size, 4, none⟩ (.slice aK4 r4.length cK4)).cell? ⟨gUF11, 2, none⟩ = some (.slice aW2 r2.length cW2) ∧ (((((wF38A1.setCell ⟨w28.heap.size, 0, none⟩ (.int .i64 r0)).setCell ⟨w28.heap.size, 1, none⟩ (.slice aK1 r1.length cK1)).setCell ⟨w28.heap.size, 2, none⟩ (.slice aK2 r2.length cK2)).setCell ⟨w28.heap.size, 3, none⟩ (.slice aK3 r3.length cK3)).setCell ⟨w28.heap.size, 4, none⟩ (.slice aK4 r4.length cK4)).cell? ⟨gUF11, 3, none⟩ = some (.slice aW3 r3.length cW3) ∧ (((((wF38A1.setCell ⟨w28.heap.size, 0, none⟩ (.int .i64 r0)).setCell ⟨w28.heap.size, 1, none⟩ (.slice aK1 r1.length cK1)).setCell ⟨w28.heap.size, 2, none⟩ (.slice aK2 r2.length cK2)).setCell ⟨w28.heap.size, 3, none⟩ (.slice aK3 r3.length cK3)).setCell ⟨w28.heap.size, 4, none⟩ (.slice aK4 r4.length cK4)).cell? ⟨gUF11, 4, none⟩ = some (.slice aW4 r4.length cW4) ∧ (((((wF38A1.setCell ⟨w28.heap.size, 0, none⟩ (.int .i64 r0)).setCell ⟨w28.heap.size, 1, none⟩ (.slice aK1 r1.length cK1)).setCell ⟨w28.heap.size, 2, none⟩ (.slice aK2 r2.length cK2)).setCell ⟨w28.heap.size, 3, none⟩ (.slice aK3 r3.length cK3)).setCell ⟨w28.heap.size, 4, none⟩ (.slice aK4 r4.length cK4)).cell? ⟨w8.heap.size, 0, none⟩ = some (.int .i64 x00) ∧ (((((wF38A1.setCell ⟨w28.heap.size, 0, none⟩ (.int .i64 r0)).setCell ⟨w28.heap.size, 1, none⟩ (.slice aK1 r1.length cK1)).setCell ⟨w28.heap.size, 2, none⟩ (.slice aK2 r2.length cK2)).setCell ⟨w28.heap.size, 3, none⟩ (.slice aK3 r3.length cK3)).setCell ⟨w28.heap.size, 4, none⟩ (.slice aK4 r4.length cK4)).cell? ⟨w8.heap.size, 1, none⟩ = some (.slice ax01 x01.length cx01) ∧ (((((wF38A1.setCell ⟨w28.heap.size, 0, none⟩ (.int .i64 r0)).setCell ⟨w28.heap.size, 1, none⟩ (.slice aK1 r1.length cK1)).setCell ⟨w28.heap.size, 2, none⟩ (.slice aK2 r2.length cK2)).setCell ⟨w28.heap.size, 3, none⟩ (.slice aK3 r3.length cK3)).setCell ⟨w28.heap.size, 4, none⟩ (.slice aK4 r4.length cK4)).cell? ⟨w9.heap.size, 0, none⟩ = some (.int .i64 x10) ∧ (((((wF38A1.setCell ⟨w28.heap.size, 0, none⟩ (.int .i64 r0)).setCell ⟨w28.heap.size, 1, none⟩ (.slice aK1 r1.length cK1)).setCell ⟨w28.heap.size, 2, none⟩ (.slice aK2 r2.length cK2)).setCell ⟨w28.heap.size, 3, none⟩ (.slice aK3 r3.length cK3)).setCell ⟨w28.heap.size, 4, none⟩ (.slice aK4 r4.length cK4)).cell? ⟨w9.heap.size, 1, none⟩ = some (.slice ax11 x11.length cx11) ∧ (((((wF38A1.setCell ⟨w28.heap.size, 0, none⟩ (.int .i64 r0)).setCell ⟨w28.heap.size, 1, none⟩ (.slice aK1 r1.length cK1)).setCell ⟨w28.heap.size, 2, none⟩ (.slice aK2 r2.length cK2)).setCell ⟨w28.heap.size, 3, none⟩ (.slice aK3 r3.length cK3)).setCell ⟨w28.heap.size, 4, none⟩ (.slice aK4 r4.length cK4)).cell? ⟨w10.heap.size, 0, none⟩ = some (.int .i64 x20) ∧ (((((wF38A1.setCell ⟨w28.heap.size, 0, none⟩ (.int .i64 r0)).setCell ⟨w28.heap.size, 1, none⟩ (.slice aK1 r1.length cK1)).setCell ⟨w28.heap.size, 2, none⟩ (.slice aK2 r2.length cK2)).setCell ⟨w28.heap.size, 3, none⟩ (.slice aK3 r3.length cK3)).setCell ⟨w28.heap.size, 4, none⟩ (.slice aK4 r4.length cK4)).cell? ⟨w10.heap.size, 1, none⟩ = some (.slice ax21 x21.length cx21) ∧ (((((wF38A1.setCell ⟨w28.heap.size, 0, none⟩ (.int .i64 r0)).setCell ⟨w28.heap.size, 1, none⟩ (.slice aK1 r1.length cK1)).setCell ⟨w28.heap.size, 2, none⟩ (.slice aK2 r2.length cK2)).setCell ⟨w28.heap.size, 3, none⟩ (.slice aK3 r3.length cK3)).setCell ⟨w28.heap.size, 4, none⟩ (.slice aK4 r4.length cK4)).cell? ⟨w11.heap.size, 0, none⟩ = some (.int .i64 r0) ∧ (((((wF38A1.setCell ⟨w28.heap.size, 0, none⟩ (.int .i64 r0)).setCell ⟨w28.heap.size, 1, none⟩ (.slice aK1 r1.length cK1)).setCell ⟨w28.heap.size, 2, none⟩ (.slice aK2 r2.length cK2)).setCell ⟨w28.heap.size, 3, none⟩ (.slice aK3 r3.length cK3)).setCell ⟨w28.heap.size, 4, none⟩ (.slice aK4 r4.length cK4)).cell? ⟨w11.heap.size, 1, none⟩ = some (.slice aG1 r1.length cG1) ∧ (((((wF38A1.setCell ⟨w28.heap.size, 0, none⟩ (.int .i64 r0)).setCell ⟨w28.heap.size, 1, none⟩ (.slice aK1 r1.length cK1)).setCell ⟨w28.heap.size, 2, none⟩ (.slice aK2 r2.length cK2)).setCell ⟨w28.heap.size, 3, none⟩ (.slice aK3 r3.length cK3)).setCell ⟨w28.heap.size, 4, none⟩ (.slice aK4 r4.length cK4)).cell? ⟨w11.heap.size, 2, none⟩ = some (.slice aG2 r2.length cG2) ∧ (((((wF38A1.setCell ⟨w28.heap.size, 0, none⟩ (.int .i64 r0)).setCell ⟨w28.heap.size, 1, none⟩ (.slice aK1 r1.length cK1)).setCell ⟨w28.heap.size, 2, none⟩ (.slice aK2 r2.length cK2)).setCell ⟨w28.heap.size, 3, none⟩ (.slice aK3 r3.length cK3)).setCell ⟨w28.heap.size, 4, none⟩ (.slice aK4 r4.length cK4)).cell? ⟨w11.heap.size, 3, none⟩ = some (.slice aG3 r3.length cG3) ∧ (((((wF38A1.setCell ⟨w28.heap.size, 0, none⟩ (.int .i64 r0)).setCell ⟨w28.heap.size, 1, none⟩ (.slice aK1 r1.length cK1)).setCell ⟨w28.heap.size, 2, none⟩ (.slice aK2 r2.length cK2)).setCell ⟨w28.heap.size, 3, none⟩ (.slice aK3 r3.length cK3)).setCell ⟨w28.heap.size, 4, none⟩ (.slice aK4 r4.length cK4)).cell? ⟨w11.heap.size, 4, none⟩ = some (.slice aG4 r4.length cG4) := ⟨hQ7.c 0 0, hQ7.c 0 1, hQ7.c 1 0, hQ7.c 1 1, hQ7.c 2 0, hQ7.c 2 1, hQ7.c 3 0, hQ7.c 3 1, hQ7.c 3 2, hQ7.c 3 3, hQ7.c 3 4, hQ7.c 4 0, hQ7.c 4 1, hQ7.c 5 0, hQ7.c 5 1, hQ7.c 6 0, hQ7.c 6 1, hQ7.c 7 0, hQ7.c 7 1, hQ7.c 7 2, hQ7.c 7 3, hQ7.c 7 4⟩; with_reducible exact u9) | exact ⟨hQ7.c 0 0, hQ7.c 0 1, hQ7.c 1 0, hQ7.c 1 1, hQ7.c 2 0, hQ7.c 2 1, hQ7.c 3 0, hQ7.c 3 1, hQ7.c 3 2, hQ7.c 3 3, hQ7.c 3 4, hQ7.c 4 0, hQ7.c 4 1, hQ7.c 5 0, hQ7.c 5 1, hQ7.c 6 0, hQ7.c 6 1, hQ7.c 7 0, hQ7.c 7 1, hQ7.c 7 2, hQ7.c 7 3, hQ7.c 7 4⟩ | exact ⟨hQ44.c 0 0, hQ44.c 0 1, hQ44.c 1 0, hQ44.c 1 1, hQ44.c 2 0, hQ44.c 2 1, hQ44.c 3 0, hQ44.c 3 1, hQ44.c 3 2, hQ44.c 3 3, hQ44.c 3 4, hQ44.c 4 0, hQ44.c 4 1, hQ44.c 5 0, hQ44.c 5 1, hQ44.c 6 0, hQ44.c 6 1, hQ44.c 7 0, hQ44.c 7 1, hQ44.c 7 2, hQ44.c 7 3, hQ44.c 7 4⟩
           refine t4F ?_
           refine t4_nil (NoPanic.normal ?_)
           have hsF38 : St w (((((wF38A1.setCell ⟨w28.heap.size, 0, none⟩ (.int .i64 r0)).setCell ⟨w28.heap.size, 1, none⟩ (.slice aK1 r1.length cK1)).setCell ⟨w28.heap.size, 2, none⟩ (.slice aK2 r2.length cK2)).setCell ⟨w28.heap.size, 3, none⟩ (.slice aK3 r3.length cK3)).setCell ⟨w28.heap.size, 4, none⟩ (.slice aK4 r4.length cK4)).heap.size (((((wF38A1.setCell ⟨w28.heap.size, 0, none⟩ (.int .i64 r0)).setCell ⟨w28.heap.size, 1, none⟩ (.slice aK1 r1.length cK1)).setCell ⟨w28.heap.size, 2, none⟩ (.slice aK2 r2.length cK2)).setCell ⟨w28.heap.size, 3, none⟩ (.slice aK3 r3.length cK3)).setCell ⟨w28.heap.size, 4, none⟩ (.slice aK4 r4.length cK4)) [(w.heap.size, #[.int .i64 x00, .slice a01 x01.length c01], 24), (w.heap.size + 1, #[.int .i64 x10, .slice a11 x11.length c11], 27), (w.heap.size + 1 + 1, #[.int .i64 x20, .slice a21 x21.length c21], 30), (gUF11, #[.int .i64 r0, .slice aW1 r1.length cW1, .slice aW2 r2.length cW2, .slice aW3 r3.length cW3, .slice aW4 r4.length cW4], 37), (w8.heap.size, #[.int .i64 x00, .slice ax01 x01.length cx01], 42), (w9.heap.size, #[.int .i64 x10, .slice ax11 x11.length cx11], 46), (w10.heap.size, #[.int .i64 x20, .slice ax21 x21.length cx21], 48), (w11.heap.size, #[.int .i64 r0, .slice aG1 r1.length cG1, .slice aG2 r2.length cG2, .slice aG3 r3.length cG3, .slice aG4 r4.length cG4], 37), (w28.heap.size, #[.int .i64 r0, .slice aK1 r1.length cK1, .slice aK2 r2.length cK2, .slice aK3 r3.length cK3, .slice aK4 r4.length cK4], 37)] := hQ7.up hQ7.hi (Nat.le_refl _)
           have hVF38 : wF38A1.heap.size = (((((wF38A1.setCell ⟨w28.heap.size, 0, none⟩ (.int .i64 r0)).setCell ⟨w28.heap.size, 1, none⟩ (.slice aK1 r1.length cK1)).setCell ⟨w28.heap.size, 2, none⟩ (.slice aK2 r2.length cK2)).setCell ⟨w28.heap.size, 3, none⟩ (.slice aK3 r3.length cK3)).setCell ⟨w28.heap.size, 4, none⟩ (.slice aK4 r4.length cK4)).heap.size := by simp [World.setCell]
           obtain ⟨loUF38, hiUF38, hUF38, JUF38⟩ : ∃ lo hi : Nat, (w24.heap.size ≤ lo ∧ hi ≤ wF38A1.heap.size ∧ (w28.heap.size < lo ∨ hi ≤ w28.heap.size) ∧ w24.heap.size ≤ w28.heap.size ∧ w28.heap.size < wF38A1.heap.size) ∧ Hid (Iv lo hi (((((wF38A1.setCell ⟨w28.heap.size, 0, none⟩ (.int .i64 r0)).setCell ⟨w28.heap.size, 1, none⟩ (.slice aK1 r1.length cK1)).setCell ⟨w28.heap.size, 2, none⟩ (.slice aK2 r2.length cK2)).setCell ⟨w28.heap.size, 3, none⟩ (.slice aK3 r3.length cK3)).setCell ⟨w28.heap.size, 4, none⟩ (.slice aK4 r4.length cK4)) [.int .i64 r0, .slice aK1 r1.length cK1, .slice aK2 r2.length cK2, .slice aK3 r3.length cK3, .slice aK4 r4.length cK4] (r0, r1, r2, r3, r4)) := ⟨w27.heap.size, w28.heap.size, by omega, JK''.out⟩
           rw [hVF38] at hUF38
           clear hVF38 JK''
           generalize hhwUF38 : (((((wF38A1.setCell ⟨w28.heap.size, 0, none⟩ (.int .i64 r0)).setCell ⟨w28.heap.size, 1, none⟩ (.slice aK1 r1.length cK1)).setCell ⟨w28.heap.size, 2, none⟩ (.slice aK2 r2.length cK2)).setCell ⟨w28.heap.size, 3, none⟩ (.slice aK3 r3.length cK3)).setCell ⟨w28.heap.size, 4, none⟩ (.slice aK4 r4.length cK4)) = wUF38 at hsF38 hUF38 JUF38 JWF11_p31 HYG ⊢
           clear hhwUF38
           generalize hhgUF38 : w28.heap.size = gUF38 at hsF38 hUF38 JUF38 JWF11_p31 HYG ⊢
           clear hhgUF38
           generalize at01 = zat01 at hsF38 hUF38 JUF38 JWF11_p31 HYG ⊢
           generalize ct01 = zct01 at hsF38 hUF38 JUF38 JWF11_p31 HYG ⊢
           generalize at11 = zat11 at hsF38 hUF38 JUF38 JWF11_p31 HYG ⊢
           generalize ct11 = zct11 at hsF38 hUF38 JUF38 JWF11_p31 HYG ⊢
           generalize at21 = zat21 at hsF38 hUF38 JUF38 JWF11_p31 HYG ⊢
           generalize ct21 = zct21 at hsF38 hUF38 JUF38 JWF11_p31 HYG ⊢
           generalize aK1 = zaK1 at hsF38 hUF38 JUF38 JWF11_p31 HYG ⊢
           generalize cK1 = zcK1 at hsF38 hUF38 JUF38 JWF11_p31 HYG ⊢
           generalize aK2 = zaK2 at hsF38 hUF38 JUF38 JWF11_p31 HYG ⊢
           generalize cK2 = zcK2 at hsF38 hUF38 JUF38 JWF11_p31 HYG ⊢
           generalize aK3 = zaK3 at hsF38 hUF38 JUF38 JWF11_p31 HYG ⊢
           generalize cK3 = zcK3 at hsF38 hUF38 JUF38 JWF11_p31 HYG ⊢
           generalize aK4 = zaK4 at hsF38 hUF38 JUF38 JWF11_p31 HYG ⊢
           generalize cK4 = zcK4 at hsF38 hUF38 JUF38 JWF11_p31 HYG ⊢
           revert HYG
           revert JWF11_p31
           revert JUF38
           revert hUF38
           revert hsF38
           revert zcK4
           revert zaK4
           revert zcK3
           revert zaK3
           revert zcK2
           revert zaK2
           revert zcK1
           revert zaK1
           revert zct21
           revert zat21
           revert zct11
           revert zat11
           revert zct01
           revert zat01
           revert hiUF38
           revert loUF38
           revert gUF38
           revert wUF38
           exact HJ.get
         · refine t4_hard rfl (by rfl) (fun K hK => ?_)
           go_wp2_with fail
           have hQ45 := hQ42.alloc #[.int .i64 0, .slice none 0 0, .slice none 0 0, .slice none 0 0, .slice none 0 0] 37 rfl
           have JWF11_p29 := qH (Iv.mono JWF11_p28.out (belowA _ (.cells #[.int .i64 0, .slice none 0 0, .slice none 0 0, .slice none 0 0, .slice none 0 0] 37)))
           try clear JWF11_p28
           have Jt0_p3 := qH (Iv.mono Jt0''.out (belowA _ (.cells #[.int .i64 0, .slice none 0 0, .slice none 0 0, .slice none 0 0, .slice none 0 0] 37)))
           try clear Jt0''
           have Jt1'' := qH (Iv.mono Jt1'.out (belowA _ (.cells #[.int .i64 0, .slice none 0 0, .slice none 0 0, .slice none 0 0, .slice none 0 0] 37)))
           try clear Jt1'
           have Jt2' := qH (Iv.mono Jt2.out (belowA _ (.cells #[.int .i64 0, .slice none 0 0, .slice none 0 0, .slice none 0 0, .slice none 0 0] 37)))
           try clear Jt2
           have HYG' := qH (Own.mono HYG.out (belowA _ (.cells #[.int .i64 0, .slice none 0 0, .slice none 0 0, .slice none 0 0, .slice none 0 0] 37)))
           try clear HYG
           have HYG := HYG'
           clear HYG'
           have hzF38A2 : w27.heap.size + 1 ≤ (w27.alloc (.cells #[.int .i64 0, .slice none 0 0, .slice none 0 0, .slice none 0 0, .slice none 0 0] 37)).heap.size := by simp
           generalize hgenF38A2 : w27.alloc (.cells #[.int .i64 0, .slice none 0 0, .slice none 0 0, .slice none 0 0, .slice none 0 0] 37) = wF38A2 at *
           clear hgenF38A2
           refine ⟨⟨hQ45.c 0 0, hQ45.c 0 1, hQ45.c 1 0, hQ45.c 1 1, hQ45.c 2 0, hQ45.c 2 1, hQ45.c 3 0, hQ45.c 3 1, hQ45.c 3 2, hQ45.c 3 3, hQ45.c 3 4, hQ45.c 4 0, hQ45.c 4 1, hQ45.c 5 0, hQ45.c 5 1, hQ45.c 6 0, hQ45.c 6 1, hQ45.c 7 0, hQ45.c 7 1, hQ45.c 7 2, hQ45.c 7 3, hQ45.c 7 4⟩, ?_⟩
           refine t4F ?_
           refine t4_hard rfl (by rfl) (fun K hK => ?_)
           go_wp2_with (go_at_call 11; refine (CI.out _ _ _ _ _ _ _ (Iv.rd Jt0_p3.out) (Iv.rd Jt1''.out) (Iv.rd Jt2'.out)).mono ?_; rintro e w28 ⟨uK0, uK1, uK2, uK3, uK4, rfl, frK, hb28⟩)
           have JWF11_p30 := qH (Iv.mono JWF11_p29.out hb28)
           try clear JWF11_p29
           have Jt0_p4 := qH (Iv.mono Jt0_p3.out hb28)
           try clear Jt0_p3
           have Jt1_p3 := qH (Iv.mono Jt1''.out hb28)
           try clear Jt1''
           have Jt2'' := qH (Iv.mono Jt2'.out hb28)
           try clear Jt2'
           have hQ46 := hQ45.step hb28
           have hz24 : wF38A2.heap.size ≤ w28.heap.size := by simpa using hb28.size
           have JK := qH (Fresh.iv frK)
           have zK0 := rd_cons rfl (Iv.rd JK.out)
           obtain ⟨rfl, _⟩ := rd_i1 zK0.1
           have zK1 := rd_cons rfl zK0.2
           obtain ⟨aK1, cK1, rfl, _⟩ := rd_list zK1.1
           have zK2 := rd_cons rfl zK1.2
           obtain ⟨aK2, cK2, rfl, _⟩ := rd_list zK2.1
           have zK3 := rd_cons rfl zK2.2
           obtain ⟨aK3, cK3, rfl, _⟩ := rd_list zK3.1
           obtain ⟨aK4, cK4, rfl, _⟩ := rd_list zK3.2
           clear zK0 zK1 zK2 zK3
           clear frK
           have HYG' := qH (Own.mono HYG.out hb28)
           try clear HYG
           have HYG := HYG'
           clear HYG'
           try clear Jt0_p4
           try clear Jt1_p3
           try clear Jt2''
           refine ⟨⟨hQ46.c 0 0, hQ46.c 0 1, hQ46.c 1 0, hQ46.c 1 1, hQ46.c 2 0, hQ46.c 2 1, hQ46.c 3 0, hQ46.c 3 1, hQ46.c 3 2, hQ46.c 3 3, hQ46.c 3 4, hQ46.c 4 0, hQ46.c 4 1, hQ46.c 5 0, hQ46.c 5 1, hQ46.c 6 0, hQ46.c 6 1, hQ46.c 7 0, hQ46.c 7 1, hQ46.c 7 2, hQ46.c 7 3, hQ46.c 7 4⟩, ?_⟩
           refine t4F ?_
           refine t4_hard rfl (by rfl) (fun K hK => ?_)
           have fF380 := hQ46.freeAt 8 rfl 0
           have cF380 := hQ46.c 8 0
           have fF381 := hQ46.freeAt 8 rfl 1
           have cF381 := hQ46.c 8 1
           have fF382 := hQ46.freeAt 8 rfl 2
           have cF382 := hQ46.c 8 2
           have fF383 := hQ46.freeAt 8 rfl 3
           have cF383 := hQ46.c 8 3
           have fF384 := hQ46.freeAt 8 rfl 4
           have cF384 := hQ46.c 8 4
           go_wp2_with fail
           have hQ8 := (((((hQ46.set (p := [_, _, _, _, _, _, _, _]) (by simp <;> omega) 0 (.int .i64 r0)).set (p := [_, _, _, _, _, _, _, _]) (by simp <;> omega) 1 (.slice aK1 r1.length cK1)).set (p := [_, _, _, _, _, _, _, _]) (by simp <;> omega) 2 (.slice aK2 r2.length cK2)).set (p := [_, _, _, _, _, _, _, _]) (by simp <;> omega) 3 (.slice aK3 r3.length cK3)).set (p := [_, _, _, _, _, _, _, _]) (by simp <;> omega) 4 (.slice aK4 r4.length cK4))
           have JWF11_p31 := qH (Iv.setOut (Iv.setOut (Iv.setOut (Iv.setOut (Iv.setOut JWF11_p30.out (a := ⟨w27.heap.size, 0, none⟩) (by first | (left; simp only; first | done | omega) | (right; simp only; first | done | omega)) (.int .i64 r0)) (a := ⟨w27.heap.size, 1, none⟩) (by first | (left; simp only; first | done | omega) | (right; simp only; first | done | omega)) (.slice aK1 r1.length cK1)) (a := ⟨w27.heap.size, 2, none⟩) (by first | (left; simp only; first | done | omega) | (right; simp only; first | done | omega)) (.slice aK2 r2.length cK2)) (a := ⟨w27.heap.size, 3, none⟩) (by first | (left; simp only; first | done | omega) | (right; simp only; first | done | omega)) (.slice aK3 r3.length cK3)) (a := ⟨w27.heap.size, 4, none⟩) (by first | (left; simp only; first | done | omega) | (right; simp only; first | done | omega)) (.slice aK4 r4.length cK4))
           try clear JWF11_p30
           have JK' := qH (Iv.setOut (Iv.setOut (Iv.setOut (Iv.setOut (Iv.setOut JK.out (a := ⟨w27.heap.size, 0, none⟩) (by first | (left; simp only; first | done | omega) | (right; simp only; first | done | omega)) (.int .i64 r0)) (a := ⟨w27.heap.size, 1, none⟩) (by first | (left; simp only; first | done | omega) | (right; simp only; first | done | omega)) (.slice aK1 r1.length cK1)) (a := ⟨w27.heap.size, 2, none⟩) (by first | (left; simp only; first | done | omega) | (right; simp only; first | done | omega)) (.slice aK2 r2.length cK2)) (a := ⟨w27.heap.size, 3, none⟩) (by first | (left; simp only; first | done | omega) | (right; simp only; first | done | omega)) (.slice aK3 r3.length cK3)) (a := ⟨w27.heap.size, 4, none⟩) (by first | (left; simp only; first | done | omega) | (right; simp only; first | done | omega)) (.slice aK4 r4.length cK4))
           try clear JK
           have HYG' := qH (own_setOut (own_setOut (own_setOut (own_setOut (own_setOut HYG.out (b := w27.heap.size) (o := 0) (fun hk => by have := hqG _ hk; omega) (.int .i64 r0)) (b := w27.heap.size) (o := 1) (fun hk => by have := hqG _ hk; omega) (.slice aK1 r1.length cK1)) (b := w27.heap.size) (o := 2) (fun hk => by have := hqG _ hk; omega) (.slice aK2 r2.length cK2)) (b := w27.heap.size) (o := 3) (fun hk => by have := hqG _ hk; omega) (.slice aK3 r3.length cK3)) (b := w27.heap.size) (o := 4) (fun hk => by have := hqG _ hk; omega) (.slice aK4 r4.length cK4))
           try clear HYG
           have HYG := HYG'
           clear HYG'
           clear fF380 cF380 fF381 cF381 fF382 cF382 fF383 cF383 fF384 cF384
           refine ⟨?_, ?_⟩
           · first | (have u9 : w28.cell? ⟨w.heap.size, 0, none⟩ = some (.int .i64 x00) ∧ w28.cell? ⟨w.heap.size, 1, none⟩ = some (.slice a01 x01.length c01) ∧ w28.cell? ⟨w.heap.size + 1, 0, none⟩ = some (.int .i64 x10) ∧ w28.cell? ⟨w.heap.size + 1, 1, none⟩ = some (.slice a11 x11.length c11) ∧ w28.cell? ⟨w.heap.size + 1 + 1, 0, none⟩ = some (.int .i64 x20) ∧ w28.cell? ⟨w.heap.size + 1 + 1, 1, none⟩ = some (.slice a21 x21.length c21) ∧ w28.cell? ⟨gUF11, 0, none⟩ = some (.int .i64 r0) ∧ w28.cell? ⟨gUF11, 1, none⟩ = some (.slice aW1 r1.length cW1) ∧ w28.cell? ⟨gUF11, 2, none⟩ = some (.slice aW2 r2.length cW2) ∧ w28.cell? ⟨gUF11, 3, none⟩ = some (.slice aW3 r3.length cW3) ∧ w28.cell? ⟨gUF11, 4, none⟩ = some (.slice aW4 r4.length cW4) ∧ w28.cell? ⟨w8.heap.size, 0, none⟩ = some (.int .i64 x00) ∧ w28.cell? ⟨w8.heap.size, 1, none⟩ = some (.slice ax01 x01.length cx01) ∧ w28.cell? ⟨w9.heap.size, 0, none⟩ = some (.int .i64 x10) ∧ w28.cell? ⟨w9.heap.size, 1, none⟩ = some (.slice ax11 x11.length cx11) ∧ w28.cell? ⟨w10.heap.size, 0, none⟩ = some (.int .i64 x20) ∧ w28.cell? ⟨w10.heap.size, 1, none⟩ = some (.slice ax21 x21.length cx21) ∧ w28.cell? ⟨w11.heap.size, 0, none⟩ = some (.int .i64 r0) ∧ w28.cell? ⟨w11.heap.size, 1, none⟩ = some (.slice aG1 r1.length cG1) ∧ w28.cell? ⟨w11.heap.size, 2, none⟩ = some (.slice aG2 r2.length cG2) ∧ w28.cell? ⟨w11.heap.size, 3, none⟩ = some (.slice aG3 r3.length cG3) ∧ w28.cell? ⟨w11.heap.size, 4, none⟩ = some (.slice aG4 r4.length cG4) := ⟨hQ46.c 0 0, hQ46.c 0 1, hQ46.c 1 0, hQ46.c 1 1, hQ46.c 2 0, hQ46.c 2 1, hQ46.c 3 0, hQ46.c 3 1, hQ46.c 3 2, hQ46.c 3 3, hQ46.c 3 4, hQ46.c 4 0, hQ46.c 4 1, hQ46.c 5 0, hQ46.c 5 1, hQ46.c 6 0, hQ46.c 6 1, hQ46.c 7 0, hQ46.c 7 1, hQ46.c 7 2, hQ46.c 7 3, hQ46.c 7 4⟩; with_reducible exact u9) | (have u9 : (((((w28.setCell ⟨w27.heap.size, 0, none⟩ (.int .i64 r0)).setCell ⟨w27.heap.size, 1, none⟩ (.slice aK1 r1.length cK1)).setCell ⟨w27.heap.size, 2, none⟩ (.slice aK2 r2.length cK2)).setCell ⟨w27.heap.size, 3, none⟩ (.slice aK3 r3.length cK3)).setCell ⟨w27.heap.size, 4, none⟩ (.slice aK4 r4.length cK4)).cell? ⟨w.heap.size, 0, none⟩ = some (.int .i64 x00) ∧ (((((w28.setCell ⟨w27.heap.size, 0, none⟩ (.int .i64 r0)).setCell ⟨w27.heap.size, 1, none⟩ (.slice aK1 r1.length cK1)).setCell ⟨w27.heap.size, 2, none⟩ (.slice aK2 r2.length cK2)).setCell ⟨w27.heap.size, 3, none⟩ (.slice aK3 r3.length cK3)).setCell ⟨w27.heap.size, 4, none⟩ (.slice aK4 r4.length cK4)).cell? ⟨w.heap.size, 1, none⟩ = some (.slice a01 x01.length c01) ∧ (((((w28.setCell ⟨w27.heap.size, 0, none⟩ (.int .i64 r0)).setCell ⟨w27.heap.size, 1, none⟩ (.slice aK1 r1.length cK1)).setCell ⟨w27.heap.size, 2, none⟩ (.slice aK2 r2.length cK2)).setCell ⟨w27.heap.size, 3, none⟩ (.slice aK3 r3.length cK3)).setCell ⟨w27.heap.size, 4, none⟩ (.slice aK4 r4.length cK4)).cell? ⟨w.heap.size + 1, 0, none⟩ = some (.int .i64 x10) ∧ (((((w28.setCell ⟨w27.heap.size, 0, none⟩ (.int .i64 r0)).setCell ⟨w27.heap.size, 1, none⟩ (.slice aK1 r1.length cK1)).setCell ⟨w27.heap.size, 2, none⟩ (.slice aK2 r2.length cK2)).setCell ⟨w27.heap.size, 3, none⟩ (.slice aK3 r3.length cK3)).setCell ⟨w27.heap.size, 4, none⟩ (.slice aK4 r4.length cK4)).cell? ⟨w.heap.size + 1, 1, none⟩ = some (.slice a11 x11.length c11) ∧ (((((w28.setCell ⟨w27.heap.size, 0, none⟩ (.int .i64 r0)).setCell ⟨w27.heap.size, 1, none⟩ (.slice aK1 r1.length cK1)).setCell ⟨w27.heap.size, 2, none⟩ (.slice aK2 r2.length cK2)).setCell ⟨w27.heap.size, 3, none⟩ (.slice aK3 r3.length cK3)).setCell ⟨w27.heap.size, 4, none⟩ (.slice aK4 r4.length cK4)).cell? ⟨w.heap.size + 1 + 1, 0, none⟩ = some (.int .i64 x20) ∧ (((((w28.setCell ⟨w27.heap.size, 0, none⟩ (.int .i64 r0)).setCell ⟨w27.heap.size, 1, none⟩ (.slice aK1 r1.length cK1)).setCell ⟨w27.heap.size, 2, none⟩ (.slice aK2 r2.length cK2)).setCell ⟨w27.heap.size, 3, none⟩ (.slice aK3 r3.length cK3)).setCell ⟨w27.heap.size, 4, none⟩ (.slice aK4 r4.length cK4)).cell? ⟨w.heap.size + 1 + 1, 1, none⟩ = some (.slice a21 x21.length c21) ∧ (((((w28.setCell ⟨w27.heap.size, 0, none⟩ (.int .i64 r0)).setCell ⟨w27.heap.size, 1, none⟩ (.slice aK1 r1.length cK1)).setCell ⟨w27.heap.size, 2, none⟩ (.slice aK2 r2.length cK2)).setCell ⟨w27.heap.size, 3, none⟩ (.slice aK3 r3.length cK3)).setCell ⟨w27.heap.size, 4, none⟩ (.slice aK4 r4.length cK4)).cell? ⟨gUF11, 0, none⟩ = some (.int .i64 r0) ∧ (((((w28.setCell ⟨w27.heap.size, 0, none⟩ (.int .i64 r0)).setCell ⟨w27.heap.size, 1, none⟩ (.slice aK1 r1.length cK1)).setCell ⟨w27.heap.size, 2, none⟩ (.slice aK2 r2.length cK2)).setCell ⟨w27.heap.size, 3, none⟩ (.slice aK3 r3.length cK3)).setCell ⟨w27.heap.size, 4, none⟩ (.slice aK4 r4.length cK4)).cell? ⟨gUF11, 1, none⟩ = some (.slice aW1 r1.length cW1) ∧ (((((w28.setCell ⟨w27.heap.size, 0, none⟩ (.int .i64 r0)).setCell ⟨w27.heap.size, 1, none⟩ (.slice aK1 r1.length cK1)).setCell ⟨w27.heap.size, 2, none⟩ (.slice aK2 r2.length cK2)).setCell ⟨w27.heap.size, 3, none⟩ (.slice aK3 r3.length cK3)).setCell ⟨w27.heap.size, 4, none⟩ (.slice aK4 r4.length cK4)).cell? ⟨gUF11, 2, none⟩ = some (.slice aW2 r2.length cW2) ∧ (((((w28.setCell ⟨w27.heap.size, 0, none⟩ (.int .i64 r0)).setCell ⟨w27.heap.size, 1, none⟩ (.slice aK1 r1.length cK1)).setCell ⟨w27.heap.size, 2, none⟩ (.slice aK2 r2.length cK2)).setCell ⟨w27.heap.size, 3, none⟩ (.slice aK3 r3.length cK3)).setCell ⟨w27.heap.size, 4, none⟩ (.slice aK4 r4.length cK4)).cell? ⟨gUF11, 3, none⟩ = some (.slice aW3 r3.length cW3) ∧ (((((w28.setCell ⟨w27.heap.size, 0, none⟩ (.int .i64 r0)).setCell ⟨w27.heap.size, 1, none⟩ (.slice aK1 r1.length cK1)).setCell ⟨w27.heap.size, 2, none⟩ (.slice aK2 r2.length cK2)).setCell ⟨w27.heap.size, 3, none⟩ (.slice aK3 r3.length cK3)).setCell ⟨w27.heap.size, 4, none⟩ (.slice aK4 r4.length cK4)).cell? ⟨gUF11, 4, none⟩ = some (.slice aW4 r4.length cW4) ∧ (((((w28.setCell ⟨w27.heap.size, 0, none⟩ (.int .i64 r0)).setCell ⟨w27.heap.size, 1, none⟩ (.slice aK1 r1.length cK1)).setCell ⟨w27.heap.size, 2, none⟩ (.slice aK2 r2.length cK2)).setCell ⟨w27.heap.size, 3, none⟩ (.slice aK3 r3.length cK3)).setCell ⟨w27.heap.size, 4, none⟩ (.slice aK4 r4.length cK4)).cell? ⟨w8.heap.size, 0, none⟩ = some (.int .i64 x00) ∧ (((((w28.setCell ⟨w27.heap.size, 0, none⟩ (.int .i64 r0)).setCell ⟨w27.heap.size, 1, none⟩ (.slice aK1 r1.length cK1)).setCell ⟨w27.heap.size, 2, none⟩ (.slice aK2 r2.length cK2)).setCell ⟨w27.heap.size, 3, none⟩ (.slice aK3 r3.length cK3)).setCell ⟨w27.heap.size, 4, none⟩ (.slice aK4 r4.length cK4)).cell? ⟨w8.heap.size, 1, none⟩ = some (.slice ax01 x01.length cx01) ∧ (((((w28.setCell ⟨w27.heap.size, 0, none⟩ (.int .i64 r0)).setCell ⟨w27.heap.size, 1, none⟩ (.slice aK1 r1.length cK1)).setCell ⟨w27.heap.size, 2, none⟩ (.slice aK2 r2.length cK2)).setCell ⟨w27.heap.size, 3, none⟩ (.slice aK3 r3.length cK3)).setCell ⟨w27.heap.size, 4, none⟩ (.slice aK4 r4.length cK4)).cell? ⟨w9.heap.size, 0, none⟩ = some (.int .i64 x10) ∧ (((((w28.setCell ⟨w27.heap.size, 0, none⟩ (.int .i64 r0)).setCell ⟨w27.heap.size, 1, none⟩ (.slice aK1 r1.length cK1)).setCell ⟨w27.heap.size, 2, none⟩ (.slice aK2 r2.length cK2)).setCell ⟨w27.heap.size, 3, none⟩ (.slice aK3 r3.length cK3)).setCell ⟨w27.heap.size, 4, none⟩ (.slice aK4 r4.length cK4)).cell? ⟨w9.heap.size, 1, none⟩ = some (.slice ax11 x11.length cx11) ∧ (((((w28.setCell ⟨w27.heap.size, 0, none⟩ (.int .i64 r0)).setCell ⟨w27.heap.size, 1, none⟩ (.slice aK1 r1.length cK1)).setCell ⟨w27.heap.size, 2, none⟩ (.slice aK2 r2.length cK2)).setCell ⟨w27.heap.size, 3, none⟩ (.slice aK3 r3.length cK3)).setCell ⟨w27.heap.size, 4, none⟩ (.slice aK4 r4.length cK4)).cell? ⟨w10.heap.size, 0, none⟩ = some (.int .i64 x20) ∧ (((((w28.setCell ⟨w27.heap.size, 0, none⟩ (.int .i64 r0)).setCell ⟨w27.heap.size, 1, none⟩ (.slice aK1 r1.length cK1)).setCell ⟨w27.heap.size, 2, none⟩ (.slice aK2 r2.length cK2)).setCell ⟨w27.heap.size, 3, none⟩ (.slice aK3 r3.length cK3)).setCell ⟨w27.heap.size, 4, none⟩ (.slice aK4 r4.length cK4)).cell? ⟨w10.heap.size, 1, none⟩ = some (.slice ax21 x21.length cx21) ∧ (((((w28.setCell ⟨w27.heap.size, 0, none⟩ (.int .i64 r0)).setCell ⟨w27.heap.size, 1, none⟩ (.slice aK1 r1.length cK1)).setCell ⟨w27.heap.size, 2, none⟩ (.slice aK2 r2.length cK2)).setCell ⟨w27.heap.size, 3, none⟩ (.slice aK3 r3.length cK3)).setCell ⟨w27.heap.size, 4, none⟩ (.slice aK4 r4.length cK4)).cell? ⟨w11.heap.size, 0, none⟩ = some (.int .i64 r0) ∧ (((((w28.setCell ⟨w27.heap.size, 0, none⟩ (.int .i64 r0)).setCell ⟨w27.heap.size, 1, none⟩ (.slice aK1 r1.length cK1)).setCell ⟨w27.heap.size, 2, none⟩ (.slice aK2 r2.length cK2)).setCell ⟨w27.heap.size, 3, none⟩ (.slice aK3 r3.length cK3)).setCell ⟨w27.heap.size, 4, none⟩ (.slice aK4 r4.length cK4)).cell? ⟨w11.heap.size, 1, none⟩ = some (.slice aG1 r1.length cG1) ∧ (((((w28.setCell ⟨w27.heap.size, 0, none⟩ (.int .i64 r0)).setCell ⟨w27.heap.size, 1, none⟩ (.slice aK1 r1.length cK1)).setCell ⟨w27.heap.size, 2, none⟩ (.slice aK2 r2.length cK2)).setCell ⟨w27.heap.size, 3, none⟩ (.slice aK3 r3.length cK3)).setCell ⟨w27.heap.size, 4, none⟩ (.slice aK4 r4.length cK4)).cell? ⟨w11.heap.size, 2, none⟩ = some (.slice aG2 r2.length cG2) ∧ (((((w28.setCell ⟨w27.heap.size, 0, none⟩ (.int .i64 r0)).setCell ⟨w27.heap.size, 1, none⟩ (.slice aK1 r1.length cK1)).setCell ⟨w27.heap.size, 2, none⟩ (.slice aK2 r2.length cK2)).setCell ⟨w27.heap.size, 3, none⟩ (.slice aK3 r3.length cK3)).setCell ⟨w27.heap.size, 4, none⟩ (.slice aK4 r4.length cK4)).cell? ⟨w11.heap.size, 3, none⟩ = some (.slice aG3 r3.length cG3) ∧ (((((w28.setCell ⟨w27.heap.size, 0, none⟩ (.int .i64 r0)).setCell ⟨w27.heap.size, 1, none⟩ (.slice aK1 r1.length cK1)).setCell ⟨w27.heap.size, 2, none⟩ (.slice aK2 r2.length cK2)).setCell ⟨w27.heap.size, 3, none⟩ (.slice aK3 r3.length cK3)).setCell ⟨w27.heap.size, 4, none⟩ (.slice aK4 r4.length cK4)).cell? ⟨w11.heap.size, 4, none⟩ = some (.slice aG4 r4.length cG4) := ⟨hQ8.c 0 0, hQ8.c 0 1, hQ8.c 1 0, hQ8.c 1 1, hQ8.c 2 0, hQ8.c 2 1, hQ8.c 3 0, hQ8.c 3 1, hQ8.c 3 2, hQ8.c 3 3, hQ8.c 3 4, hQ8.c 4 0, hQ8.c 4 1, hQ8.c 5 0, hQ8.c 5 1, hQ8.c 6 0, hQ8.c 6 1, hQ8.c 7 0, hQ8.c 7 1, hQ8.c 7 2, hQ8.c 7 3, hQ8.c 7 4⟩; with_reducible exact u9) | exact ⟨hQ8.c 0 0, hQ8.c 0 1, hQ8.c 1 0, hQ8.c 1 1, hQ8.c 2 0, hQ8.c 2 1, hQ8.c 3 0, hQ8.c 3 1, hQ8.c 3 2, hQ8.c 3 3, hQ8.c 3 4, hQ8.c 4 0, hQ8.c 4 1, hQ8.c 5 0, hQ8.c 5 1, hQ8.c 6 0, hQ8.c 6 1, hQ8.c 7 0, hQ8.c 7 1, hQ8.c 7 2, hQ8.c 7 3, hQ8.c 7 4⟩ | exact ⟨hQ46.c 0 0, hQ46.c 0 1, hQ46.c 1 0, hQ46.c 1 1, hQ46.c 2 0, hQ46.c 2 1, hQ46.c 3 0, hQ46.c 3 1, hQ46.c 3 2, hQ46.c 3 3, hQ46.c 3 4, hQ46.c 4 0, hQ46.c 4 1, hQ46.c 5 0, hQ46.c 5 1, hQ46.c 6 0, hQ46.c 6 1, hQ46.c 7 0, hQ46.c 7 1, hQ46.c 7 2, hQ46.c 7 3, hQ46.c 7 4⟩
           refine t4F ?_
           refine t4_nil (NoPanic.normal ?_)
           have hsF38 : St w (((((w28.setCell ⟨w27.heap.size, 0, none⟩ (.int .i64 r0)).setCell ⟨w27.heap.size, 1, none⟩ (.slice aK1 r1.length cK1)).setCell ⟨w27.heap.size, 2, none⟩ (.slice aK2 r2.length cK2)).setCell ⟨w27.heap.size, 3, none⟩ (.slice aK3 r3.length cK3)).setCell ⟨w27.heap.size, 4, none⟩ (.slice aK4 r4.length cK4)).heap.size (((((w28.setCell ⟨w27.heap.size, 0, none⟩ (.int .i64 r0)).setCell ⟨w27.heap.size, 1, none⟩ (.slice aK1 r1.length cK1)).setCell ⟨w27.heap.size, 2, none⟩ (.slice aK2 r2.length cK2)).setCell ⟨w27.heap.size, 3, none⟩ (.slice aK3 r3.length cK3)).setCell ⟨w27.heap.size, 4, none⟩ (.slice aK4 r4.length cK4)) [(w.heap.size, #[.int .i64 x00, .slice a01 x01.length c01], 24), (w.heap.size + 1, #[.int .i64 x10, .slice a11 x11.length c11], 27), (w.heap.size + 1 + 1, #[.int .i64 x20, .slice a21 x21.length c21], 30), (gUF11, #[.int .i64 r0, .slice aW1 r1.length cW1, .slice aW2 r2.length cW2, .slice aW3 r3.length cW3, .slice aW4 r4.length cW4], 37), (w8.heap.size, #[.int .i64 x00, .slice ax01 x01.length cx01], 42), (w9.heap.size, #[.int .i64 x10, .slice ax11 x11.length cx11], 46), (w10.heap.size, #[.int .i64 x20, .slice ax21 x21.length cx21], 48), (w11.heap.size, #[.int .i64 r0, .slice aG1 r1.length cG1, .slice aG2 r2.length cG2, .slice aG3 r3.length cG3, .slice aG4 r4.length cG4], 37), (w27.heap.size, #[.int .i64 r0, .slice aK1 r1.length cK1, .slice aK2 r2.length cK2, .slice aK3 r3.length cK3, .slice aK4 r4.length cK4], 37)] := hQ8.up hQ8.hi (Nat.le_refl _)
           have hVF38 : w28.heap.size = (((((w28.setCell ⟨w27.heap.size, 0, none⟩ (.int .i64 r0)).setCell ⟨w27.heap.size, 1, none⟩ (.slice aK1 r1.length cK1)).setCell ⟨w27.heap.size, 2, none⟩ (.slice aK2 r2.length cK2)).setCell ⟨w27.heap.size, 3, none⟩ (.slice aK3 r3.length cK3)).setCell ⟨w27.heap.size, 4, none⟩ (.slice aK4 r4.length cK4)).heap.size := by simp [World.setCell]
           obtain ⟨loUF38, hiUF38, hUF38, JUF38⟩ : ∃ lo hi : Nat, (w24.heap.size ≤ lo ∧ hi ≤ w28.heap.size ∧ (w27.heap.size < lo ∨ hi ≤ w27.heap.size) ∧ w24.heap.size ≤ w27.heap.size ∧ w27.heap.size < w28.heap.size) ∧ Hid (Iv lo hi (((((w28.setCell ⟨w27.heap.size, 0, none⟩ (.int .i64 r0)).setCell ⟨w27.heap.size, 1, none⟩ (.slice aK1 r1.length cK1)).setCell ⟨w27.heap.size, 2, none⟩ (.slice aK2 r2.length cK2)).setCell ⟨w27.heap.size, 3, none⟩ (.slice aK3 r3.length cK3)).setCell ⟨w27.heap.size, 4, none⟩ (.slice aK4 r4.length cK4)) [.int .i64 r0, .slice aK1 r1.length cK1, .slice aK2 r2.length cK2, .slice aK3 r3.length cK3, .slice aK4 r4.length cK4] (r0, r1, r2, r3, r4)) := ⟨wF38A2.heap.size, w28.heap.size, by omega, JK'.out⟩
           rw [hVF38] at hUF38
           clear hVF38 JK'
           generalize hhwUF38 : (((((w28.setCell ⟨w27.heap.size, 0, none⟩ (.int .i64 r0)).setCell ⟨w27.heap.size, 1, none⟩ (.slice aK1 r1.length cK1)).setCell ⟨w27.heap.size, 2, none⟩ (.slice aK2 r2.length cK2)).setCell ⟨w27.heap.size, 3, none⟩ (.slice aK3 r3.length cK3)).setCell ⟨w27.heap.size, 4, none⟩ (.slice aK4 r4.length cK4)) = wUF38 at hsF38 hUF38 JUF38 JWF11_p31 HYG ⊢
           clear hhwUF38
           generalize hhgUF38 : w27.heap.size = gUF38 at hsF38 hUF38 JUF38 JWF11_p31 HYG ⊢
           clear hhgUF38
           generalize at01 = zat01 at hsF38 hUF38 JUF38 JWF11_p31 HYG ⊢
           generalize ct01 = zct01 at hsF38 hUF38 JUF38 JWF11_p31 HYG ⊢
           generalize at11 = zat11 at hsF38 hUF38 JUF38 JWF11_p31 HYG ⊢
           generalize ct11 = zct11 at hsF38 hUF38 JUF38 JWF11_p31 HYG ⊢
           generalize at21 = zat21 at hsF38 hUF38 JUF38 JWF11_p31 HYG ⊢
           generalize ct21 = zct21 at hsF38 hUF38 JUF38 JWF11_p31 HYG ⊢
           generalize aK1 = zaK1 at hsF38 hUF38 JUF38 JWF11_p31 HYG ⊢
           generalize cK1 = zcK1 at hsF38 hUF38 JUF38 JWF11_p31 HYG ⊢
           generalize aK2 = zaK2 at hsF38 hUF38 JUF38 JWF11_p31 HYG ⊢
           generalize cK2 = zcK2 at hsF38 hUF38 JUF38 JWF11_p31 HYG ⊢
           generalize aK3 = zaK3 at hsF38 hUF38 JUF38 JWF11_p31 HYG ⊢
           generalize cK3 = zcK3 at hsF38 hUF38 JUF38 JWF11_p31 HYG ⊢
           generalize aK4 = zaK4 at hsF38 hUF38 JUF38 JWF11_p31 HYG ⊢
           generalize cK4 = zcK4 at hsF38 hUF38 JUF38 JWF11_p31 HYG ⊢
           revert HYG
           revert JWF11_p31
           revert JUF38
           revert hUF38
           revert hsF38
           revert zcK4
           revert zaK4
           revert zcK3
           revert zaK3
           revert zcK2
           revert zaK2
           revert zcK1
           revert zaK1
           revert zct21
           revert zat21
           revert zct11
           revert zat11
           revert zct01
           revert zat01
           revert hiUF38
           revert loUF38
           revert gUF38
           revert wUF38
           exact HJ.get
       · refine t4_hard rfl (by rfl) (fun K hK => ?_)
         go_wp2_with fail
         have hQ47 := hQ41.alloc #[.int .i64 0, .slice none 0 0, .slice none 0 0, .slice none 0 0, .slice none 0 0] 37 rfl
         have JWF11_p28 := qH (Iv.mono JWF11_p27.out (belowA _ (.cells #[.int .i64 0, .slice none 0 0, .slice none 0 0, .slice none 0 0, .slice none 0 0] 37)))
         try clear JWF11_p27
         have Jt0'' := qH (Iv.mono Jt0'.out (belowA _ (.cells #[.int .i64 0, .slice none 0 0, .slice none 0 0, .slice none 0 0, .slice none 0 0] 37)))
         try clear Jt0'
         have Jt1' := qH (Iv.mono Jt1.out (belowA _ (.cells #[.int .i64 0, .slice none 0 0, .slice none 0 0, .slice none 0 0, .slice none 0 0] 37)))
         try clear Jt1
         have HYG' := qH (Own.mono HYG.out (belowA _ (.cells #[.int .i64 0, .slice none 0 0, .slice none 0 0, .slice none 0 0, .slice none 0 0] 37)))
         try clear HYG
         have HYG := HYG'
         clear HYG'
         have hzF38A3 : w26.heap.size + 1 ≤ (w26.alloc (.cells #[.int .i64 0, .slice none 0 0, .slice none 0 0, .slice none 0 0, .slice none 0 0] 37)).heap.size := by simp
         generalize hgenF38A3 : w26.alloc (.cells #[.int .i64 0, .slice none 0 0, .slice none 0 0, .slice none 0 0, .slice none 0 0] 37) = wF38A3 at *
         clear hgenF38A3
         refine ⟨⟨hQ47.c 0 0, hQ47.c 0 1, hQ47.c 1 0, hQ47.c 1 1, hQ47.c 2 0, hQ47.c 2 1, hQ47.c 3 0, hQ47.c 3 1, hQ47.c 3 2, hQ47.c 3 3, hQ47.c 3 4, hQ47.c 4 0, hQ47.c 4 1, hQ47.c 5 0, hQ47.c 5 1, hQ47.c 6 0, hQ47.c 6 1, hQ47.c 7 0, hQ47.c 7 1, hQ47.c 7 2, hQ47.c 7 3, hQ47.c 7 4⟩, ?_⟩
         refine t4F ?_
         refine t4_hard rfl (by rfl) (fun K hK => ?_)
         go_wp2_with (go_at_call 10; refine (toOp_b (x20, x21) _ _ _ (Rd.mono H2.out hQ47.bel) gc2).mono ?_; rintro e w27 ⟨ut20, ut21, rfl, frt2, hb27⟩)
         have JWF11_p29 := qH (Iv.mono JWF11_p28.out hb27)
         try clear JWF11_p28
         have Jt0_p3 := qH (Iv.mono Jt0''.out hb27)
         try clear Jt0''
         have Jt1'' := qH (Iv.mono Jt1'.out hb27)
         try clear Jt1'
         have hQ48 := hQ47.step hb27
         have hz23 : wF38A3.heap.size ≤ w27.heap.size := by simpa using hb27.size
         have Jt2 := qH (Fresh.iv frt2)
         have zt20 := rd_cons rfl (Iv.rd Jt2.out)
         obtain ⟨rfl, _⟩ := rd_i1 zt20.1
         obtain ⟨at21, ct21, rfl, _⟩ := rd_list zt20.2
         clear zt20
         clear frt2
         refine ⟨⟨hQ48.c 0 0, hQ48.c 0 1, hQ48.c 1 0, hQ48.c 1 1, hQ48.c 2 0, hQ48.c 2 1, hQ48.c 3 0, hQ48.c 3 1, hQ48.c 3 2, hQ48.c 3 3, hQ48.c 3 4, hQ48.c 4 0, hQ48.c 4 1, hQ48.c 5 0, hQ48.c 5 1, hQ48.c 6 0, hQ48.c 6 1, hQ48.c 7 0, hQ48.c 7 1, hQ48.c 7 2, hQ48.c 7 3, hQ48.c 7 4⟩, ?_⟩
         refine t4F ?_
         have HYG' := qH (Own.mono HYG.out hb27)
         try clear HYG
         have HYG := HYG'
         clear HYG'
         refine t4_hard rfl (by rfl) (fun K hK => ?_)
         go_wp2_with (go_at_call 11; refine (CI.out _ _ _ _ _ _ _ (Iv.rd Jt0_p3.out) (Iv.rd Jt1''.out) (Iv.rd Jt2.out)).mono ?_; rintro e w28 ⟨uK0, uK1, uK2, uK3, uK4, rfl, frK, hb28⟩)
         have JWF11_p30 := qH (Iv.mono JWF11_p29.out hb28)
         try clear JWF11_p29
         have Jt0_p4 := qH (Iv.mono Jt0_p3.out hb28)
         try clear Jt0_p3
         have Jt1_p3 := qH (Iv.mono Jt1''.out hb28)
         try clear Jt1''
         have Jt2' := qH (Iv.mono Jt2.out hb28)
         try clear Jt2
         have hQ49 := hQ48.step hb28
         have hz24 : w27.heap.size ≤ w28.heap.size := by simpa using hb28.size
         have JK := qH (Fresh.iv frK)
         have zK0 := rd_cons rfl (Iv.rd JK.out)
         obtain ⟨rfl, _⟩ := rd_i1 zK0.1
         have zK1 := rd_cons rfl zK0.2
         obtain ⟨aK1, cK1, rfl, _⟩ := rd_list zK1.1
         have zK2 := rd_cons rfl zK1.2
         obtain ⟨aK2, cK2, rfl, _⟩ := rd_list zK2.1
         have zK3 := rd_cons rfl zK2.2
         obtain ⟨aK3, cK3, rfl, _⟩ := rd_list zK3.1
         obtain ⟨aK4, cK4, rfl, _⟩ := rd_list zK3.2
         clear zK0 zK1 zK2 zK3
         clear frK
         have HYG' := qH (Own.mono HYG.out hb28)
         try clear HYG
         have HYG := HYG'
         clear HYG'
         try clear Jt0_p4
         try clear Jt1_p3
         try clear Jt2'
         refine ⟨⟨hQ49.c 0 0, hQ49.c 0 1, hQ49.c 1 0, hQ49.c 1 1, hQ49.c 2 0, hQ49.c 2 1, hQ49.c 3 0, hQ49.c 3 1, hQ49.c 3 2, hQ49.c 3 3, hQ49.c 3 4, hQ49.c 4 0, hQ49.c 4 1, hQ49.c 5 0, hQ49.c 5 1, hQ49.c 6 0, hQ49.c 6 1, hQ49.c 7 0, hQ49.c 7 1, hQ49.c 7 2, hQ49.c 7 3, hQ49.c 7 4⟩, ?_⟩
         refine t4F ?_
         refine t4_hard rfl (by rfl) (fun K hK => ?_)
         have fF380 := hQ49.freeAt 8 rfl 0
         have cF380 := hQ49.c 8 0
         have fF381 := hQ49.freeAt 8 rfl 1
         have cF381 := hQ49.c 8 1
         have fF382 := hQ49.freeAt 8 rfl 2
         have cF382 := hQ49.c 8 2
         have fF383 := hQ49.freeAt 8 rfl 3
         have cF383 := hQ49.c 8 3
         have fF384 := hQ49.freeAt 8 rfl 4
         have cF384 := hQ49.c 8 4
         go_wp2_with fail
         have hQ9 := (((((hQ49.set (p := [_, _, _, _, _, _, _, _]) (by simp <;> omega) 0 (.int .i64 r0)).set (p := [_, _, _, _, _, _, _, _]) (by simp <;> omega) 1 (.slice aK1 r1.length cK1)).set (p := [_, _, _, _, _, _, _, _]) (by simp <;> omega) 2 (.slice aK2 r2.length cK2)).set (p := [_, _, _, _, _, _, _, _]) (by simp <;> omega) 3 (.slice aK3 r3.length cK3)).set (p := [_, _, _, _, _, _, _, _]) (by simp <;> omega) 4 (.slice aK4 r4.length cK4))
         have JWF11_p31 := qH (Iv.setOut (Iv.setOut (Iv.setOut (Iv.setOut (Iv.setOut JWF11_p30.out (a := ⟨w26.heap.size, 0, none⟩) (by first | (left; simp only; first | done | omega) | (right; simp only; first | done | omega)) (.int .i64 r0)) (a := ⟨w26.heap.size, 1, none⟩) (by first | (left; simp only; first | done | omega) | (right; simp only; first | done | omega)) (.slice aK1 r1.length cK1)) (a := ⟨w26.heap.size, 2, none⟩) (by first | (left; simp only; first | done | omega) | (right; simp only; first | done | omega)) (.slice aK2 r2.length cK2)) (a := ⟨w26.heap.size, 3, none⟩) (by first | (left; simp only; first | done | omega) | (right; simp only; first | done | omega)) (.slice aK3 r3.length cK3)) (a := ⟨w26.heap.size, 4, none⟩) (by first | (left; simp only; first | done | omega) | (right; simp only; first | done | omega)) (.slice aK4 r4.length cK4))
         try clear JWF11_p30
         have JK' := qH (Iv.setOut (Iv.setOut (Iv.setOut (Iv.setOut (Iv.setOut JK.out (a := ⟨w26.heap.size, 0, none⟩) (by first | (left; simp only; first | done | omega) | (right; simp only; first | done | omega)) (.int .i64 r0)) (a := ⟨w26.heap.size, 1, none⟩) (by first | (left; simp only; first | done | omega) | (right; simp only; first | done | omega)) (.slice aK1 r1.length cK1)) (a := ⟨w26.heap.size, 2, none⟩) (by first | (left; simp only; first | done | omega) | (right; simp only; first | done | omega)) (.slice aK2 r2.length cK2)) (a := ⟨w26.heap.size, 3, none⟩) (by first | (left; simp only; first | done | omega) | (right; simp only; first | done | omega)) (.slice aK3 r3.length cK3)) (a := ⟨w26.heap.size, 4, none⟩) (by first | (left; simp only; first | done | omega) | (right; simp only; first | done | omega)) (.slice aK4 r4.length cK4))
         try clear JK
         have HYG' := qH (own_setOut (own_setOut (own_setOut (own_setOut (own_setOut HYG.out (b := w26.heap.size) (o := 0) (fun hk => by have := hqG _ hk; omega) (.int .i64 r0)) (b := w26.heap.size) (o := 1) (fun hk => by have := hqG _ hk; omega) (.slice aK1 r1.length cK1)) (b := w26.heap.size) (o := 2) (fun hk => by have := hqG _ hk; omega) (.slice aK2 r2.length cK2)) (b := w26.heap.size) (o := 3) (fun hk => by have := hqG _ hk; omega) (.slice aK3 r3.length cK3)) (b := w26.heap.size) (o := 4) (fun hk => by have := hqG _ hk; omega) (.slice aK4 r4.length cK4))
         try clear HYG
         have HYG := HYG'
         clear HYG'
         clear fF380 cF380 fF381 cF381 fF382 cF382 fF383 cF383 fF384 cF384
         refine ⟨?_, ?_⟩
         · first | (have u9 : w28.cell? ⟨w.heap.size, 0, none⟩ = some (.int .i64 x00) ∧ w28.cell? ⟨w.heap.size, 1, none⟩ = some (.slice a01 x01.length c01) ∧ w28.cell? ⟨w.heap.size + 1, 0, none⟩ = some (.int .i64 x10) ∧ w28.cell? ⟨w.heap.size + 1, 1, none⟩ = some (.slice a11 x11.length c11) ∧ w28.cell? ⟨w.heap.size + 1 + 1, 0, none⟩ = some (.int .i64 x20) ∧ w28.cell? ⟨w.heap.size + 1 + 1, 1, none⟩ = some (.slice a21 x21.length c21) ∧ w28.cell? ⟨gUF11, 0, none⟩ = some (.int .i64 r0) ∧ w28.cell? ⟨gUF11, 1, none⟩ = some (.slice aW1 r1.length cW1) ∧ w28.cell? ⟨gUF11, 2, none⟩ = some (.slice aW2 r2.length cW2) ∧ w28.cell? ⟨gUF11, 3, none⟩ = some (.slice aW3 r3.length cW3) ∧ w28.cell? ⟨gUF11, 4, none⟩ = some (.slice aW4 r4.length cW4) ∧ w28.cell? ⟨w8.heap.size, 0, none⟩ = some (.int .i64 x00) ∧ w28.cell? ⟨w8.heap.size, 1, none⟩ = some (.slice ax01 x01.length cx01) ∧ w28.cell? ⟨w9.heap.size, 0, none⟩ = some (.int .i64 x10) ∧ w28.cell? ⟨w9.heap.size, 1, none⟩ = some (.slice ax11 x11.length cx11) ∧ w28.cell? ⟨w10.heap.size, 0, none⟩ = some (.int .i64 x20) ∧ w28.cell? ⟨w10.heap.size, 1, none⟩ = some (.slice ax21 x21.length cx21) ∧ w28.cell? ⟨w11.heap.size, 0, none⟩ = some (.int .i64 r0) ∧ w28.cell? ⟨w11.heap.size, 1, none⟩ = some (.slice aG1 r1.length cG1) ∧ w28.cell? ⟨w11.heap.size, 2, none⟩ = some (.slice aG2 r2.length cG2) ∧ w28.cell? ⟨w11.heap.size, 3, none⟩ = some (.slice aG3 r3.length cG3) ∧ w28.cell? ⟨w11.heap.size, 4, none⟩ = some (.slice aG4 r4.length cG4) := ⟨hQ49.c 0 0, hQ49.c 0 1, hQ49.c 1 0, hQ49.c 1 1, hQ49.c 2 0, hQ49.c 2 1, hQ49.c 3 0, hQ49.c 3 1, hQ49.c 3 2, hQ49.c 3 3, hQ49.c 3 4, hQ49.c 4 0, hQ49.c 4 1, hQ49.c 5 0, hQ49.c 5 1, hQ49.c 6 0, hQ49.c 6 1, hQ49.c 7 0, hQ49.c 7 1, hQ49.c 7 2, hQ49.c 7 3, hQ49.c 7 4⟩; with_reducible exact u9) | (have u9 : (((((w28.setCell ⟨w26.heap.size, 0, none⟩ (.int .i64 r0)).setCell ⟨w26.heap.size, 1, none⟩ (.slice aK1 r1.length cK1)).setCell ⟨w26.heap.size, 2, none⟩ (.slice aK2 r2.length cK2)).setCell ⟨w26.heap.size, 3, none⟩ (.slice aK3 r3.length cK3)).setCell ⟨w26.heap.size, 4, none⟩ (.slice aK4 r4.length cK4)).cell? ⟨w.heap.size, 0, none⟩ = some (.int .i64 x00) ∧ (((((w28.setCell ⟨w26.heap.size, 0, none⟩ (.int .i64 r0)).setCell ⟨w26.heap.size, 1, none⟩ (.slice aK1 r1.length cK1)).setCell ⟨w26.heap.size, 2, none⟩ (.slice aK2 r2.length cK2)).setCell ⟨w26.heap.size, 3, none⟩ (.slice aK3 r3.length cK3)).setCell ⟨w26.heap.size, 4, none⟩ (.slice aK4 r4.length cK4)).cell? ⟨w.heap.size, 1, none⟩ = some (.slice a01 x01.length c01) ∧ (((((w28.setCell ⟨w26.heap.size, 0, none⟩ (.int .i64 r0)).setCell ⟨w26.heap.size, 1, none⟩ (.slice aK1 r1.length cK1)).setCell ⟨w26.heap.size, 2, none⟩ (.slice aK2 r2.length cK2)).setCell ⟨w26.heap.size, 3, none⟩ (.slice aK3 r3.length cK3)).setCell ⟨w26.heap.size, 4, none⟩ (.slice aK4 r4.length cK4)).cell? ⟨w.heap.size + 1, 0, none⟩ = some (.int .i64 x10) ∧ (((((w28.setCell ⟨w26.heap.size, 0, none⟩ (.int .i64 r0)).setCell ⟨w26.heap.size, 1, none⟩ (.slice aK1 r1.length cK1)).setCell ⟨w26.heap.size, 2, none⟩ (.slice aK2 r2.length cK2)).setCell ⟨w26.heap.size, 3, none⟩ (.slice aK3 r3.length cK3)).setCell ⟨w26.heap.size, 4, none⟩ (.slice aK4 r4.length cK4)).cell? ⟨w.heap.size + 1, 1, none⟩ = some (.slice a11 x11.length c11) ∧ (((((w28.setCell ⟨w26.heap.size, 0, none⟩ (.int .i64 r0)).setCell ⟨w26.heap.size, 1, none⟩ (.slice aK1 r1.length cK1)).setCell ⟨w26.heap.size, 2, none⟩ (.slice aK2 r2.length cK2)).setCell ⟨w26.heap.size, 3, none⟩ (.slice aK3 r3.length cK3)).setCell ⟨w26.heap.size, 4, none⟩ (.slice aK4 r4.length cK4)).cell? ⟨w.heap.size + 1 + 1, 0, none⟩ = some (.int .i64 x20) ∧ (((((w28.setCell ⟨w26.heap.size, 0, none⟩ (.int .i64 r0)).setCell ⟨w26.heap.size, 1, none⟩ (.slice aK1 r1.length cK1)).setCell ⟨w26.heap.size, 2, none⟩ (.slice aK2 r2.length cK2)).setCell ⟨w26.heap.size, 3, none⟩ (.slice aK3 r3.length cK3)).setCell ⟨w26.heap.size, 4, none⟩ (.slice aK4 r4.length cK4)).cell? ⟨w.heap.size + 1 + 1, 1, none⟩ = some (.slice a21 x21.length c21) ∧ (((((w28.setCell ⟨w26.heap.size, 0, none⟩ (.int .i64 r0)).setCell ⟨w26.heap.size, 1, none⟩ (.slice aK1 r1.length cK1)).setCell ⟨w26.heap.size, 2, none⟩ (.slice aK2 r2.length cK2)).setCell ⟨w26.heap.size, 3, none⟩ (.slice aK3 r3.length cK3)).setCell ⟨w26.heap.size, 4, none⟩ (.slice aK4 r4.length cK4)).cell? ⟨gUF11, 0, none⟩ = some (.int .i64 r0) ∧ (((((w28.setCell ⟨w26.heap.size, 0, none⟩ (.int .i64 r0)).setCell ⟨w26.heap.size, 1, none⟩ (.slice aK1 r1.length cK1)).setCell ⟨w26.heap.size, 2, none⟩ (.slice aK2 r2.length cK2)).setCell ⟨w26.heap.size, 3, none⟩ (.slice aK3 r3.length cK3)).setCell ⟨w26.heap.size, 4, none⟩ (.slice aK4 r4.length cK4)).cell? ⟨gUF11, 1, none⟩ = some (.slice aW1 r1.length cW1) ∧ (((((w28.setCell ⟨w26.heap.size, 0, none⟩ (.int .i64 r0)).setCell ⟨w26.heap.size, 1, none⟩ (.slice aK1 r1.length cK1)).setCell ⟨w26.heap.size, 2, none⟩ (.slice aK2 r2.length cK2)).setCell ⟨w26.heap.size, 3, none⟩ (.slice aK3 r3.length cK3)).setCell ⟨w26.heap.size, 4, none⟩ (.slice aK4 r4.length cK4)).cell? ⟨gUF11, 2, none⟩ = some (.slice aW2 r2.length cW2) ∧ (((((w28.setCell ⟨w26.heap.size, 0, none⟩ (.int .i64 r0)).setCell ⟨w26.heap.size, 1, none⟩ (.slice aK1 r1.length cK1)).setCell ⟨w26.heap.size, 2, none⟩ (.slice aK2 r2.length cK2)).setCell ⟨w26.heap.size, 3, none⟩ (.slice aK3 r3.length cK3)).setCell ⟨w26.heap.size, 4, none⟩ (.slice aK4 r4.length cK4)).cell? ⟨gUF11, 3, none⟩ = some (.slice aW3 r3.length cW3) ∧ (((((w28.setCell ⟨w26.heap.size, 0, none⟩ (.int .i64 r0)).setCell ⟨w26.heap.size, 1, none⟩ (.slice aK1 r1.length cK1)).setCell ⟨w26.heap.size, 2, none⟩ (.slice aK2 r2.length cK2)).setCell ⟨w26.heap.size, 3, none⟩ (.slice aK3 r3.length cK3)).setCell ⟨w26.heap.size, 4, none⟩ (.slice aK4 r4.length cK4)).cell? ⟨gUF11, 4, none⟩ = some (.slice aW4 r4.length cW4) ∧ (((((w28.setCell ⟨w26.heap.size, 0, none⟩ (.int .i64 r0)).setCell ⟨w26.heap.size, 1, none⟩ (.slice aK1 r1.length cK1)).setCell ⟨w26.heap.size, 2, none⟩ (.slice aK2 r2.length cK2)).setCell ⟨w26.heap.size, 3, none⟩ (.slice aK3 r3.length cK3)).setCell ⟨w26.heap.size, 4, none⟩ (.slice aK4 r4.length cK4)).cell? ⟨w8.heap.size, 0, none⟩ = some (.int .i64 x00) ∧ (((((w28.setCell ⟨w26.heap.size, 0, none⟩ (.int .i64 r0)).setCell ⟨w26.heap.size, 1, none⟩ (.slice aK1 r1.length cK1)).setCell ⟨w26.heap.size, 2, none⟩ (.slice aK2 r2.length cK2)).setCell ⟨w26.heap.size, 3, none⟩ (.slice aK3 r3.length cK3)).setCell ⟨w26.heap.size, 4, none⟩ (.slice aK4 r4.length cK4)).cell? ⟨w8.heap.size, 1, none⟩ = some (.slice ax01 x01.length cx01) ∧ (((((w28.setCell ⟨w26.heap.size, 0, none⟩ (.int .i64 r0)).setCell ⟨w26.heap.size, 1, none⟩ (.slice aK1 r1.length cK1)).setCell ⟨w26.heap.size, 2, none⟩ (.slice aK2 r2.length cK2)).setCell ⟨w26.heap.size, 3, none⟩ (.slice aK3 r3.length cK3)).setCell ⟨w26.heap.size, 4, none⟩ (.slice aK4 r4.length cK4)).cell? ⟨w9.heap.size, 0, none⟩ = some (.int .i64 x10) ∧ (((((w28.setCell ⟨w26.heap.size, 0, none⟩ (.int .i64 r0)).setCell ⟨w26.heap.size, 1, none⟩ (.slice aK1 r1.length cK1)).setCell ⟨w26.heap.size, 2, none⟩ (.slice aK2 r2.length cK2)).setCell ⟨w26.heap.size, 3, none⟩ (.slice aK3 r3.length cK3)).setCell ⟨w26.heap.size, 4, none⟩ (.slice aK4 r4.length cK4)).cell? ⟨w9.heap.size, 1, none⟩ = some (.slice ax11 x11.length cx11) ∧ (((((w28.setCell ⟨w26.heap.size, 0, none⟩ (.int .i64 r0)).setCell ⟨w26.heap.size, 1, none⟩ (.slice aK1 r1.length cK1)).setCell ⟨w26.heap.size, 2, none⟩ (.slice aK2 r2.length cK2)).setCell ⟨w26.heap.size, 3, none⟩ (.slice aK3 r3.length cK3)).setCell ⟨w26.heap.size, 4, none⟩ (.slice aK4 r4.length cK4)).cell? ⟨w10.heap.size, 0, none⟩ = some (.int .i64 x20) ∧ (((((w28.setCell ⟨w26.heap.size, 0, none⟩ (.int .i64 r0)).setCell ⟨w26.heap.size, 1, none⟩ (.slice aK1 r1.length cK1)).setCell ⟨w26.heap.size, 2, none⟩ (.slice aK2 r2.length cK2)).setCell ⟨w26.heap.size, 3, none⟩ (.slice aK3 r3.length cK3)).setCell ⟨w26.heap.size, 4, none⟩ (.slice aK4 r4.length cK4)).cell? ⟨w10.heap.size, 1, none⟩ = some (.slice ax21 x21.length cx21) ∧ (((((w28.setCell ⟨w26.heap.size, 0, none⟩ (.int .i64 r0)).setCell ⟨w26.heap.size, 1, none⟩ (.slice aK1 r1.length cK1)).setCell ⟨w26.heap.size, 2, none⟩ (.slice aK2 r2.length cK2)).setCell ⟨w26.heap.size, 3, none⟩ (.slice aK3 r3.length cK3)).setCell ⟨w26.heap.size, 4, none⟩ (.slice aK4 r4.length cK4)).cell? ⟨w11.heap.size, 0, none⟩ = some (.int .i64 r0) ∧ (((((w28.setCell ⟨w26.heap.size, 0, none⟩ (.int .i64 r0)).setCell ⟨w26.heap.size, 1, none⟩ (.slice aK1 r1.length cK1)).setCell ⟨w26.heap.size, 2, none⟩ (.slice aK2 r2.length cK2)).setCell ⟨w26.heap.size, 3, none⟩ (.slice aK3 r3.length cK3)).setCell ⟨w26.heap.size, 4, none⟩ (.slice aK4 r4.length cK4)).cell? ⟨w11.heap.size, 1, none⟩ = some (.slice aG1 r1.length cG1) ∧ (((((w28.setCell ⟨w26.heap.size, 0, none⟩ (.int .i64 r0)).setCell ⟨w26.heap.size, 1, none⟩ (.slice aK1 r1.length cK1)).setCell ⟨w26.heap.size, 2, none⟩ (.slice aK2 r2.length cK2)).setCell ⟨w26.heap.size, 3, none⟩ (.slice aK3 r3.length cK3)).setCell ⟨w26.heap.size, 4, none⟩ (.slice aK4 r4.length cK4)).cell? ⟨w11.heap.size, 2, none⟩ = some (.slice aG2 r2.length cG2) ∧ (((((w28.setCell ⟨w26.heap.size, 0, none⟩ (.int .i64 r0)).setCell ⟨w26.heap.size, 1, none⟩ (.slice aK1 r1.length cK1)).setCell ⟨w26.heap.size, 2, none⟩ (.slice aK2 r2.length cK2)).setCell ⟨w26.heap.size, 3, none⟩ (.slice aK3 r3.length cK3)).setCell ⟨w26.heap.size, 4, none⟩ (.slice aK4 r4.length cK4)).cell? ⟨w11.heap.size, 3, none⟩ = some (.slice aG3 r3.length cG3) ∧ (((((w28.setCell ⟨w26.heap.size, 0, none⟩ (.int .i64 r0)).setCell ⟨w26.heap.size, 1, none⟩ (.slice aK1 r1.length cK1)).setCell ⟨w26.heap.size, 2, none⟩ (.slice aK2 r2.length cK2)).setCell ⟨w26.heap.size, 3, none⟩ (.slice aK3 r3.length cK3)).setCell ⟨w26.heap.size, 4, none⟩ (.slice aK4 r4.length cK4)).cell? ⟨w11.heap.size, 4, none⟩ = some (.slice aG4 r4.length cG4) := ⟨hQ9.c 0 0, hQ9.c 0 1, hQ9.c 1 0, hQ9.c 1 1, hQ9.c 2 0, hQ9.c 2 1, hQ9.c 3 0, hQ9.c 3 1, hQ9.c 3 2, hQ9.c 3 3, hQ9.c 3 4, hQ9.c 4 0, hQ9.c 4 1, hQ9.c 5 0, hQ9.c 5 1, hQ9.c 6 0, hQ9.c 6 1, hQ9.c 7 0, hQ9.c 7 1, hQ9.c 7 2, hQ9.c 7 3, hQ9.c 7 4⟩; with_reducible exact u9) | exact ⟨hQ9.c 0 0, hQ9.c 0 1, hQ9.c 1 0, hQ9.c 1 1, hQ9.c 2 0, hQ9.c 2 1, hQ9.c 3 0, hQ9.c 3 1, hQ9.c 3 2, hQ9.c 3 3, hQ9.c 3 4, hQ9.c 4 0, hQ9.c 4 1, hQ9.c 5 0, hQ9.c 5 1, hQ9.c 6 0, hQ9.c 6 1, hQ9.c 7 0, hQ9.c 7 1, hQ9.c 7 2, hQ9.c 7 3, hQ9.c 7 4⟩ | exact ⟨hQ49.c 0 0, hQ49.c 0 1, hQ49.c 1 0, hQ49.c 1 1, hQ49.c 2 0, hQ49.c 2 1, hQ49.c 3 0, hQ49.c 3 1, hQ49.c 3 2, hQ49.c 3 3, hQ49.c 3 4, hQ49.c 4 0, hQ49.c 4 1, hQ49.c 5 0, hQ49.c 5 1, hQ49.c 6 0, hQ49.c 6 1, hQ49.c 7 0, hQ49.c 7 1, hQ49.c 7 2, hQ49.c 7 3, hQ49.c 7 4⟩
         refine t4F ?_
         refine t4_nil (NoPanic.normal ?_)
         have hsF38 : St w (((((w28.setCell ⟨w26.heap.size, 0, none⟩ (.int .i64 r0)).setCell ⟨w26.heap.size, 1, none⟩ (.slice aK1 r1.length cK1)).setCell ⟨w26.heap.size, 2, none⟩ (.slice aK2 r2.length cK2)).setCell ⟨w26.heap.size, 3, none⟩ (.slice aK3 r3.length cK3)).setCell ⟨w26.heap.size, 4, none⟩ (.slice aK4 r4.length cK4)).heap.size (((((w28.setCell ⟨w26.heap.size, 0, none⟩ (.int .i64 r0)).setCell ⟨w26.heap.size, 1, none⟩ (.slice aK1 r1.length cK1)).setCell ⟨w26.heap.size, 2, none⟩ (.slice aK2 r2.length cK2)).setCell ⟨w26.heap.size, 3, none⟩ (.slice aK3 r3.length cK3)).setCell ⟨w26.heap.size, 4, none⟩ (.slice aK4 r4.length cK4)) [(w.heap.size, #[.int .i64 x00, .slice a01 x01.length c01], 24), (w.heap.size + 1, #[.int .i64 x10, .slice a11 x11.length c11], 27), (w.heap.size + 1 + 1, #[.int .i64 x20, .slice a21 x21.length c21], 30), (gUF11, #[.int .i64 r0, .slice aW1 r1.length cW1, .slice aW2 r2.length cW2, .slice aW3 r3.length cW3, .slice aW4 r4.length cW4], 37), (w8.heap.size, #[.int .i64 x00, .slice ax01 x01.length cx01], 42), (w9.heap.size, #[.int .i64 x10, .slice ax11 x11.length cx11], 46), (w10.heap.size, #[.int .i64 x20, .slice ax21 x21.length cx21], 48), (w11.heap.size, #[.int .i64 r0, .slice aG1 r1.length cG1, .slice aG2 r2.length cG2, .slice aG3 r3.length cG3, .slice aG4 r4.length cG4], 37), (w26.heap.size, #[.int .i64 r0, .slice aK1 r1.length cK1, .slice aK2 r2.length cK2, .slice aK3 r3.length cK3, .slice aK4 r4.length cK4], 37)] := hQ9.up hQ9.hi (Nat.le_refl _)
         have hVF38 : w28.heap.size = (((((w28.setCell ⟨w26.heap.size, 0, none⟩ (.int .i64 r0)).setCell ⟨w26.heap.size, 1, none⟩ (.slice aK1 r1.length cK1)).setCell ⟨w26.heap.size, 2, none⟩ (.slice aK2 r2.length cK2)).setCell ⟨w26.heap.size, 3, none⟩ (.slice aK3 r3.length cK3)).setCell ⟨w26.heap.size, 4, none⟩ (.slice aK4 r4.length cK4)).heap.size := by simp [World.setCell]
         obtain ⟨loUF38, hiUF38, hUF38, JUF38⟩ : ∃ lo hi : Nat, (w24.heap.size ≤ lo ∧ hi ≤ w28.heap.size ∧ (w26.heap.size < lo ∨ hi ≤ w26.heap.size) ∧ w24.heap.size ≤ w26.heap.size ∧ w26.heap.size < w28.heap.size) ∧ Hid (Iv lo hi (((((w28.setCell ⟨w26.heap.size, 0, none⟩ (.int .i64 r0)).setCell ⟨w26.heap.size, 1, none⟩ (.slice aK1 r1.length cK1)).setCell ⟨w26.heap.size, 2, none⟩ (.slice aK2 r2.length cK2)).setCell ⟨w26.heap.size, 3, none⟩ (.slice aK3 r3.length cK3)).setCell ⟨w26.heap.size, 4, none⟩ (.slice aK4 r4.length cK4)) [.int .i64 r0, .slice aK1 r1.length cK1, .slice aK2 r2.length cK2, .slice aK3 r3.length cK3, .slice aK4 r4.length cK4] (r0, r1, r2, r3, r4)) := ⟨w27.heap.size, w28.heap.size, by omega, JK'.out⟩
         rw [hVF38] at hUF38
         clear hVF38 JK'
         generalize hhwUF38 : (((((w28.setCell ⟨w26.heap.size, 0, none⟩ (.int .i64 r0)).setCell ⟨w26.heap.size, 1, none⟩ (.slice aK1 r1.length cK1)).setCell ⟨w26.heap.size, 2, none⟩ (.slice aK2 r2.length cK2)).setCell ⟨w26.heap.size, 3, none⟩ (.slice aK3 r3.length cK3)).setCell ⟨w26.heap.size, 4, none⟩ (.slice aK4 r4.length cK4)) = wUF38 at hsF38 hUF38 JUF38 JWF11_p31 HYG ⊢
         clear hhwUF38
         generalize hhgUF38 : w26.heap.size = gUF38 at hsF38 hUF38 JUF38 JWF11_p31 HYG ⊢
         clear hhgUF38
         generalize at01 = zat01 at hsF38 hUF38 JUF38 JWF11_p31 HYG ⊢
         generalize ct01 = zct01 at hsF38 hUF38 JUF38 JWF11_p31 HYG ⊢
         generalize at11 = zat11 at hsF38 hUF38 JUF38 JWF11_p31 HYG ⊢
         generalize ct11 = zct11 at hsF38 hUF38 JUF38 JWF11_p31 HYG ⊢
         generalize at21 = zat21 at hsF38 hUF38 JUF38 JWF11_p31 HYG ⊢
         generalize ct21 = zct21 at hsF38 hUF38 JUF38 JWF11_p31 HYG ⊢
         generalize aK1 = zaK1 at hsF38 hUF38 JUF38 JWF11_p31 HYG ⊢
         generalize cK1 = zcK1 at hsF38 hUF38 JUF38 JWF11_p31 HYG ⊢
         generalize aK2 = zaK2 at hsF38 hUF38 JUF38 JWF11_p31 HYG ⊢
         generalize cK2 = zcK2 at hsF38 hUF38 JUF38 JWF11_p31 HYG ⊢
         generalize aK3 = zaK3 at hsF38 hUF38 JUF38 JWF11_p31 HYG ⊢
         generalize cK3 = zcK3 at hsF38 hUF38 JUF38 JWF11_p31 HYG ⊢
         generalize aK4 = zaK4 at hsF38 hUF38 JUF38 JWF11_p31 HYG ⊢
         generalize cK4 = zcK4 at hsF38 hUF38 JUF38 JWF11_p31 HYG ⊢
         revert HYG
         revert JWF11_p31
         revert JUF38
         revert hUF38
         revert hsF38
         revert zcK4
         revert zaK4
         revert zcK3
         revert zaK3
         revert zcK2
         revert zaK2
         revert zcK1
         revert zaK1
         revert zct21
         revert zat21
         revert zct11
         revert zat11
         revert zct01
         revert zat01
         revert hiUF38
         revert loUF38
         revert gUF38
         revert wUF38
         exact HJ.get
     · refine t4_hard rfl (by rfl) (fun K hK => ?_)
       go_wp2_with fail
       have hQ50 := hQ40.alloc #[.int .i64 0, .slice none 0 0, .slice none 0 0, .slice none 0 0, .slice none 0 0] 37 rfl
       have JWF11_p27 := qH (Iv.mono JWF11_p26.out (belowA _ (.cells #[.int .i64 0, .slice none 0 0, .slice none 0 0, .slice none 0 0, .slice none 0 0] 37)))
       try clear JWF11_p26
       have Jt0' := qH (Iv.mono Jt0.out (belowA _ (.cells #[.int .i64 0, .slice none 0 0, .slice none 0 0, .slice none 0 0, .slice none 0 0] 37)))
       try clear Jt0
       have HYG' := qH (Own.mono HYG.out (belowA _ (.cells #[.int .i64 0, .slice none 0 0, .slice none 0 0, .slice none 0 0, .slice none 0 0] 37)))
       try clear HYG
       have HYG := HYG'
       clear HYG'
       have hzF38A4 : w25.heap.size + 1 ≤ (w25.alloc (.cells #[.int .i64 0, .slice none 0 0, .slice none 0 0, .slice none 0 0, .slice none 0 0] 37)).heap.size := by simp
       generalize hgenF38A4 : w25.alloc (.cells #[.int .i64 0, .slice none 0 0, .slice none 0 0, .slice none 0 0, .slice none 0 0] 37) = wF38A4 at *
       clear hgenF38A4
       refine ⟨⟨hQ50.c 0 0, hQ50.c 0 1, hQ50.c 1 0, hQ50.c 1 1, hQ50.c 2 0, hQ50.c 2 1, hQ50.c 3 0, hQ50.c 3 1, hQ50.c 3 2, hQ50.c 3 3, hQ50.c 3 4, hQ50.c 4 0, hQ50.c 4 1, hQ50.c 5 0, hQ50.c 5 1, hQ50.c 6 0, hQ50.c 6 1, hQ50.c 7 0, hQ50.c 7 1, hQ50.c 7 2, hQ50.c 7 3, hQ50.c 7 4⟩, ?_⟩
       refine t4F ?_
       refine t4_hard rfl (by rfl) (fun K hK => ?_)
       go_wp2_with (go_at_call 9; refine (toInstance_b (x10, x11) _ _ _ (Rd.mono H1.out hQ50.bel) gc1).mono ?_; rintro e w26 ⟨ut10, ut11, rfl, frt1, hb26⟩)
       have JWF11_p28 := qH (Iv.mono JWF11_p27.out hb26)
       try clear JWF11_p27
       have Jt0'' := qH (Iv.mono Jt0'.out hb26)
       try clear Jt0'
       have hQ51 := hQ50.step hb26
       have hz22 : wF38A4.heap.size ≤ w26.heap.size := by simpa using hb26.size
       have Jt1 := qH (Fresh.iv frt1)
       have zt10 := rd_cons rfl (Iv.rd Jt1.out)
       obtain ⟨rfl, _⟩ := rd_i1 zt10.1
       obtain ⟨at11, ct11, rfl, _⟩ := rd_list zt10.2
       clear zt10
       clear frt1
       refine ⟨⟨hQ51.c 0 0, hQ51.c 0 1, hQ51.c 1 0, hQ51.c 1 1, hQ51.c 2 0, hQ51.c 2 1, hQ51.c 3 0, hQ51.c 3 1, hQ51.c 3 2, hQ51.c 3 3, hQ51.c 3 4, hQ51.c 4 0, hQ51.c 4 1, hQ51.c 5 0, hQ51.c 5 1, hQ51.c 6 0, hQ51.c 6 1, hQ51.c 7 0, hQ51.c 7 1, hQ51.c 7 2, hQ51.c 7 3, hQ51.c 7 4⟩, ?_⟩
       refine t4F ?_
       have HYG' := qH (Own.mono HYG.out hb26)
       try clear HYG
       have HYG := HYG'
       clear HYG'
       refine t4_hard rfl (by rfl) (fun K hK => ?_)
       go_wp2_with (go_at_call 10; refine (toOp_b (x20, x21) _ _ _ (Rd.mono H2.out hQ51.bel) gc2).mono ?_; rintro e w27 ⟨ut20, ut21, rfl, frt2, hb27⟩)
       have JWF11_p29 := qH (Iv.mono JWF11_p28.out hb27)
       try clear JWF11_p28
       have Jt0_p3 := qH (Iv.mono Jt0''.out hb27)
       try clear Jt0''
       have Jt1' := qH (Iv.mono Jt1.out hb27)
       try clear Jt1
       have hQ52 := hQ51.step hb27
       have hz23 : w26.heap.size ≤ w27.heap.size := by simpa using hb27.size
       have Jt2 := qH (Fresh.iv frt2)
       have zt20 := rd_cons rfl (Iv.rd Jt2.out)
       obtain ⟨rfl, _⟩ := rd_i1 zt20.1
       obtain ⟨at21, ct21, rfl, _⟩ := rd_list zt20.2
       clear zt20
       clear frt2
       refine ⟨⟨hQ52.c 0 0, hQ52.c 0 1, hQ52.c 1 0, hQ52.c 1 1, hQ52.c 2 0, hQ52.c 2 1, hQ52.c 3 0, hQ52.c 3 1, hQ52.c 3 2, hQ52.c 3 3, hQ52.c 3 4, hQ52.c 4 0, hQ52.c 4 1, hQ52.c 5 0, hQ52.c 5 1, hQ52.c 6 0, hQ52.c 6 1, hQ52.c 7 0, hQ52.c 7 1, hQ52.c 7 2, hQ52.c 7 3, hQ52.c 7 4⟩, ?_⟩
       refine t4F ?_
       have HYG' := qH (Own.mono HYG.out hb27)
       try clear HYG
       have HYG := HYG'
       clear HYG'
       refine t4_hard rfl (by rfl) (fun K hK => ?_)
       go_wp2_with (go_at_call 11; refine (CI.out _ _ _ _ _ _ _ (Iv.rd Jt0_p3.out) (Iv.rd Jt1'.out) (Iv.rd Jt2.out)).mono ?_; rintro e w28 ⟨uK0, uK1, uK2, uK3, uK4, rfl, frK, hb28⟩)
       have JWF11_p30 := qH (Iv.mono JWF11_p29.out hb28)
       try clear JWF11_p29
       have Jt0_p4 := qH (Iv.mono Jt0_p3.out hb28)
       try clear Jt0_p3
       have Jt1'' := qH (Iv.mono Jt1'.out hb28)
       try clear Jt1'
       have Jt2' := qH (Iv.mono Jt2.out hb28)
       try clear Jt2
       have hQ53 := hQ52.step hb28
       have hz24 : w27.heap.size ≤ w28.heap.size := by simpa using hb28.size
       have JK := qH (Fresh.iv frK)
       have zK0 := rd_cons rfl (Iv.rd JK.out)
       obtain ⟨rfl, _⟩ := rd_i1 zK0.1
       have zK1 := rd_cons rfl zK0.2
       obtain ⟨aK1, cK1, rfl, _⟩ := rd_list zK1.1
       have zK2 := rd_cons rfl zK1.2
       obtain ⟨aK2, cK2, rfl, _⟩ := rd_list zK2.1
       have zK3 := rd_cons rfl zK2.2
       obtain ⟨aK3, cK3, rfl, _⟩ := rd_list zK3.1
       obtain ⟨aK4, cK4, rfl, _⟩ := rd_list zK3.2
       clear zK0 zK1 zK2 zK3
       clear frK
       have HYG' := qH (Own.mono HYG.out hb28)
       try clear HYG
       have HYG := HYG'
       clear HYG'
       try clear Jt0_p4
       try clear Jt1''
       try clear Jt2'
       refine ⟨⟨hQ53.c 0 0, hQ53.c 0 1, hQ53.c 1 0, hQ53.c 1 1, hQ53.c 2 0, hQ53.c 2 1, hQ53.c 3 0, hQ53.c 3 1, hQ53.c 3 2, hQ53.c 3 3, hQ53.c 3 4, hQ53.c 4 0, hQ53.c 4 1, hQ53.c 5 0, hQ53.c 5 1, hQ53.c 6 0, hQ53.c 6 1, hQ53.c 7 0, hQ53.c 7 1, hQ53.c 7 2, hQ53.c 7 3, hQ53.c 7 4⟩, ?_⟩
       refine t4F ?_
       refine t4_hard rfl (by rfl) (fun K hK => ?_)
       have fF380 := hQ53.freeAt 8 rfl 0
       have cF380 := hQ53.c 8 0
       have fF381 := hQ53.freeAt 8 rfl 1
       have cF381 := hQ53.c 8 1
       have fF382 := hQ53.freeAt 8 rfl 2
       have cF382 := hQ53.c 8 2
       have fF383 := hQ53.freeAt 8 rfl 3
       have cF383 := hQ53.c 8 3
       have fF384 := hQ53.freeAt 8 rfl 4
       have cF384 := hQ53.c 8 4
       go_wp2_with fail
       have hQ10 := (((((hQ53.set (p := [_, _, _, _, _, _, _, _]) (by simp <;> omega) 0 (.int .i64 r0)).set (p := [_, _, _, _, _, _, _, _]) (by simp <;> omega) 1 (.slice aK1 r1.length cK1)).set (p := [_, _, _, _, _, _, _, _]) (by simp <;> omega) 2 (.slice aK2 r2.length cK2)).set (p := [_, _, _, _, _, _, _, _]) (by simp <;> omega) 3 (.slice aK3 r3.length cK3)).set (p := [_, _, _, _, _, _, _, _]) (by simp <;> omega) 4 (.slice aK4 r4.length cK4))
       have JWF11_p31 := qH (Iv.setOut (Iv.setOut (Iv.setOut (Iv.setOut (Iv.setOut JWF11_p30.out (a := ⟨w25.heap.size, 0, none⟩) (by first | (left; simp only; first | done | omega) | (right; simp only; first | done | omega)) (.int .i64 r0)) (a := ⟨w25.heap.size, 1, none⟩) (by first | (left; simp only; first | done | omega) | (right; simp only; first | done | omega)) (.slice aK1 r1.length cK1)) (a := ⟨w25.heap.size, 2, none⟩) (by first | (left; simp only; first | done | omega) | (right; simp only; first | done | omega)) (.slice aK2 r2.length cK2)) (a := ⟨w25.heap.size, 3, none⟩) (by first | (left; simp only; first | done | omega) | (right; simp only; first | done | omega)) (.slice aK3 r3.length cK3)) (a := ⟨w25.heap.size, 4, none⟩) (by first | (left; simp only; first | done | omega) | (right; simp only; first | done | omega)) (.slice aK4 r4.length cK4))
       try clear JWF11_p30
       have JK' := qH (Iv.setOut (Iv.setOut (Iv.setOut (Iv.setOut (Iv.setOut JK.out (a := ⟨w25.heap.size, 0, none⟩) (by first | (left; simp only; first | done | omega) | (right; simp only; first | done | omega)) (.int .i64 r0)) (a := ⟨w25.heap.size, 1, none⟩) (by first | (left; simp only; first | done | omega) | (right; simp only; first | done | omega)) (.slice aK1 r1.length cK1)) (a := ⟨w25.heap.size, 2, none⟩) (by first | (left; simp only; first | done | omega) | (right; simp only; first | done | omega)) (.slice aK2 r2.length cK2)) (a := ⟨w25.heap.size, 3, none⟩) (by first | (left; simp only; first | done | omega) | (right; simp only; first | done | omega)) (.slice aK3 r3.length cK3)) (a := ⟨w25.heap.size, 4, none⟩) (by first | (left; simp only; first | done | omega) | (right; simp only; first | done | omega)) (.slice aK4 r4.length cK4))
       try clear JK
       have HYG' := qH (own_setOut (own_setOut (own_setOut (own_setOut (own_setOut HYG.out (b := w25.heap.size) (o := 0) (fun hk => by have := hqG _ hk; omega) (.int .i64 r0)) (b := w25.heap.size) (o := 1) (fun hk => by have := hqG _ hk; omega) (.slice aK1 r1.length cK1)) (b := w25.heap.size) (o := 2) (fun hk => by have := hqG _ hk; omega) (.slice aK2 r2.length cK2)) (b := w25.heap.size) (o := 3) (fun hk => by have := hqG _ hk; omega) (.slice aK3 r3.length cK3)) (b := w25.heap.size) (o := 4) (fun hk => by have := hqG _ hk; omega) (.slice aK4 r4.length cK4))
       try clear HYG
       have HYG := HYG'
       clear HYG'
       clear fF380 cF380 fF381 cF381 fF382 cF382 fF383 cF383 fF384 cF384
       refine ⟨?_, ?_⟩
       · first | (have u9 : w28.cell? ⟨w.heap.size, 0, none⟩ = some (.int .i64 x00) ∧ w28.cell? ⟨w.heap.size, 1, none⟩ = some (.slice a01 x01.length c01) ∧ w28.cell? ⟨w.heap.size + 1, 0, none⟩ = some (.int .i64 x10) ∧ w28.cell? ⟨w.heap.size + 1, 1, none⟩ = some (.slice a11 x11.length c11) ∧ w28.cell? ⟨w.heap.size + 1 + 1, 0, none⟩ = some (.int .i64 x20) ∧ w28.cell? ⟨w.heap.size + 1 + 1, 1, none⟩ = some (.slice a21 x21.length c21) ∧ w28.cell? ⟨gUF11, 0, none⟩ = some (.int .i64 r0) ∧ w28.cell? ⟨gUF11, 1, none⟩ = some (.slice aW1 r1.length cW1) ∧ w28.cell? ⟨gUF11, 2, none⟩ = some (.slice aW2 r2.length cW2) ∧ w28.cell? ⟨gUF11, 3, none⟩ = some (.slice aW3 r3.length cW3) ∧ w28.cell? ⟨gUF11, 4, none⟩ = some (.slice aW4 r4.length cW4) ∧ w28.cell? ⟨w8.heap.size, 0, none⟩ = some (.int .i64 x00) ∧ w28.cell? ⟨w8.heap.size, 1, none⟩ = some (.slice ax01 x01.length cx01) ∧ w28.cell? ⟨w9.heap.size, 0, none⟩ = some (.int .i64 x10) ∧ w28.cell? ⟨w9.heap.size, 1, none⟩ = some (.slice ax11 x11.length cx11) ∧ w28.cell? ⟨w10.heap.size, 0, none⟩ = some (.int .i64 x20) ∧ w28.cell? ⟨w10.heap.size, 1, none⟩ = some (.slice ax21 x21.length cx21) ∧ w28.cell? ⟨w11.heap.size, 0, none⟩ = some (.int .i64 r0) ∧ w28.cell? ⟨w11.heap.size, 1, none⟩ = some (.slice aG1 r1.length cG1) ∧ w28.cell? ⟨w11.heap.size, 2, none⟩ = some (.slice aG2 r2.length cG2) ∧ w28.cell? ⟨w11.heap.size, 3, none⟩ = some (.slice aG3 r3.length cG3) ∧ w28.cell? ⟨w11.heap.size, 4, none⟩ = some (.slice aG4 r4.length cG4) := ⟨hQ53.c 0 0, hQ53.c 0 1, hQ53.c 1 0, hQ53.c 1 1, hQ53.c 2 0, hQ53.c 2 1, hQ53.c 3 0, hQ53.c 3 1, hQ53.c 3 2, hQ53.c 3 3, hQ53.c 3 4, hQ53.c 4 0, hQ53.c 4 1, hQ53.c 5 0, hQ53.c 5 1, hQ53.c 6 0, hQ53.c 6 1, hQ53.c 7 0, hQ53.c 7 1, hQ53.c 7 2, hQ53.c 7 3, hQ53.c 7 4⟩; with_reducible exact u9) | (have u9 : (((((w28.setCell ⟨w25.heap.size, 0, none⟩ (.int .i64 r0)).setCell ⟨w25.heap.size, 1, none⟩ (.slice aK1 r1.length cK1)).setCell ⟨w25.heap.size, 2, none⟩ (.slice aK2 r2.length cK2)).setCell ⟨w25.heap.size, 3, none⟩ (.slice aK3 r3.length cK3)).setCell ⟨w25.heap.size, 4, none⟩ (.slice aK4 r4.length cK4)).cell? ⟨w.heap.size, 0, none⟩ = some (.int .i64 x00) ∧ (((((w28.setCell ⟨w25.heap.size, 0, none⟩ (.int .i64 r0)).setCell ⟨w25.heap.size, 1, none⟩ (.slice aK1 r1.length cK1)).setCell ⟨w25.heap.size, 2, none⟩ (.slice aK2 r2.length cK2)).setCell ⟨w25.heap.size, 3, none⟩ (.slice aK3 r3.length cK3)).setCell ⟨w25.heap.size, 4, none⟩ (.slice aK4 r4.length cK4)).cell? ⟨w.heap.size, 1, none⟩ = some (.slice a01 x01.length c01) ∧ (((((w28.setCell ⟨w25.heap.size, 0, none⟩ (.int .i64 r0)).setCell ⟨w25.heap.size, 1, none⟩ (.slice aK1 r1.length cK1)).setCell ⟨w25.heap.size, 2, none⟩ (.slice aK2 r2.length cK2)).setCell ⟨w25.heap.size, 3, none⟩ (.slice aK3 r3.length cK3)).setCell ⟨w25.heap.size, 4, none⟩ (.slice aK4 r4.length cK4)).cell? ⟨w.heap.size + 1, 0, none⟩ = some (.int .i64 x10) ∧ (((((w28.setCell ⟨w25.heap.size, 0, none⟩ (.int .i64 r0)).setCell ⟨w25.heap.size, 1, none⟩ (.slice aK1 r1.length cK1)).setCell ⟨w25.heap.size, 2, none⟩ (.slice aK2 r2.length cK2)).setCell ⟨w25.heap.size, 3, none⟩ (.slice aK3 r3.length cK3)).setCell ⟨w25.heap.size, 4, none⟩ (.slice aK4 r4.length cK4)).cell? ⟨w.heap.size + 1, 1, none⟩ = some (.slice a11 x11.length c11) ∧ (((((w28.setCell ⟨w25.heap.size, 0, none⟩ (.int .i64 r0)).setCell ⟨w25.heap.size, 1, none⟩ (.slice aK1 r1.length cK1)).setCell ⟨w25.heap.size, 2, none⟩ (.slice aK2 r2.length cK2)).setCell ⟨w25.heap.size, 3, none⟩ (.slice aK3 r3.length cK3)).setCell ⟨w25.heap.size, 4, none⟩ (.slice aK4 r4.length cK4)).cell? ⟨w.heap.size + 1 + 1, 0, none⟩ = some (.int .i64 x20) ∧ (((((w28.setCell ⟨w25.heap.size, 0, none⟩ (.int .i64 r0)).setCell ⟨w25.heap.size, 1, none⟩ (.slice aK1 r1.length cK1)).setCell ⟨w25.heap.size, 2, none⟩ (.slice aK2 r2.length cK2)).setCell ⟨w25.heap.size, 3, none⟩ (.slice aK3 r3.length cK3)).setCell ⟨w25.heap.size, 4, none⟩ (.slice aK4 r4.length cK4)).cell? ⟨w.heap.size + 1 + 1, 1, none⟩ = some (.slice a21 x21.length c21) ∧ (((((w28.setCell ⟨w25.heap.size, 0, none⟩ (.int .i64 r0)).setCell ⟨w25.heap.size, 1, none⟩ (.slice aK1 r1.length cK1)).setCell ⟨w25.heap.size, 2, none⟩ (.slice aK2 r2.length cK2)).setCell ⟨w25.heap.size, 3, none⟩ (.slice aK3 r3.length cK3)).setCell ⟨w25.heap.size, 4, none⟩ (.slice aK4 r4.length cK4)).cell? ⟨gUF11, 0, none⟩ = some (.int .i64 r0) ∧ (((((w28.setCell ⟨w25.heap.size, 0, none⟩ (.int .i64 r0)).setCell ⟨w25.heap.size, 1, none⟩ (.slice aK1 r1.length cK1)).setCell ⟨w25.heap.size, 2, none⟩ (.slice aK2 r2.length cK2)).setCell ⟨w25.heap.size, 3, none⟩ (.slice aK3 r3.length cK3)).setCell ⟨w25.heap.size, 4, none⟩ (.slice aK4 r4.length cK4)).cell? ⟨gUF11, 1, none⟩ = some (.slice aW1 r1.length cW1) ∧ (((((w28.setCell ⟨w25.heap.size, 0, none⟩ (.int .i64 r0)).setCell ⟨w25.heap.size, 1, none⟩ (.slice aK1 r1.length cK1)).setCell ⟨w25.heap.size, 2, none⟩ (.slice aK2 r2.length cK2)).setCell ⟨w25.heap.size, 3, none⟩ (.slice aK3 r3.length cK3)).setCell ⟨w25.heap.size, 4, none⟩ (.slice aK4 r4.length cK4)).cell? ⟨gUF11, 2, none⟩ = some (.slice aW2 r2.length cW2) ∧ (((((w28.setCell ⟨w25.heap.size, 0, none⟩ (.int .i64 r0)).setCell ⟨w25.heap.size, 1, none⟩ (.slice aK1 r1.length cK1)).setCell ⟨w25.heap.size, 2, none⟩ (.slice aK2 r2.length cK2)).setCell ⟨w25.heap.size, 3, none⟩ (.slice aK3 r3.length cK3)).setCell ⟨w25.heap.size, 4, none⟩ (.slice aK4 r4.length cK4)).cell? ⟨gUF11, 3, none⟩ = some (.slice aW3 r3.length cW3) ∧ (((((w28.setCell ⟨w25.heap.size, 0, none⟩ (.int .i64 r0)).setCell ⟨w25.heap.size, 1, none⟩ (.slice aK1 r1.length cK1)).setCell ⟨w25.heap.size, 2, none⟩ (.slice aK2 r2.length cK2)).setCell ⟨w25.heap.size, 3, none⟩ (.slice aK3 r3.length cK3)).setCell ⟨w25.heap.size, 4, none⟩ (.slice aK4 r4.length cK4)).cell? ⟨gUF11, 4, none⟩ = some (.slice aW4 r4.length cW4) ∧ (((((w28.setCell ⟨w25.heap.size, 0, none⟩ (.int .i64 r0)).setCell ⟨w25.heap.size, 1, none⟩ (.slice aK1 r1.length cK1)).setCell ⟨w25.heap.size, 2, none⟩ (.slice aK2 r2.length cK2)).setCell ⟨w25.heap.size, 3, none⟩ (.slice aK3 r3.length cK3)).setCell ⟨w25.heap.size, 4, none⟩ (.slice aK4 r4.length cK4)).cell? ⟨w8.heap.size, 0, none⟩ = some (.int .i64 x00) ∧ (((((w28.setCell ⟨w25.heap.size, 0, none⟩ (.int .i64 r0)).setCell ⟨w25.heap.size, 1, none⟩ (.slice aK1 r1.length cK1)).setCell ⟨w25.heap.size, 2, none⟩ (.slice aK2 r2.length cK2)).setCell ⟨w25.heap.size, 3, none⟩ (.slice aK3 r3.length cK3)).setCell ⟨w25.heap.size, 4, none⟩ (.slice aK4 r4.length cK4)).cell? ⟨w8.heap.size, 1, none⟩ = some (.slice ax01 x01.length cx01) ∧ (((((w28.setCell ⟨w25.heap.size, 0, none⟩ (.int .i64 r0)).setCell ⟨w25.heap.size, 1, none⟩ (.slice aK1 r1.length cK1)).setCell ⟨w25.heap.size, 2, none⟩ (.slice aK2 r2.length cK2)).setCell ⟨w25.heap.size, 3, none⟩ (.slice aK3 r3.length cK3)).setCell ⟨w25.heap.size, 4, none⟩ (.slice aK4 r4.length cK4)).cell? ⟨w9.heap.size, 0, none⟩ = some (.int .i64 x10) ∧ (((((w28.setCell ⟨w25.heap.size, 0, none⟩ (.int .i64 r0)).setCell ⟨w25.heap.size, 1, none⟩ (.slice aK1 r1.length cK1)).setCell ⟨w25.heap.size, 2, none⟩ (.slice aK2 r2.length cK2)).setCell ⟨w25.heap.size, 3, none⟩ (.slice aK3 r3.length cK3)).setCell ⟨w25.heap.size, 4, none⟩ (.slice aK4 r4.length cK4)).cell? ⟨w9.heap.size, 1, none⟩ = some (.slice ax11 x11.length cx11) ∧ (((((w28.setCell ⟨w25.heap.size, 0, none⟩ (.int .i64 r0)).setCell ⟨w25.heap.size, 1, none⟩ (.slice aK1 r1.length cK1)).setCell ⟨w25.heap.size, 2, none⟩ (.slice aK2 r2.length cK2)).setCell ⟨w25.heap.size, 3, none⟩ (.slice aK3 r3.length cK3)).setCell ⟨w25.heap.size, 4, none⟩ (.slice aK4 r4.length cK4)).cell? ⟨w10.heap.size, 0, none⟩ = some (.int .i64 x20) ∧ (((((w28.setCell ⟨w25.heap.size, 0, none⟩ (.int .i64 r0)).setCell ⟨w25.heap.size, 1, none⟩ (.slice aK1 r1.length cK1)).setCell ⟨w25.heap.size, 2, none⟩ (.slice aK2 r2.length cK2)).setCell ⟨w25.heap.size, 3, none⟩ (.slice aK3 r3.length cK3)).setCell ⟨w25.heap.size, 4, none⟩ (.slice aK4 r4.length cK4)).cell? ⟨w10.heap.size, 1, none⟩ = some (.slice ax21 x21.length cx21) ∧ (((((w28.setCell ⟨w25.heap.size, 0, none⟩ (.int .i64 r0)).setCell ⟨w25.heap.size, 1, none⟩ (.slice aK1 r1.length cK1)).setCell ⟨w25.heap.size, 2, none⟩ (.slice aK2 r2.length cK2)).setCell ⟨w25.heap.size, 3, none⟩ (.slice aK3 r3.length cK3)).setCell ⟨w25.heap.size, 4, none⟩ (.slice aK4 r4.length cK4)).cell? ⟨w11.heap.size, 0, none⟩ = some (.int .i64 r0) ∧ (((((w28.setCell ⟨w25.heap.size, 0, none⟩ (.int .i64 r0)).setCell ⟨w25.heap.size, 1, none⟩ (.slice aK1 r1.length cK1)).setCell ⟨w25.heap.size, 2, none⟩ (.slice aK2 r2.length cK2)).setCell ⟨w25.heap.size, 3, none⟩ (.slice aK3 r3.length cK3)).setCell ⟨w25.heap.size, 4, none⟩ (.slice aK4 r4.length cK4)).cell? ⟨w11.heap.size, 1, none⟩ = some (.slice aG1 r1.length cG1) ∧ (((((w28.setCell ⟨w25.heap.size, 0, none⟩ (.int .i64 r0)).setCell ⟨w25.heap.size, 1, none⟩ (.slice aK1 r1.length cK1)).setCell ⟨w25.heap.size, 2, none⟩ (.slice aK2 r2.length cK2)).setCell ⟨w25.heap.size, 3, none⟩ (.slice aK3 r3.length cK3)).setCell ⟨w25.heap.size, 4, none⟩ (.slice aK4 r4.length cK4)).cell? ⟨w11.heap.size, 2, none⟩ = some (.slice aG2 r2.length cG2) ∧ (((((w28.setCell ⟨w25.heap.size, 0, none⟩ (.int .i64 r0)).setCell ⟨w25.heap.size, 1, none⟩ (.slice aK1 r1.length cK1)).setCell ⟨w25.heap.size, 2, none⟩ (.slice aK2 r2.length cK2)).setCell ⟨w25.heap.size, 3, none⟩ (.slice aK3 r3.length cK3)).setCell ⟨w25.heap.size, 4, none⟩ (.slice aK4 r4.length cK4)).cell? ⟨w11.heap.size, 3, none⟩ = some (.slice aG3 r3.length cG3) ∧ (((((w28.setCell ⟨w25.heap.size, 0, none⟩ (.int .i64 r0)).setCell ⟨w25.heap.size, 1, none⟩ (.slice aK1 r1.length cK1)).setCell ⟨w25.heap.size, 2, none⟩ (.slice aK2 r2.length cK2)).setCell ⟨w25.heap.size, 3, none⟩ (.slice aK3 r3.length cK3)).setCell ⟨w25.heap.size, 4, none⟩ (.slice aK4 r4.length cK4)).cell? ⟨w11.heap.size, 4, none⟩ = some (.slice aG4 r4.length cG4) := ⟨hQ10.c 0 0, hQ10.c 0 1, hQ10.c 1 0, hQ10.c 1 1, hQ10.c 2 0, hQ10.c 2 1, hQ10.c 3 0, hQ10.c 3 1, hQ10.c 3 2, hQ10.c 3 3, hQ10.c 3 4, hQ10.c 4 0, hQ10.c 4 1, hQ10.c 5 0, hQ10.c 5 1, hQ10.c 6 0, hQ10.c 6 1, hQ10.c 7 0, hQ10.c 7 1, hQ10.c 7 2, hQ10.c 7 3, hQ10.c 7 4⟩; with_reducible exact u9) | exact ⟨hQ10.c 0 0, hQ10.c 0 1, hQ10.c 1 0, hQ10.c 1 1, hQ10.c 2 0, hQ10.c 2 1, hQ10.c 3 0, hQ10.c 3 1, hQ10.c 3 2, hQ10.c 3 3, hQ10.c 3 4, hQ10.c 4 0, hQ10.c 4 1, hQ10.c 5 0, hQ10.c 5 1, hQ10.c 6 0, hQ10.c 6 1, hQ10.c 7 0, hQ10.c 7 1, hQ10.c 7 2, hQ10.c 7 3, hQ10.c 7 4⟩ | exact ⟨hQ53.c 0 0, hQ53.c 0 1, hQ53.c 1 0, hQ53.c 1 1, hQ53.c 2 0, hQ53.c 2 1, hQ53.c 3 0, hQ53.c 3 1, hQ53.c 3 2, hQ53.c 3 3, hQ53.c 3 4, hQ53.c 4 0, hQ53.c 4 1, hQ53.c 5 0, hQ53.c 5 1, hQ53.c 6 0, hQ53.c 6 1, hQ53.c 7 0, hQ53.c 7 1, hQ53.c 7 2, hQ53.c 7 3, hQ53.c 7 4⟩
       refine t4F ?_
       refine t4_nil (NoPanic.normal ?_)
       have hsF38 : St w (((((w28.setCell ⟨w25.heap.size, 0, none⟩ (.int .i64 r0)).setCell ⟨w25.heap.size, 1, none⟩ (.slice aK1 r1.length cK1)).setCell ⟨w25.heap.size, 2, none⟩ (.slice aK2 r2.length cK2)).setCell ⟨w25.heap.size, 3, none⟩ (.slice aK3 r3.length cK3)).setCell ⟨w25.heap.size, 4, none⟩ (.slice aK4 r4.length cK4)).heap.size (((((w28.setCell ⟨w25.heap.size, 0, none⟩ (.int .i64 r0)).setCell ⟨w25.heap.size, 1, none⟩ (.slice aK1 r1.length cK1)).setCell ⟨w25.heap.size, 2, none⟩ (.slice aK2 r2.length cK2)).setCell ⟨w25.heap.size, 3, none⟩ (.slice aK3 r3.length cK3)).setCell ⟨w25.heap.size, 4, none⟩ (.slice aK4 r4.length cK4)) [(w.heap.size, #[.int .i64 x00, .slice a01 x01.length c01], 24), (w.heap.size + 1, #[.int .i64 x10, .slice a11 x11.length c11], 27), (w.heap.size + 1 + 1, #[.int .i64 x20, .slice a21 x21.length c21], 30), (gUF11, #[.int .i64 r0, .slice aW1 r1.length cW1, .slice aW2 r2.length cW2, .slice aW3 r3.length cW3, .slice aW4 r4.length cW4], 37), (w8.heap.size, #[.int .i64 x00, .slice ax01 x01.length cx01], 42), (w9.heap.size, #[.int .i64 x10, .slice ax11 x11.length cx11], 46), (w10.heap.size, #[.int .i64 x20, .slice ax21 x21.length cx21], 48), (w11.heap.size, #[.int .i64 r0, .slice aG1 r1.length cG1, .slice aG2 r2.length cG2, .slice aG3 r3.length cG3, .slice aG4 r4.length cG4], 37), (w25.heap.size, #[.int .i64 r0, .slice aK1 r1.length cK1, .slice aK2 r2.length cK2, .slice aK3 r3.length cK3, .slice aK4 r4.length cK4], 37)] := hQ10.up hQ10.hi (Nat.le_refl _)
       have hVF38 : w28.heap.size = (((((w28.setCell ⟨w25.heap.size, 0, none⟩ (.int .i64 r0)).setCell ⟨w25.heap.size, 1, none⟩ (.slice aK1 r1.length cK1)).setCell ⟨w25.heap.size, 2, none⟩ (.slice aK2 r2.length cK2)).setCell ⟨w25.heap.size, 3, none⟩ (.slice aK3 r3.length cK3)).setCell ⟨w25.heap.size, 4, none⟩ (.slice aK4 r4.length cK4)).heap.size := by simp [World.setCell]
       obtain ⟨loUF38, hiUF38, hUF38, JUF38⟩ : ∃ lo hi : Nat, (w24.heap.size ≤ lo ∧ hi ≤ w28.heap.size ∧ (w25.heap.size < lo ∨ hi ≤ w25.heap.size) ∧ w24.heap.size ≤ w25.heap.size ∧ w25.heap.size < w28.heap.size) ∧ Hid (Iv lo hi (((((w28.setCell ⟨w25.heap.size, 0, none⟩ (.int .i64 r0)).setCell ⟨w25.heap.size, 1, none⟩ (.slice aK1 r1.length cK1)).setCell ⟨w25.heap.size, 2, none⟩ (.slice aK2 r2.length cK2)).setCell ⟨w25.heap.size, 3, none⟩ (.slice aK3 r3.length cK3)).setCell ⟨w25.heap.size, 4, none⟩ (.slice aK4 r4.length cK4)) [.int .i64 r0, .slice aK1 r1.length cK1, .slice aK2 r2.length cK2, .slice aK3 r3.length cK3, .slice aK4 r4.length cK4] (r0, r1, r2, r3, r4)) := ⟨w27.heap.size, w28.heap.size, by omega, JK'.out⟩
       rw [hVF38] at hUF38
       clear hVF38 JK'
       generalize hhwUF38 : (((((w28.setCell ⟨w25.heap.size, 0, none⟩ (.int .i64 r0)).setCell ⟨w25.heap.size, 1, none⟩ (.slice aK1 r1.length cK1)).setCell ⟨w25.heap.size, 2, none⟩ (.slice aK2 r2.length cK2)).setCell ⟨w25.heap.size, 3, none⟩ (.slice aK3 r3.length cK3)).setCell ⟨w25.heap.size, 4, none⟩ (.slice aK4 r4.length cK4)) = wUF38 at hsF38 hUF38 JUF38 JWF11_p31 HYG ⊢
       clear hhwUF38
       generalize hhgUF38 : w25.heap.size = gUF38 at hsF38 hUF38 JUF38 JWF11_p31 HYG ⊢
       clear hhgUF38
       generalize at01 = zat01 at hsF38 hUF38 JUF38 JWF11_p31 HYG ⊢
       generalize ct01 = zct01 at hsF38 hUF38 JUF38 JWF11_p31 HYG ⊢
       generalize at11 = zat11 at hsF38 hUF38 JUF38 JWF11_p31 HYG ⊢
       generalize ct11 = zct11 at hsF38 hUF38 JUF38 JWF11_p31 HYG ⊢
       generalize at21 = zat21 at hsF38 hUF38 JUF38 JWF11_p31 HYG ⊢
       generalize ct21 = zct21 at hsF38 hUF38 JUF38 JWF11_p31 HYG ⊢
       generalize aK1 = zaK1 at hsF38 hUF38 JUF38 JWF11_p31 HYG ⊢
       generalize cK1 = zcK1 at hsF38 hUF38 JUF38 JWF11_p31 HYG ⊢
       generalize aK2 = zaK2 at hsF38 hUF38 JUF38 JWF11_p31 HYG ⊢
       generalize cK2 = zcK2 at hsF38 hUF38 JUF38 JWF11_p31 HYG ⊢
       generalize aK3 = zaK3 at hsF38 hUF38 JUF38 JWF11_p31 HYG ⊢
       generalize cK3 = zcK3 at hsF38 hUF38 JUF38 JWF11_p31 HYG ⊢
       generalize aK4 = zaK4 at hsF38 hUF38 JUF38 JWF11_p31 HYG ⊢
       generalize cK4 = zcK4 at hsF38 hUF38 JUF38 JWF11_p31 HYG ⊢
       revert HYG
       revert JWF11_p31
       revert JUF38
       revert hUF38
       revert hsF38
       revert zcK4
       revert zaK4
       revert zcK3
       revert zaK3
       revert zcK2
       revert zaK2
       revert zcK1
       revert zaK1
       revert zct21
       revert zat21
       revert zct11
       revert zat11
       revert zct01
       revert zat01
       revert hiUF38
       revert loUF38
       revert gUF38
       revert wUF38
       exact HJ.get
   · refine t4_hard rfl (by rfl) (fun K hK => ?_)
     go_wp2_with fail
     have hQ54 := hQ39.alloc #[.int .i64 0, .slice none 0 0, .slice none 0 0, .slice none 0 0, .slice none 0 0] 37 rfl
     have JWF11_p26 := qH (Iv.mono JWF11_p25.out (belowA _ (.cells #[.int .i64 0, .slice none 0 0, .slice none 0 0, .slice none 0 0, .slice none 0 0] 37)))
     try clear JWF11_p25
     have HYG' := qH (Own.mono HYG.out (belowA _ (.cells #[.int .i64 0, .slice none 0 0, .slice none 0 0, .slice none 0 0, .slice none 0 0] 37)))
     try clear HYG
     have HYG := HYG'
     clear HYG'
     have hzF38A5 : wF38.heap.size + 1 ≤ (wF38.alloc (.cells #[.int .i64 0, .slice none 0 0, .slice none 0 0, .slice none 0 0, .slice none 0 0] 37)).heap.size := by simp
     generalize hgenF38A5 : wF38.alloc (.cells #[.int .i64 0, .slice none 0 0, .slice none 0 0, .slice none 0 0, .slice none 0 0] 37) = wF38A5 at *
     clear hgenF38A5
     refine ⟨⟨hQ54.c 0 0, hQ54.c 0 1, hQ54.c 1 0, hQ54.c 1 1, hQ54.c 2 0, hQ54.c 2 1, hQ54.c 3 0, hQ54.c 3 1, hQ54.c 3 2, hQ54.c 3 3, hQ54.c 3 4, hQ54.c 4 0, hQ54.c 4 1, hQ54.c 5 0, hQ54.c 5 1, hQ54.c 6 0, hQ54.c 6 1, hQ54.c 7 0, hQ54.c 7 1, hQ54.c 7 2, hQ54.c 7 3, hQ54.c 7 4⟩, ?_⟩
     refine t4F ?_
     refine t4_hard rfl (by rfl) (fun K hK => ?_)
     go_wp2_with (go_at_call 8; refine (toTemplate_b (x00, x01) _ _ _ (Rd.mono H0.out hQ54.bel) gc0).mono ?_; rintro e w25 ⟨ut00, ut01, rfl, frt0, hb25⟩)
     have JWF11_p27 := qH (Iv.mono JWF11_p26.out hb25)
     try clear JWF11_p26
     have hQ55 := hQ54.step hb25
     have hz21 : wF38A5.heap.size ≤ w25.heap.size := by simpa using hb25.size
     have Jt0 := qH (Fresh.iv frt0)
     have zt00 := rd_cons rfl (Iv.rd Jt0.out)
     obtain ⟨rfl, _⟩ := rd_i1 zt00.1
     obtain ⟨at01, ct01, rfl, _⟩ := rd_list zt00.2
     clear zt00
     clear frt0
     refine ⟨⟨hQ55.c 0 0, hQ55.c 0 1, hQ55.c 1 0, hQ55.c 1 1, hQ55.c 2 0, hQ55.c 2 1, hQ55.c 3 0, hQ55.c 3 1, hQ55.c 3 2, hQ55.c 3 3, hQ55.c 3 4, hQ55.c 4 0, hQ55.c 4 1, hQ55.c 5 0, hQ55.c 5 1, hQ55.c 6 0, hQ55.c 6 1, hQ55.c 7 0, hQ55.c 7 1, hQ55.c 7 2, hQ55.c 7 3, hQ55.c 7 4⟩, ?_⟩
     refine t4F ?_
     have HYG' := qH (Own.mono HYG.out hb25)
     try clear HYG
     have HYG := HYG'
     clear HYG'
     refine t4_hard rfl (by rfl) (fun K hK => ?_)
     go_wp2_with (go_at_call 9; refine (toInstance_b (x10, x11) _ _ _ (Rd.mono H1.out hQ55.bel) gc1).mono ?_; rintro e w26 ⟨ut10, ut11, rfl, frt1, hb26⟩)
     have JWF11_p28 := qH (Iv.mono JWF11_p27.out hb26)
     try clear JWF11_p27
     have Jt0' := qH (Iv.mono Jt0.out hb26)
     try clear Jt0
     have hQ56 := hQ55.step hb26
     have hz22 : w25.heap.size ≤ w26.heap.size := by simpa using hb26.size
     have Jt1 := qH (Fresh.iv frt1)
     have zt10 := rd_cons rfl (Iv.rd Jt1.out)
     obtain ⟨rfl, _⟩ := rd_i1 zt10.1
     obtain ⟨at11, ct11, rfl, _⟩ := rd_list zt10.2
     clear zt10
     clear frt1
     refine ⟨⟨hQ56.c 0 0, hQ56.c 0 1, hQ56.c 1 0, hQ56.c 1 1, hQ56.c 2 0, hQ56.c 2 1, hQ56.c 3 0, hQ56.c 3 1, hQ56.c 3 2, hQ56.c 3 3, hQ56.c 3 4, hQ56.c 4 0, hQ56.c 4 1, hQ56.c 5 0, hQ56.c 5 1, hQ56.c 6 0, hQ56.c 6 1, hQ56.c 7 0, hQ56.c 7 1, hQ56.c 7 2, hQ56.c 7 3, hQ56.c 7 4⟩, ?_⟩
     refine t4F ?_
     have HYG' := qH (Own.mono HYG.out hb26)
     try clear HYG
     have HYG := HYG'
     clear HYG'
     refine t4_hard rfl (by rfl) (fun K hK => ?_)
     go_wp2_with (go_at_call 10; refine (toOp_b (x20, x21) _ _ _ (Rd.mono H2.out hQ56.bel) gc2).mono ?_; rintro e w27 ⟨ut20, ut21, rfl, frt2, hb27⟩)
     have JWF11_p29 := qH (Iv.mono JWF11_p28.out hb27)
     try clear JWF11_p28
     have Jt0'' := qH (Iv.mono Jt0'.out hb27)
     try clear Jt0'
     have Jt1' := qH (Iv.mono Jt1.out hb27)
     try clear Jt1
     have hQ57 := hQ56.step hb27
     have hz23 : w26.heap.size ≤ w27.heap.size := by simpa using hb27.size
     have Jt2 := qH (Fresh.iv frt2)
     have zt20 := rd_cons rfl (Iv.rd Jt2.out)
     obtain ⟨rfl, _⟩ := rd_i1 zt20.1
     obtain ⟨at21, ct21, rfl, _⟩ := rd_list zt20.2
     clear zt20
     clear frt2
     refine ⟨⟨hQ57.c 0 0, hQ57.c 0 1, hQ57.c 1 0, hQ57.c 1 1, hQ57.c 2 0, hQ57.c 2 1, hQ57.c 3 0, hQ57.c 3 1, hQ57.c 3 2, hQ57.c 3 3, hQ57.c 3 4, hQ57.c 4 0, hQ57.c 4 1, hQ57.c 5 0, hQ57.c 5 1, hQ57.c 6 0, hQ57.c 6 1, hQ57.c 7 0, hQ57.c 7 1, hQ57.c 7 2, hQ57.c 7 3, hQ57.c 7 4⟩, ?_⟩
     refine t4F ?_
     have HYG' := qH (Own.mono HYG.out hb27)
     try clear HYG
     have HYG := HYG'
     clear HYG'
     refine t4_hard rfl (by rfl) (fun K hK => ?_)
     go_wp2_with (go_at_call 11; refine (CI.out _ _ _ _ _ _ _ (Iv.rd Jt0''.out) (Iv.rd Jt1'.out) (Iv.rd Jt2.out)).mono ?_; rintro e w28 ⟨uK0, uK1, uK2, uK3, uK4, rfl, frK, hb28⟩)
     have JWF11_p30 := qH (Iv.mono JWF11_p29.out hb28)
     try clear JWF11_p29
     have Jt0_p3 := qH (Iv.mono Jt0''.out hb28)
     try clear Jt0''
     have Jt1'' := qH (Iv.mono Jt1'.out hb28)
     try clear Jt1'
     have Jt2' := qH (Iv.mono Jt2.out hb28)
     try clear Jt2
     have hQ58 := hQ57.step hb28
     have hz24 : w27.heap.size ≤ w28.heap.size := by simpa using hb28.size
     have JK := qH (Fresh.iv frK)
     have zK0 := rd_cons rfl (Iv.rd JK.out)
     obtain ⟨rfl, _⟩ := rd_i1 zK0.1
     have zK1 := rd_cons rfl zK0.2
     obtain ⟨aK1, cK1, rfl, _⟩ := rd_list zK1.1
     have zK2 := rd_cons rfl zK1.2
     obtain ⟨aK2, cK2, rfl, _⟩ := rd_list zK2.1
     have zK3 := rd_cons rfl zK2.2
     obtain ⟨aK3, cK3, rfl, _⟩ := rd_list zK3.1
     obtain ⟨aK4, cK4, rfl, _⟩ := rd_list zK3.2
     clear zK0 zK1 zK2 zK3
     clear frK
     have HYG' := qH (Own.mono HYG.out hb28)
     try clear HYG
     have HYG := HYG'
     clear HYG'
     try clear Jt0_p3
     try clear Jt1''
     try clear Jt2'
     refine ⟨⟨hQ58.c 0 0, hQ58.c 0 1, hQ58.c 1 0, hQ58.c 1 1, hQ58.c 2 0, hQ58.c 2 1, hQ58.c 3 0, hQ58.c 3 1, hQ58.c 3 2, hQ58.c 3 3, hQ58.c 3 4, hQ58.c 4 0, hQ58.c 4 1, hQ58.c 5 0, hQ58.c 5 1, hQ58.c 6 0, hQ58.c 6 1, hQ58.c 7 0, hQ58.c 7 1, hQ58.c 7 2, hQ58.c 7 3, hQ58.c 7 4⟩, ?_⟩
     refine t4F ?_
     refine t4_hard rfl (by rfl) (fun K hK => ?_)
     have fF380 := hQ58.freeAt 8 rfl 0
     have cF380 := hQ58.c 8 0
     have fF381 := hQ58.freeAt 8 rfl 1
     have cF381 := hQ58.c 8 1
     have fF382 := hQ58.freeAt 8 rfl 2
     have cF382 := hQ58.c 8 2
     have fF383 := hQ58.freeAt 8 rfl 3
     have cF383 := hQ58.c 8 3
     have fF384 := hQ58.freeAt 8 rfl 4
     have cF384 := hQ58.c 8 4
     go_wp2_with fail
     have hQ11 := (((((hQ58.set (p := [_, _, _, _, _, _, _, _]) (by simp <;> omega) 0 (.int .i64 r0)).set (p := [_, _, _, _, _, _, _, _]) (by simp <;> omega) 1 (.slice aK1 r1.length cK1)).set (p := [_, _, _, _, _, _, _, _]) (by simp <;> omega) 2 (.slice aK2 r2.length cK2)).set (p := [_, _, _, _, _, _, _, _]) (by simp <;> omega) 3 (.slice aK3 r3.length cK3)).set (p := [_, _, _, _, _, _, _, _]) (by simp <;> omega) 4 (.slice aK4 r4.length cK4))
     have JWF11_p31 := qH (Iv.setOut (Iv.setOut (Iv.setOut (Iv.setOut (Iv.setOut JWF11_p30.out (a := ⟨wF38.heap.size, 0, none⟩) (by first | (left; simp only; first | done | omega) | (right; simp only; first | done | omega)) (.int .i64 r0)) (a := ⟨wF38.heap.size, 1, none⟩) (by first | (left; simp only; first | done | omega) | (right; simp only; first | done | omega)) (.slice aK1 r1.length cK1)) (a := ⟨wF38.heap.size, 2, none⟩) (by first | (left; simp only; first | done | omega) | (right; simp only; first | done | omega)) (.slice aK2 r2.length cK2)) (a := ⟨wF38.heap.size, 3, none⟩) (by first | (left; simp only; first | done | omega) | (right; simp only; first | done | omega)) (.slice aK3 r3.length cK3)) (a := ⟨wF38.heap.size, 4, none⟩) (by first | (left; simp only; first | done | omega) | (right; simp only; first | done | omega)) (.slice aK4 r4.length cK4))
     try clear JWF11_p30
     have JK' := qH (Iv.setOut (Iv.setOut (Iv.setOut (Iv.setOut (Iv.setOut JK.out (a := ⟨wF38.heap.size, 0, none⟩) (by first | (left; simp only; first | done | omega) | (right; simp only; first | done | omega)) (.int .i64 r0)) (a := ⟨wF38.heap.size, 1, none⟩) (by first | (left; simp only; first | done | omega) | (right; simp only; first | done | omega)) (.slice aK1 r1.length cK1)) (a := ⟨wF38.heap.size, 2, none⟩) (by first | (left; simp only; first | done | omega) | (right; simp only; first | done | omega)) (.slice aK2 r2.length cK2)) (a := ⟨wF38.heap.size, 3, none⟩) (by first | (left; simp only; first | done | omega) | (right; simp only; first | done | omega)) (.slice aK3 r3.length cK3)) (a := ⟨wF38.heap.size, 4, none⟩) (by first | (left; simp only; first | done | omega) | (right; simp only; first | done | omega)) (.slice aK4 r4.length cK4))
     try clear JK
     have HYG' := qH (own_setOut (own_setOut (own_setOut (own_setOut (own_setOut HYG.out (b := wF38.heap.size) (o := 0) (fun hk => by have := hqG _ hk; omega) (.int .i64 r0)) (b := wF38.heap.size) (o := 1) (fun hk => by have := hqG _ hk; omega) (.slice aK1 r1.length cK1)) (b := wF38.heap.size) (o := 2) (fun hk => by have := hqG _ hk; omega) (.slice aK2 r2.length cK2)) (b := wF38.heap.size) (o := 3) (fun hk => by have := hqG _ hk; omega) (.slice aK3 r3.length cK3)) (b := wF38.heap.size) (o := 4) (fun hk => by have := hqG _ hk; omega) (.slice aK4 r4.length cK4))
     try clear HYG
     have HYG := HYG'
     clear HYG'
     clear fF380 cF380 fF381 cF381 fF382 cF382 fF383 cF383 fF384 cF384
     refine ⟨?_, ?_⟩
     · first | (have u9 : w28.cell? ⟨w.heap.size, 0, none⟩ = some (.int .i64 x00) ∧ w28.cell? ⟨w.heap.size, 1, none⟩ = some (.slice a01 x01.length c01) ∧ w28.cell? ⟨w.heap.size + 1, 0, none⟩ = some (.int .i64 x10) ∧ w28.cell? ⟨w.heap.size + 1, 1, none⟩ = some (.slice a11 x11.length c11) ∧ w28.cell? ⟨w.heap.size + 1 + 1, 0, none⟩ = some (.int .i64 x20) ∧ w28.cell? ⟨w.heap.size + 1 + 1, 1, none⟩ = some (.slice a21 x21.length c21) ∧ w28.cell? ⟨gUF11, 0, none⟩ = some (.int .i64 r0) ∧ w28.cell? ⟨gUF11, 1, none⟩ = some (.slice aW1 r1.length cW1) ∧ w28.cell? ⟨gUF11, 2, none⟩ = some (.slice aW2 r2.length cW2) ∧ w28.cell? ⟨gUF11, 3, none⟩ = some (.slice aW3 r3.length cW3) ∧ w28.cell? ⟨gUF11, 4, none⟩ = some (.slice aW4 r4.length cW4) ∧ w28.cell? ⟨w8.heap.size, 0, none⟩ = some (.int .i64 x00) ∧ w28.cell? ⟨w8.heap.size, 1, none⟩ = some (.slice ax01 x01.length cx01) ∧ w28.cell? ⟨w9.heap.size, 0, none⟩ = some (.int .i64 x10) ∧ w28.cell? ⟨w9.heap.size, 1, none⟩ = some (.slice ax11 x11.length cx11) ∧ w28.cell? ⟨w10.heap.size, 0, none⟩ = some (.int .i64 x20) ∧ w28.cell? ⟨w10.heap.size, 1, none⟩ = some (.slice ax21 x21.length cx21) ∧ w28.cell? ⟨w11.heap.size, 0, none⟩ = some (.int .i64 r0) ∧ w28.cell? ⟨w11.heap.size, 1, none⟩ = some (.slice aG1 r1.length cG1) ∧ w28.cell? ⟨w11.heap.size, 2, none⟩ = some (.slice aG2 r2.length cG2) ∧ w28.cell? ⟨w11.heap.size, 3, none⟩ = some (.slice aG3 r3.length cG3) ∧ w28.cell? ⟨w11.heap.size, 4, none⟩ = some (.slice aG4 r4.length cG4) := ⟨hQ58.c 0 0, hQ58.c 0 1, hQ58.c 1 0, hQ58.c 1 1, hQ58.c 2 0, hQ58.c 2 1, hQ58.c 3 0, hQ58.c 3 1, hQ58.c 3 2, hQ58.c 3 3, hQ58.c 3 4, hQ58.c 4 0, hQ58.c 4 1, hQ58.c 5 0, hQ58.c 5 1, hQ58.c 6 0, hQ58.c 6 1, hQ58.c 7 0, hQ58.c 7 1, hQ58.c 7 2, hQ58.c 7 3, hQ58.c 7 4⟩; with_reducible exact u9) | (have u9 : (((((w28.setCell ⟨wF38.heap.size, 0, none⟩ (.int .i64 r0)).setCell ⟨wF38.heap.size, 1, none⟩ (.slice aK1 r1.length cK1)).setCell ⟨wF38.heap.size, 2, none⟩ (.slice aK2 r2.length cK2)).setCell ⟨wF38.heap.size, 3, none⟩ (.slice aK3 r3.length cK3)).setCell ⟨wF38.heap.size, 4, none⟩ (.slice aK4 r4.length cK4)).cell? ⟨w.heap.size, 0, none⟩ = some (.int .i64 x00) ∧ (((((w28.setCell ⟨wF38.heap.size, 0, none⟩ (.int .i64 r0)).setCell ⟨wF38.heap.size, 1, none⟩ (.slice aK1 r1.length cK1)).setCell ⟨wF38.heap.size, 2, none⟩ (.slice aK2 r2.length cK2)).setCell ⟨wF38.heap.size, 3, none⟩ (.slice aK3 r3.length cK3)).setCell ⟨wF38.heap.size, 4, none⟩ (.slice aK4 r4.length cK4)).cell? ⟨w.heap.size, 1, none⟩ = some (.slice a01 x01.length c01) ∧ (((((w28.setCell ⟨wF38.heap.size, 0, none⟩ (.int .i64 r0)).setCell ⟨wF38.heap.size, 1, none⟩ (.slice aK1 r1.length cK1)).setCell ⟨wF38.heap.size, 2, none⟩ (.slice aK2 r2.length cK2)).setCell ⟨wF38.heap.size, 3, none⟩ (.slice aK3 r3.length cK3)).setCell ⟨wF38.heap.size, 4, none⟩ (.slice aK4 r4.length cK4)).cell? ⟨w.heap.size + 1, 0, none⟩ = some (.int .i64 x10) ∧ (((((w28.setCell ⟨wF38.heap.size, 0, none⟩ (.int .i64 r0)).setCell ⟨wF38.heap.size, 1, none⟩ (.slice aK1 r1.length cK1)).setCell ⟨wF38.heap.size, 2, none⟩ (.slice aK2 r2.length cK2)).setCell ⟨wF38.heap.size, 3, none⟩ (.slice aK3 r3.length cK3)).setCell ⟨wF38.heap.size, 4, none⟩ (.slice aK4 r4.length cK4)).cell? ⟨w.heap.size + 1, 1, none⟩ = some (.slice a11 x11.length c11) ∧ (((((w28.setCell ⟨wF38.heap.size, 0, none⟩ (.int .i64 r0)).setCell ⟨wF38.heap.size, 1, none⟩ (.slice aK1 r1.length cK1)).setCell ⟨wF38.heap.size, 2, none⟩ (.slice aK2 r2.length cK2)).setCell ⟨wF38.heap.size, 3, none⟩ (.slice aK3 r3.length cK3)).setCell ⟨wF38.heap.size, 4, none⟩ (.slice aK4 r4.length cK4)).cell? ⟨w.heap.size + 1 + 1, 0, none⟩ = some (.int .i64 x20) ∧ (((((w28.setCell ⟨wF38.heap.size, 0, none⟩ (.int .i64 r0)).setCell ⟨wF38.heap.size, 1, none⟩ (.slice aK1 r1.length cK1)).setCell ⟨wF38.heap.size, 2, none⟩ (.slice aK2 r2.length cK2)).setCell ⟨wF38.heap.size, 3, none⟩ (.slice aK3 r3.length cK3)).setCell ⟨wF38.heap.size, 4, none⟩ (.slice aK4 r4.length cK4)).cell? ⟨w.heap.size + 1 + 1, 1, none⟩ = some (.slice a21 x21.length c21) ∧ (((((w28.setCell ⟨wF38.heap.size, 0, none⟩ (.int .i64 r0)).setCell ⟨wF38.heap.size, 1, none⟩ (.slice aK1 r1.length cK1)).setCell ⟨wF38.heap.size, 2, none⟩ (.slice aK2 r2.length cK2)).setCell ⟨wF38.heap.size, 3, none⟩ (.slice aK3 r3.length cK3)).setCell ⟨wF38.heap.size, 4, none⟩ (.slice aK4 r4.length cK4)).cell? ⟨gUF11, 0, none⟩ = some (.int .i64 r0) ∧ (((((w28.setCell ⟨wF38.heap.size, 0, none⟩ (.int .i64 r0)).setCell ⟨wF38.heap.size, 1, none⟩ (.slice aK1 r1.length cK1)).setCell ⟨wF38.heap.size, 2, none⟩ (.slice aK2 r2.length cK2)).setCell ⟨wF38.heap.size, 3, none⟩ (.slice aK3 r3.length cK3)).setCell ⟨wF38.heap.size, 4, none⟩ (.slice aK4 r4.length cK4)).cell? ⟨gUF11, 1, none⟩ = some (.slice aW1 r1.length cW1) ∧ (((((w28.setCell ⟨wF38.heap.size, 0, none⟩ (.int .i64 r0)).setCell ⟨wF38.heap.size, 1, none⟩ (.slice aK1 r1.length cK1)).setCell ⟨wF38.heap.size, 2, none⟩ (.slice aK2 r2.length cK2)).setCell ⟨wF38.heap.size, 3, none⟩ (.slice aK3 r3.length cK3)).setCell ⟨wF38.heap.size, 4, none⟩ (.slice aK4 r4.length cK4)).cell? ⟨gUF11, 2, none⟩ = some (.slice aW2 r2.length cW2) ∧ (((((w28.setCell ⟨wF38.heap.size, 0, none⟩ (.int .i64 r0)).setCell ⟨wF38.heap.size, 1, none⟩ (.slice aK1 r1.length cK1)).setCell ⟨wF38.heap.size, 2, none⟩ (.slice aK2 r2.length cK2)).setCell ⟨wF38.heap.size, 3, none⟩ (.slice aK3 r3.length cK3)).setCell ⟨wF38.heap.size, 4, none⟩ (.slice aK4 r4.length cK4)).cell? ⟨gUF11, 3, none⟩ = some (.slice aW3 r3.length cW3) ∧ (((((w28.setCell ⟨wF38.heap.size, 0, none⟩ (.int .i64 r0)).setCell ⟨wF38.heap.size, 1, none⟩ (.slice aK1 r1.length cK1)).setCell ⟨wF38.heap.size, 2, none⟩ (.slice aK2 r2.length cK2)).setCell ⟨wF38.heap.size, 3, none⟩ (.slice aK3 r3.length cK3)).setCell ⟨wF38.heap.size, 4, none⟩ (.slice aK4 r4.length cK4)).cell? ⟨gUF11, 4, none⟩ = some (.slice aW4 r4.length cW4) ∧ (((((w28.setCell ⟨wF38.heap.size, 0, none⟩ (.int .i64 r0)).setCell ⟨wF38.heap.size, 1, none⟩ (.slice aK1 r1.length cK1)).setCell ⟨wF38.heap.size, 2, none⟩ (.slice aK2 r2.length cK2)).setCell ⟨wF38.heap.size, 3, none⟩ (.slice aK3 r3.length cK3)).setCell ⟨wF38.heap.size, 4, none⟩ (.slice aK4 r4.length cK4)).cell? ⟨w8.heap.size, 0, none⟩ = some (.int .i64 x00) ∧ (((((w28.setCell ⟨wF38.heap.size, 0, none⟩ (.int .i64 r0)).setCell ⟨wF38.heap.size, 1, none⟩ (.slice aK1 r1.length cK1)).setCell ⟨wF38.heap.size, 2, none⟩ (.slice aK2 r2.length cK2)).setCell ⟨wF38.heap.size, 3, none⟩ (.slice aK3 r3.length cK3)).setCell ⟨wF38.heap.size, 4, none⟩ (.slice aK4 r4.length cK4)).cell? ⟨w8.heap.size, 1, none⟩ = some (.slice ax01 x01.length cx01) ∧ (((((w28.setCell ⟨wF38.heap.size, 0, none⟩ (.int .i64 r0)).setCell ⟨wF38.heap.size, 1, none⟩ (.slice aK1 r1.length cK1)).setCell ⟨wF38.heap.size, 2, none⟩ (.slice aK2 r2.length cK2)).setCell ⟨wF38.heap.size, 3, none⟩ (.slice aK3 r3.length cK3)).setCell ⟨wF38.heap.size, 4, none⟩ (.slice aK4 r4.length cK4)).cell? ⟨w9.heap.size, 0, none⟩ = some (.int .i64 x10) ∧ (((((w28.setCell ⟨wF38.heap.size, 0, none⟩ (.int .i64 r0)).setCell ⟨wF38.heap.size, 1, none⟩ (.slice aK1 r1.length cK1)).setCell ⟨wF38.heap.size, 2, none⟩ (.slice aK2 r2.length cK2)).setCell ⟨wF38.heap.size, 3, none⟩ (.slice aK3 r3.length cK3)).setCell ⟨wF38.heap.size, 4, none⟩ (.slice aK4 r4.length cK4)).cell? ⟨w9.heap.size, 1, none⟩ = some (.slice ax11 x11.length cx11) ∧ (((((w28.setCell ⟨wF38.heap.size, 0, none⟩ (.int .i64 r0)).setCell ⟨wF38.heap.size, 1, none⟩ (.slice aK1 r1.length cK1)).setCell ⟨wF38.heap.size, 2, none⟩ (.slice aK2 r2.length cK2)).setCell ⟨wF38.heap.size, 3, none⟩ (.slice aK3 r3.length cK3)).setCell ⟨wF38.heap.size, 4, none⟩ (.slice aK4 r4.length cK4)).cell? ⟨w10.heap.size, 0, none⟩ = some (.int .i64 x20) ∧ (((((w28.setCell ⟨wF38.heap.size, 0, none⟩ (.int .i64 r0)).setCell ⟨wF38.heap.size, 1, none⟩ (.slice aK1 r1.length cK1)).setCell ⟨wF38.heap.size, 2, none⟩ (.slice aK2 r2.length cK2)).setCell ⟨wF38.heap.size, 3, none⟩ (.slice aK3 r3.length cK3)).setCell ⟨wF38.heap.size, 4, none⟩ (.slice aK4 r4.length cK4)).cell? ⟨w10.heap.size, 1, none⟩ = some (.slice ax21 x21.length cx21) ∧ (((((w28.setCell ⟨wF38.heap.size, 0, none⟩ (.int .i64 r0)).setCell ⟨wF38.heap.size, 1, none⟩ (.slice aK1 r1.length cK1)).setCell ⟨wF38.heap.size, 2, none⟩ (.slice aK2 r2.length cK2)).setCell ⟨wF38.heap.size, 3, none⟩ (.slice aK3 r3.length cK3)).setCell ⟨wF38.heap.size, 4, none⟩ (.slice aK4 r4.length cK4)).cell? ⟨w11.heap.size, 0, none⟩ = some (.int .i64 r0) ∧ (((((w28.setCell ⟨wF38.heap.size, 0, none⟩ (.int .i64 r0)).setCell ⟨wF38.heap.size, 1, none⟩ (.slice aK1 r1.length cK1)).setCell ⟨wF38.heap.size, 2, none⟩ (.slice aK2 r2.length cK2)).setCell ⟨wF38.heap.size, 3, none⟩ (.slice aK3 r3.length cK3)).setCell ⟨wF38.heap.size, 4, none⟩ (.slice aK4 r4.length cK4)).cell? ⟨w11.heap.size, 1, none⟩ = some (.slice aG1 r1.length cG1) ∧ (((((w28.setCell ⟨wF38.heap.size, 0, none⟩ (.int .i64 r0)).setCell ⟨wF38.heap.size, 1, none⟩ (.slice aK1 r1.length cK1)).setCell ⟨wF38.heap.size, 2, none⟩ (.slice aK2 r2.length cK2)).setCell ⟨wF38.heap.size, 3, none⟩ (.slice aK3 r3.length cK3)).setCell ⟨wF38.heap.size, 4, none⟩ (.slice aK4 r4.length cK4)).cell? ⟨w11.heap.size, 2, none⟩ = some (.slice aG2 r2.length cG2) ∧ (((((w28.setCell ⟨wF38.heap.size, 0, none⟩ (.int .i64 r0)).setCell ⟨wF38.heap.size, 1, none⟩ (.slice aK1 r1.length cK1)).setCell ⟨wF38.heap.size, 2, none⟩ (.slice aK2 r2.length cK2)).setCell ⟨wF38.heap.size, 3, none⟩ (.slice aK3 r3.length cK3)).setCell ⟨wF38.heap.size, 4, none⟩ (.slice aK4 r4.length cK4)).cell? ⟨w11.heap.size, 3, none⟩ = some (.slice aG3 r3.length cG3) ∧ (((((w28.setCell ⟨wF38.heap.size, 0, none⟩ (.int .i64 r0)).setCell ⟨wF38.heap.size, 1, none⟩ (.slice aK1 r1.length cK1)).setCell ⟨wF38.heap.size, 2, none⟩ (.slice aK2 r2.length cK2)).setCell ⟨wF38.heap.size, 3, none⟩ (.slice aK3 r3.length cK3)).setCell ⟨wF38.heap.size, 4, none⟩ (.slice aK4 r4.length cK4)).cell? ⟨w11.heap.size, 4, none⟩ = some (.slice aG4 r4.length cG4) := ⟨hQ11.c 0 0, hQ11.c 0 1, hQ11.c 1 0, hQ11.c 1 1, hQ11.c 2 0, hQ11.c 2 1, hQ11.c 3 0, hQ11.c 3 1, hQ11.c 3 2, hQ11.c 3 3, hQ11.c 3 4, hQ11.c 4 0, hQ11.c 4 1, hQ11.c 5 0, hQ11.c 5 1, hQ11.c 6 0, hQ11.c 6 1, hQ11.c 7 0, hQ11.c 7 1, hQ11.c 7 2, hQ11.c 7 3, hQ11.c 7 4⟩; with_reducible exact u9) | exact ⟨hQ11.c 0 0, hQ11.c 0 1, hQ11.c 1 0, hQ11.c 1 1, hQ11.c 2 0, hQ11.c 2 1, hQ11.c 3 0, hQ11.c 3 1, hQ11.c 3 2, hQ11.c 3 3, hQ11.c 3 4, hQ11.c 4 0, hQ11.c 4 1, hQ11.c 5 0, hQ11.c 5 1, hQ11.c 6 0, hQ11.c 6 1, hQ11.c 7 0, hQ11.c 7 1, hQ11.c 7 2, hQ11.c 7 3, hQ11.c 7 4⟩ | exact ⟨hQ58.c 0 0, hQ58.c 0 1, hQ58.c 1 0, hQ58.c 1 1, hQ58.c 2 0, hQ58.c 2 1, hQ58.c 3 0, hQ58.c 3 1, hQ58.c 3 2, hQ58.c 3 3, hQ58.c 3 4, hQ58.c 4 0, hQ58.c 4 1, hQ58.c 5 0, hQ58.c 5 1, hQ58.c 6 0, hQ58.c 6 1, hQ58.c 7 0, hQ58.c 7 1, hQ58.c 7 2, hQ58.c 7 3, hQ58.c 7 4⟩
     refine t4F ?_
     refine t4_nil (NoPanic.normal ?_)
     have hsF38 : St w (((((w28.setCell ⟨wF38.heap.size, 0, none⟩ (.int .i64 r0)).setCell ⟨wF38.heap.size, 1, none⟩ (.slice aK1 r1.length cK1)).setCell ⟨wF38.heap.size, 2, none⟩ (.slice aK2 r2.length cK2)).setCell ⟨wF38.heap.size, 3, none⟩ (.slice aK3 r3.length cK3)).setCell ⟨wF38.heap.size, 4, none⟩ (.slice aK4 r4.length cK4)).heap.size (((((w28.setCell ⟨wF38.heap.size, 0, none⟩ (.int .i64 r0)).setCell ⟨wF38.heap.size, 1, none⟩ (.slice aK1 r1.length cK1)).setCell ⟨wF38.heap.size, 2, none⟩ (.slice aK2 r2.length cK2)).setCell ⟨wF38.heap.size, 3, none⟩ (.slice aK3 r3.length cK3)).setCell ⟨wF38.heap.size, 4, none⟩ (.slice aK4 r4.length cK4)) [(w.heap.size, #[.int .i64 x00, .slice a01 x01.length c01], 24), (w.heap.size + 1, #[.int .i64 x10, .slice a11 x11.length c11], 27), (w.heap.size + 1 + 1, #[.int .i64 x20, .slice a21 x21.length c21], 30), (gUF11, #[.int .i64 r0, .slice aW1 r1.length cW1, .slice aW2 r2.length cW2, .slice aW3 r3.length cW3, .slice aW4 r4.length cW4], 37), (w8.heap.size, #[.int .i64 x00, .slice ax01 x01.length cx01], 42), (w9.heap.size, #[.int .i64 x10, .slice ax11 x11.length cx11], 46), (w10.heap.size, #[.int .i64 x20, .slice ax21 x21.length cx21], 48), (w11.heap.size, #[.int .i64 r0, .slice aG1 r1.length cG1, .slice aG2 r2.length cG2, .slice aG3 r3.length cG3, .slice aG4 r4.length cG4], 37), (wF38.heap.size, #[.int .i64 r0, .slice aK1 r1.length cK1, .slice aK2 r2.length cK2, .slice aK3 r3.length cK3, .slice aK4 r4.length cK4], 37)] := hQ11.up hQ11.hi (Nat.le_refl _)
     have hVF38 : w28.heap.size = (((((w28.setCell ⟨wF38.heap.size, 0, none⟩ (.int .i64 r0)).setCell ⟨wF38.heap.size, 1, none⟩ (.slice aK1 r1.length cK1)).setCell ⟨wF38.heap.size, 2, none⟩ (.slice aK2 r2.length cK2)).setCell ⟨wF38.heap.size, 3, none⟩ (.slice aK3 r3.length cK3)).setCell ⟨wF38.heap.size, 4, none⟩ (.slice aK4 r4.length cK4)).heap.size := by simp [World.setCell]
     obtain ⟨loUF38, hiUF38, hUF38, JUF38⟩ : ∃ lo hi : Nat, (w24.heap.size ≤ lo ∧ hi ≤ w28.heap.size ∧ (wF38.heap.size < lo ∨ hi ≤ wF38.heap.size) ∧ w24.heap.size ≤ wF38.heap.size ∧ wF38.heap.size < w28.heap.size) ∧ Hid (Iv lo hi (((((w28.setCell ⟨wF38.heap.size, 0, none⟩ (.int .i64 r0)).setCell ⟨wF38.heap.size, 1, none⟩ (.slice aK1 r1.length cK1)).setCell ⟨wF38.heap.size, 2, none⟩ (.slice aK2 r2.length cK2)).setCell ⟨wF38.heap.size, 3, none⟩ (.slice aK3 r3.length cK3)).setCell ⟨wF38.heap.size, 4, none⟩ (.slice aK4 r4.length cK4)) [.int .i64 r0, .slice aK1 r1.length cK1, .slice aK2 r2.length cK2, .slice aK3 r3.length cK3, .slice aK4 r4.length cK4] (r0, r1, r2, r3, r4)) := ⟨w27.heap.size, w28.heap.size, by omega, JK'.out⟩
     rw [hVF38] at hUF38
     clear hVF38 JK'
     generalize hhwUF38 : (((((w28.setCell ⟨wF38.heap.size, 0, none⟩ (.int .i64 r0)).setCell ⟨wF38.heap.size, 1, none⟩ (.slice aK1 r1.length cK1)).setCell ⟨wF38.heap.size, 2, none⟩ (.slice aK2 r2.length cK2)).setCell ⟨wF38.heap.size, 3, none⟩ (.slice aK3 r3.length cK3)).setCell ⟨wF38.heap.size, 4, none⟩ (.slice aK4 r4.length cK4)) = wUF38 at hsF38 hUF38 JUF38 JWF11_p31 HYG ⊢
     clear hhwUF38
     generalize hhgUF38 : wF38.heap.size = gUF38 at hsF38 hUF38 JUF38 JWF11_p31 HYG ⊢
     clear hhgUF38
     generalize at01 = zat01 at hsF38 hUF38 JUF38 JWF11_p31 HYG ⊢
     generalize ct01 = zct01 at hsF38 hUF38 JUF38 JWF11_p31 HYG ⊢
     generalize at11 = zat11 at hsF38 hUF38 JUF38 JWF11_p31 HYG ⊢
     generalize ct11 = zct11 at hsF38 hUF38 JUF38 JWF11_p31 HYG ⊢
     generalize at21 = zat21 at hsF38 hUF38 JUF38 JWF11_p31 HYG ⊢
     generalize ct21 = zct21 at hsF38 hUF38 JUF38 JWF11_p31 HYG ⊢
     generalize aK1 = zaK1 at hsF38 hUF38 JUF38 JWF11_p31 HYG ⊢
     generalize cK1 = zcK1 at hsF38 hUF38 JUF38 JWF11_p31 HYG ⊢
     generalize aK2 = zaK2 at hsF38 hUF38 JUF38 JWF11_p31 HYG ⊢
     generalize cK2 = zcK2 at hsF38 hUF38 JUF38 JWF11_p31 HYG ⊢
     generalize aK3 = zaK3 at hsF38 hUF38 JUF38 JWF11_p31 HYG ⊢
     generalize cK3 = zcK3 at hsF38 hUF38 JUF38 JWF11_p31 HYG ⊢
     generalize aK4 = zaK4 at hsF38 hUF38 JUF38 JWF11_p31 HYG ⊢
     generalize cK4 = zcK4 at hsF38 hUF38 JUF38 JWF11_p31 HYG ⊢
     revert HYG
     revert JWF11_p31
     revert JUF38
     revert hUF38
     revert hsF38
     revert zcK4
     revert zaK4
     revert zcK3
     revert zaK3
     revert zcK2
     revert zaK2
     revert zcK1
     revert zaK1
     revert zct21
     revert zat21
     revert zct11
     revert zat11
     revert zct01
     revert zat01
     revert hiUF38
     revert loUF38
     revert gUF38
     revert wUF38
     exact HJ.get
 intro wUF38 gUF38 loUF38 hiUF38 at01 ct01 at11 ct11 at21 ct21 aK1 cK1 aK2 cK2 aK3 cK3 aK4 cK4
 intro hsF38 hUF38 JKF38 JWF38 HYG
 obtain ⟨h1F38, h2F38, h3F38, h4F38, h5F38⟩ := hUF38
 obtain ⟨qa00, qa01, qa10, qa11, qa20, qa21, qw0, qw1⟩ := hsF38.c8 0 0 0 1 1 0 1 1 2 0 2 1 3 0 3 1
 obtain ⟨qw2, qw3, qw4, qx00, qx01, qx10, qx11, qx20⟩ := hsF38.c8 3 2 3 3 3 4 4 0 4 1 5 0 5 1 6 0
 obtain ⟨qx21, qg0, qg1, qg2, qg3, qg4, qh0, qh1⟩ := hsF38.c8 6 1 7 0 7 1 7 2 7 3 7 4 8 0 8 1
 obtain ⟨qh2, qh3, qh4⟩ := hsF38.c3 8 2 8 3 8 4
 go_wp2_with fail
 refine (eqVerdict_s (r0, r1, r2, r3, r4) _ _ _ _ _ _ _ _ _ _ _ (Iv.rd JKF38.out) (Iv.rd JWF38.out)).mono ?_
 rintro e w29 ⟨rfl, hb29⟩
 have JWF38' := qH (Iv.mono JWF38.out hb29)
 clear JWF38
 have JKF38' := qH (Iv.mono JKF38.out hb29)
 clear JKF38
 have hsF38s := hsF38.step hb29
 have hz21 : wUF38.heap.size ≤ w29.heap.size := by simpa using hb29.size
 clear qa00 qa01 qa10 qa11 qa20 qa21 qw0 qw1 qw2 qw3 qw4 qx00 qx01 qx10 qx11 qx20 qx21 qg0 qg1 qg2 qg3 qg4 qh0 qh1 qh2 qh3 qh4
 obtain ⟨qa00, qa01, qa10, qa11, qa20, qa21, qw0, qw1⟩ := hsF38s.c8 0 0 0 1 1 0 1 1 2 0 2 1 3 0 3 1
 obtain ⟨qw2, qw3, qw4, qx00, qx01, qx10, qx11, qx20⟩ := hsF38s.c8 3 2 3 3 3 4 4 0 4 1 5 0 5 1 6 0
 obtain ⟨qx21, qg0, qg1, qg2, qg3, qg4, qh0, qh1⟩ := hsF38s.c8 6 1 7 0 7 1 7 2 7 3 7 4 8 0 8 1
 obtain ⟨qh2, qh3, qh4⟩ := hsF38s.c3 8 2 8 3 8 4
 have HYG' := qH (Own.mono HYG.out hb29)
 clear HYG
 have HYG := HYG'
 clear HYG'
 have HYr30 := qH (Own.rd HYG.out)
 go_wp2_with fail
 refine (heldVerdict_g yG _ _ _ _ _ 1 mG _ HYr30.out HHG.out (by omega) (by omega) (by omega)).mono ?_
 rintro e w30 ⟨rfl, hb30⟩
 have HYG' := qH (Own.mono HYG.out hb30)
 clear HYG HYr30
 have HYG := HYG'
 clear HYG'
 clear JWF38'
 clear JKF38'
 have hsF38ss := hsF38s.step hb30
 have hz22 : w29.heap.size ≤ w30.heap.size := by simpa using hb30.size
 clear qa00 qa01 qa10 qa11 qa20 qa21 qw0 qw1 qw2 qw3 qw4 qx00 qx01 qx10 qx11 qx20 qx21 qg0 qg1 qg2 qg3 qg4 qh0 qh1 qh2 qh3 qh4
 obtain ⟨qa00, qa01, qa10, qa11, qa20, qa21, qw0, qw1⟩ := hsF38ss.c8 0 0 0 1 1 0 1 1 2 0 2 1 3 0 3 1
 obtain ⟨qw2, qw3, qw4, qx00, qx01, qx10, qx11, qx20⟩ := hsF38ss.c8 3 2 3 3 3 4 4 0 4 1 5 0 5 1 6 0
 obtain ⟨qx21, qg0, qg1, qg2, qg3, qg4, qh0, qh1⟩ := hsF38ss.c8 6 1 7 0 7 1 7 2 7 3 7 4 8 0 8 1
 obtain ⟨qh2, qh3, qh4⟩ := hsF38ss.c3 8 2 8 3 8 4
 go_wp2_with fail
 go_ret
 exact ⟨rfl, hsF38ss.bel⟩
end Go.Proofs.YtpkdiiagnplpkaaGreat
