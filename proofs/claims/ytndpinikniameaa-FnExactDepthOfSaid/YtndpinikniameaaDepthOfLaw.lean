/-
  THE LAW FnExactDepthOf, WALKED. (Printed by wip/genlaws.py.)
-/
import Derived.Test.YtndpinikniameaaEq
import Derived.Test.YtndpinikniameaaDepth
namespace Go.Proofs.Ytndpinikniameaa
open Go.RowKit Go.Shelf
open Rep (Rd Own sz)
set_option linter.unusedSimpArgs false
set_option linter.unusedVariables false

set_option maxRecDepth 100000 in
set_option maxHeartbeats 2000000 in
theorem FnExactDepthOf_c (x0 : List ((Int × Int × Int × Int))) (v00 : Value) (w : World) (h0 : Rd w [v00] x0) :
    Calls Try.prog 3 #[v00] w fun e w' => e = .returned (.bool true) ∧ Below w.heap.size w w' := by
  obtain ⟨a0, c0, rfl, _⟩ := rd_list h0
  have H0 := Lib.hid h0
  clear h0
  have hs := (St.start w)
  go_enter Try.func3, Try.ntmps3
  go_wp2_with fail
  refine (szLineS_b x0 _ (1048576) _ (Rd.mono H0.out hs.bel) (by omega) (by omega)).mono ?_
  rintro e w1 ⟨rfl, hb1⟩
  have hss := hs.step hb1
  rcases less_cases (1048576) (cost_LineS x0) with ⟨e1, g0⟩ | ⟨e1, g0⟩
  · rw [e1]
    clear e1
    go_wp2_with fail
    go_ret
    exact ⟨rfl, hss.bel⟩
  rw [e1]
  clear e1
  have gc0 : cost_LineS x0 ≤ 1048576 := by omega
  go_wp2_with fail
  refine (toLineS_b x0 _ _ (Rd.mono H0.out hss.bel) gc0).mono ?_
  rintro e w2 ⟨us00, rfl, frs0, hb2⟩
  have hsss := hss.step hb2
  have rds0 := frs0.rd
  obtain ⟨as0, cs0, rfl, _⟩ := rd_list rds0
  have Rs0 := Lib.hid rds0
  clear rds0 frs0
  go_wp2_with fail
  refine (sDepthOf_c x0 _ _ Rs0.out).mono ?_
  rintro e w3 ⟨rfl, hb3⟩
  clear Rs0
  have hssss := hsss.step hb3
  go_wp2_with fail
  refine (toLineS_b x0 _ _ (Rd.mono H0.out hssss.bel) gc0).mono ?_
  rintro e w4 ⟨ux00, rfl, frx0, hb4⟩
  have hsssss := hssss.step hb4
  have rdx0 := frx0.rd
  obtain ⟨ax0, cx0, rfl, _⟩ := rd_list rdx0
  have Rx0 := Lib.hid rdx0
  clear rdx0 frx0
  go_wp2_with fail
  refine (DepthOf_c x0 _ _ Rx0.out).mono ?_
  rintro e w5 ⟨rfl, hb5⟩
  have Rx0' := Lib.hid (Rd.mono Rx0.out hb5)
  clear Rx0
  have hssssss := hsssss.step hb5
  have hr0 : ((depthOf x0).1 != (depthOf x0).1) = false := by simp
  have hr1 : ((depthOf x0).2 != (depthOf x0).2) = false := by simp
  go_wp2_with fail
  refine (toLineS_b x0 _ _ (Rd.mono H0.out hssssss.bel) gc0).mono ?_
  rintro e w6 ⟨uy00, rfl, fry0, hb6⟩
  have Rx0'' := Lib.hid (Rd.mono Rx0'.out hb6)
  clear Rx0'
  have hsssssss := hssssss.step hb6
  have rdy0 := fry0.rd
  obtain ⟨ay0, cy0, rfl, _⟩ := rd_list rdy0
  have Ry0 := Lib.hid rdy0
  clear rdy0 fry0
  go_wp2_with fail
  refine (eqLineS_b x0 x0 _ _ _ Rx0''.out Ry0.out).mono ?_
  rintro e w7 ⟨rfl, hb7⟩
  rw [decide_eq_true (rfl : x0 = x0)]
  clear Ry0
  clear Rx0''
  have hssssssss := hsssssss.step hb7
  go_wp2_with fail
  go_ret
  exact ⟨rfl, hssssssss.bel⟩

end Go.Proofs.Ytndpinikniameaa
