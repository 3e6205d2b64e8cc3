import Derived.Test.YtoblfnoaepbhfaaGreatDomBQz
set_option linter.unusedSimpArgs false
set_option linter.unusedVariables false
set_option maxHeartbeats 1000000
set_option maxRecDepth 100000
namespace Go.Proofs.YtoblfnoaepbhfaaGreat
open Go.Proofs.Tryz
open Go.RowKit Go.Shelf
open Rep (Rd Own sz)
def Nu (x y : oW) : Bool := decide (x = y)
theorem rE (x : oW) (v0 v1 v2 v3 v4 : Value) (y : oW) (u0 u1 u2 u3 u4 : Value) (w : World) (hx : Rd w [v0, v1, v2, v3, v4] x) (hy : Rd w [u0, u1, u2, u3, u4] y) :
 Calls prog 178 #[.agg #[v0, v1, v2, v3, v4], .agg #[u0, u1, u2, u3, u4]] w fun e w' => e = .returned (.bool (Nu x y)) ∧ Below w.heap.size w w' := by
 unfold Nu
 obtain ⟨x0, x1, x2, x3, x4⟩ := x
 obtain ⟨y0, y1, y2, y3, y4⟩ := y
 have zx0 := au rfl hx
 obtain ⟨rfl, _⟩ := aG zx0.1
 have zx1 := au rfl zx0.2
 have sO := qH zx1.1
 obtain ⟨BH, tH, rfl, sx1⟩ := ah sO.out
 clear sx1
 have zx2 := au rfl zx1.2
 have Wy := qH zx2.1
 obtain ⟨ax2, cx2, rfl, sx2⟩ := ah Wy.out
 clear sx2
 have zx3 := au rfl zx2.2
 have Zq := qH zx3.1
 obtain ⟨ax3, cx3, rfl, sx3⟩ := ah Zq.out
 clear sx3
 have Zr := qH zx3.2
 obtain ⟨ax4, cx4, rfl, sx4⟩ := ah Zr.out
 clear sx4
 clear hx zx0 zx1 zx2 zx3
 have zy0 := au rfl hy
 obtain ⟨rfl, _⟩ := aG zy0.1
 have zy1 := au rfl zy0.2
 have Lc := qH zy1.1
 obtain ⟨Zy, Zz, rfl, sy1⟩ := ah Lc.out
 clear sy1
 have zy2 := au rfl zy1.2
 have Ry2 := qH zy2.1
 obtain ⟨ay2, cy2, rfl, sy2⟩ := ah Ry2.out
 clear sy2
 have zy3 := au rfl zy2.2
 have Ry3 := qH zy3.1
 obtain ⟨ay3, cy3, rfl, sy3⟩ := ah Ry3.out
 clear sy3
 have Ry4 := qH zy3.2
 obtain ⟨ay4, cy4, rfl, sy4⟩ := ah Ry4.out
 clear sy4
 clear hy zy0 zy1 zy2 zy3
 have hs := ((St.start w).alloc #[.int .i64 x0, .slice BH x1.length tH, .slice ax2 x2.length cx2, .slice ax3 x3.length cx3, .slice ax4 x4.length cx4] 37 rfl).alloc #[.int .i64 y0, .slice Zy y1.length Zz, .slice ay2 y2.length cy2, .slice ay3 y3.length cy3, .slice ay4 y4.length cy4] 37 (n := w.heap.size + 1) (by simp)
 go_enter func178, ntmps178
 by_cases E0 : x0 = y0
 rotate_left
 · have hb0 : (x0 == y0) = false := by simpa using E0
   have F := qH E0
   clear E0
   go_wp2_with fail
   go_ret
   exact ⟨ak (by simp [F.out]), hs.bel⟩
 subst E0
 have hb0 : (x0 == x0) = true := by simp
 go_wp2_with fail
 refine (Ac x1 y1 _ _ _ (Rd.mono sO.out hs.bel) (Rd.mono Lc.out hs.bel)).mono ?_
 rintro e w1 ⟨rfl, hc1⟩
 have hss := hs.step hc1
 by_cases E1 : x1 = y1
 rotate_left
 · rw [decide_eq_false E1]
   have F := qH E1
   clear E1
   go_wp2_with fail
   go_ret
   exact ⟨ak (by simp [F.out]), hss.bel⟩
 rw [decide_eq_true E1]
 have G1 := qH E1
 clear E1
 obtain ⟨p0, q0, p1, q1, p2, q2, p3, q3⟩ := hss.c8 0 0 1 0 0 1 1 1 0 2 1 2 0 3 1 3
 obtain ⟨p4, q4⟩ := hss.c2 0 4 1 4
 go_wp2_with fail
 refine (Rj x2 y2 _ _ _ (Rd.mono Wy.out hss.bel) (Rd.mono Ry2.out hss.bel)).mono ?_
 rintro e w2 ⟨rfl, hc2⟩
 have Gq := hss.step hc2
 by_cases E2 : x2 = y2
 rotate_left
 · rw [decide_eq_false E2]
   have F := qH E2
   clear E2
   go_wp2_with fail
   go_ret
   exact ⟨ak (by simp [F.out]), Gq.bel⟩
 rw [decide_eq_true E2]
 have G2 := qH E2
 clear E2 p0 q0 p1 q1 p2 q2 p3 q3 p4 q4
 obtain ⟨p0, q0, p1, q1, p2, q2, p3, q3⟩ := Gq.c8 0 0 1 0 0 1 1 1 0 2 1 2 0 3 1 3
 obtain ⟨p4, q4⟩ := Gq.c2 0 4 1 4
 go_wp2_with fail
 refine (O6 x3 y3 _ _ _ (Rd.mono Zq.out Gq.bel) (Rd.mono Ry3.out Gq.bel)).mono ?_
 rintro e w3 ⟨rfl, hc3⟩
 have xM := Gq.step hc3
 by_cases E3 : x3 = y3
 rotate_left
 · rw [decide_eq_false E3]
   have F := qH E3
   clear E3
   go_wp2_with fail
   go_ret
   exact ⟨ak (by simp [F.out]), xM.bel⟩
 rw [decide_eq_true E3]
 have G3 := qH E3
 clear E3 p0 q0 p1 q1 p2 q2 p3 q3 p4 q4
 obtain ⟨p0, q0, p1, q1, p2, q2, p3, q3⟩ := xM.c8 0 0 1 0 0 1 1 1 0 2 1 2 0 3 1 3
 obtain ⟨p4, q4⟩ := xM.c2 0 4 1 4
 go_wp2_with fail
 refine (Ac x4 y4 _ _ _ (Rd.mono Zr.out xM.bel) (Rd.mono Ry4.out xM.bel)).mono ?_
 rintro e w4 ⟨rfl, hc4⟩
 have PE := xM.step hc4
 by_cases E4 : x4 = y4
 rotate_left
 · rw [decide_eq_false E4]
   have F := qH E4
   clear E4
   go_wp2_with fail
   go_ret
   exact ⟨ak (by simp [F.out]), PE.bel⟩
 rw [decide_eq_true E4]
 have G4 := qH E4
 clear E4 p0 q0 p1 q1 p2 q2 p3 q3 p4 q4
 obtain ⟨p0, q0, p1, q1, p2, q2, p3, q3⟩ := PE.c8 0 0 1 0 0 1 1 1 0 2 1 2 0 3 1 3
 obtain ⟨p4, q4⟩ := PE.c2 0 4 1 4
 go_wp2_with fail
 go_ret
 exact ⟨ak (by simp [G1.out, G2.out, G3.out, G4.out]), PE.bel⟩
end Go.Proofs.YtoblfnoaepbhfaaGreat
