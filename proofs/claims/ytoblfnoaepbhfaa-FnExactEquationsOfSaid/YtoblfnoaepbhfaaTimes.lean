/-
  CONTRACT: (row).times of the program.
-/
import Derived.Test.YtoblfnoaepbhfaaAddT
namespace Go.Proofs.Ytoblfnoaepbhfaa
open Go.RowKit Go.Shelf Go.IntWalk
open Rep (Rd Own sz)
set_option linter.unusedSimpArgs false
set_option linter.unusedVariables false

set_option maxRecDepth 100000 in
set_option maxHeartbeats 1000000 in
theorem times_c (p n : Int) (r : RowT) (v0 v1 : Value) (w : World) (hr : Rd w [v0, v1] r) (h1 : r.1.length ≤ 1000000) (h2 : r.2.length ≤ 1000000)
    (hp0 : 2 ≤ p) (hp : p ≤ 3) (hn0 : 0 ≤ n) (hn : n ≤ 3) (rr1 : Res p r.1) (rr2 : Res p r.2) :
    Calls Try.prog 136 #[.agg #[v0, v1], .int .i64 p, .int .i64 n] w fun e w' => ∃ o0 o1, e = .returned (.agg #[o0, o1]) ∧ Fresh w.heap.size w' [o0, o1] (timesR p n r) ∧ Below w.heap.size w w' := by
  have hs := ((St.start w).alloc #[v0, v1] 160 rfl).alloc #[.slice none 0 0, .slice none 0 0] 160 (n := w.heap.size + 1) (by simp)
  have HR := Lib.hid hr
  clear hr
  go_enter Try.func136, Try.ntmps136
  go_wp2_with fail
  refine (addTimes_c p (n - 1 + p) r r v0 v1 v0 v1 _ (Rd.mono HR.out hs.bel) (Rd.mono HR.out hs.bel) h1 h2 hp0 hp (by omega) (by omega) rr1 rr2 rr1 rr2 (Nat.le_refl _) (Nat.le_refl _)).mono ?_
  rintro e w1 ⟨o0, o1, rfl, fr, hb1⟩
  have hs1 := hs.step hb1
  have iv := Fresh.iv fr
  have f0 := hs1.freeAt 1 rfl 0
  have f1 := hs1.freeAt 1 rfl 1
  have k0 := hs1.cellAt 1 rfl 0 rfl
  have k1 := hs1.cellAt 1 rfl 1 rfl
  have one : ∀ u, u ∈ [o0, o1] → u.oneCell' = true := Rep.rd_one fr.rd
  have IV := Lib.hid iv
  clear fr iv
  have q0 := one o0 (by simp)
  have q1 := one o1 (by simp)
  have z := rd_cons rfl (Iv.rd IV.out)
  obtain ⟨a0, c0, rfl, _⟩ := rd_list z.1
  obtain ⟨a1, c1, rfl, _⟩ := rd_list z.2
  clear z one q0 q1
  have hz : w.heap.size + 2 ≤ w1.heap.size := hs1.hi
  go_wp2_with fail
  refine bodyPost_ret (v := .agg #[.slice a0 (timesR p n r).1.length c0, .slice a1 (timesR p n r).2.length c1]) (by simp [results, Try.results136, go_sem, timesR, k0, k1, f0, f1]) rfl ⟨_, _, rfl, ?_⟩
  exact hs1.finI IV.out (g := w.heap.size + 1) (by omega) (by simp) [.slice a0 (timesR p n r).1.length c0, .slice a1 (timesR p n r).2.length c1]

end Go.Proofs.Ytoblfnoaepbhfaa
