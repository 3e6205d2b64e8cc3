import Derived.Test.YtpkdiiagnplpkaaGreatBaseQm
set_option linter.unusedSimpArgs false
set_option linter.unusedVariables false
set_option maxHeartbeats 400000
namespace Go.Proofs.YtpkdiiagnplpkaaGreat
open Go.RowKit
open Rep (Rd Own sz)
theorem own_op {ps : List Nat} {w : World} {v0 v1 : Value} {x : OpT} (h : Own ps w [v0, v1] x) : v0 = .int .i64 x.1 ∧ I64 x.1 ∧ Own ps w [v1] x.2 := by
 obtain ⟨p1, p2, a, b, rfl, e, h1, h2⟩ := h
 obtain ⟨rfl, rfl, hI⟩ := h1
 simp only [List.cons_append, List.nil_append, List.cons.injEq] at e
 obtain ⟨rfl, rfl⟩ := e
 exact ⟨rfl, hI, h2⟩
theorem mk_own_op {ps : List Nat} {w : World} {v1 : Value} {n : Int} {l : List Int} (hI : I64 n) (h : Own ps w [v1] l) : Own ps w [.int .i64 n, v1] ((n, l) : OpT) := ⟨[], ps, [_], [v1], rfl, rfl, ⟨rfl, rfl, hI⟩, h⟩
theorem markOp_h (x : OpT) (v0 v1 : Value) (ps : List Nat) (w : World) (k : Int) (hx : Own ps w [v0, v1] x) (k0 : 0 ≤ k) (k1 : k + x.2.length ≤ 1000000000) :
 Calls Tryz.prog 18 #[.agg #[v0, v1], .int .i64 k] w fun e w' => ∃ (y : OpT) (m : Int), e = .returned (.int .i64 m) ∧ k ≤ m ∧ m ≤ k + x.2.length ∧ Own ps w' [v0, v1] y ∧ heldInts y.2 k m ∧ But ps w w' := by
 obtain ⟨rfl, hI, h2⟩ := own_op hx
 obtain ⟨a, c, rfl, _⟩ := rd_list (Own.rd h2)
 have hs := (St.start w).alloc #[.int .i64 x.1, .slice a x.2.length c] 48 rfl
 have h3 := qH (Own.mono h2 hs.bel)
 clear hx h2
 go_enter Tryz.func18, Tryz.ntmps18
 go_wp2_with fail
 refine (markInt64S_h x.2 _ ps k _ h3.out k0 k1).mono ?_
 rintro e w1 ⟨y, m, rfl, m0, m1, hO, hh, _, hb⟩
 have HH := qH hh
 clear hh
 go_wp2
 go_ret
 exact ⟨(x.1, y), m, rfl, m0, m1, mk_own_op hI hO, HH.out, (but_of hs.bel).trans hb⟩
end Go.Proofs.YtpkdiiagnplpkaaGreat
