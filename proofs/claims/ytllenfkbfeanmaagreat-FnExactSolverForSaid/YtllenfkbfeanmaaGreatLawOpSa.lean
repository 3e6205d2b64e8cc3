/-
  CONTRACTS of the laws' functions on operations.
-/
import Derived.Test.YtllenfkbfeanmaaGreatBaseSa
namespace Go.Proofs.YtllenfkbfeanmaaGreat
open Go.RowKit
open Rep (Rd Own sz)
set_option linter.unusedSimpArgs false
set_option linter.unusedVariables false

theorem rd_opL {w : World} {v0 v1 : Value} {x : OpT} (h : Rd w [v0, v1] x) : v0 = .int .i64 x.1 ∧ I64 x.1 ∧ ∃ a c, v1 = .slice a x.2.length c ∧ RdSl w a c x.2 := by
  have h2 := rd_cons rfl h
  have h3 := rd_int h2.1
  exact ⟨by simpa using h3.1, h3.2, rd_list h2.2⟩
theorem own_op {ps : List Nat} {w : World} {v0 v1 : Value} {x : OpT} (h : Own ps w [v0, v1] x) : v0 = .int .i64 x.1 ∧ I64 x.1 ∧ Own ps w [v1] x.2 := by
  obtain ⟨p1, p2, a, b, rfl, e, h1, h2⟩ := h
  obtain ⟨rfl, rfl, hI⟩ := h1
  simp only [List.cons_append, List.nil_append, List.cons.injEq] at e
  obtain ⟨rfl, rfl⟩ := e
  exact ⟨rfl, hI, h2⟩
theorem mk_own_op {ps : List Nat} {w : World} {v1 : Value} {n : Int} {l : List Int} (hI : I64 n) (h : Own ps w [v1] l) : Own ps w [.int .i64 n, v1] ((n, l) : OpT) := ⟨[], ps, [_], [v1], rfl, rfl, ⟨rfl, rfl, hI⟩, h⟩
set_option maxHeartbeats 400000 in
theorem markOp_h (x : OpT) (v0 v1 : Value) (ps : List Nat) (w : World) (k : Int) (hx : Own ps w [v0, v1] x) (k0 : 0 ≤ k) (k1 : k + x.2.length ≤ 1000000000) :
    Calls Tryz.prog 24 #[.agg #[v0, v1], .int .i64 k] w fun e w' => ∃ (y : OpT) (m : Int), e = .returned (.int .i64 m) ∧ k ≤ m ∧ m ≤ k + x.2.length ∧ Own ps w' [v0, v1] y ∧ heldInts y.2 k m ∧ But ps w w' := by
  obtain ⟨rfl, hI, h2⟩ := own_op hx
  obtain ⟨a, c, rfl, _⟩ := rd_list (Own.rd h2)
  have hs := (St.start w).alloc #[.int .i64 x.1, .slice a x.2.length c] 34 rfl
  have h3 := Lib.hid (Own.mono h2 hs.bel)
  clear hx h2
  go_enter Tryz.func24, Tryz.ntmps24
  go_wp2_with fail
  refine (markInt64S_h x.2 _ ps k _ h3.out k0 k1).mono ?_
  rintro e w1 ⟨y, m, rfl, m0, m1, hO, hh, _, hb⟩
  have HH := Lib.hid hh
  clear hh
  go_wp2
  go_ret
  exact ⟨(x.1, y), m, rfl, m0, m1, mk_own_op hI hO, HH.out, (but_of hs.bel).trans hb⟩
set_option maxHeartbeats 400000 in
theorem heldOp_h (x : OpT) (v0 v1 : Value) (w : World) (k m : Int) (hx : Rd w [v0, v1] x) (h : heldInts x.2 k m) (k0 : 0 ≤ k) (k1 : k ≤ m) (k2 : m ≤ 1000000000) :
    Calls Tryz.prog 25 #[.agg #[v0, v1], .int .i64 k] w fun e w' => e = .returned (.int .i64 m) ∧ Below w.heap.size w w' := by
  have h1 := Lib.hid (rd_cons rfl hx).2
  obtain ⟨rfl, _, a, c, rfl, _⟩ := rd_opL hx
  have hs := (St.start w).alloc #[.int .i64 x.1, .slice a x.2.length c] 34 rfl
  have HH := Lib.hid h
  clear hx h
  go_enter Tryz.func25, Tryz.ntmps25
  go_wp2_with fail
  refine (heldInt64S_h x.2 _ k m _ (Rd.mono h1.out hs.bel) HH.out k0 k2).mono ?_
  rintro e w1 ⟨rfl, rfl⟩
  go_wp2
  go_ret
  exact ⟨rfl, hs.bel⟩

end Go.Proofs.YtllenfkbfeanmaaGreat

