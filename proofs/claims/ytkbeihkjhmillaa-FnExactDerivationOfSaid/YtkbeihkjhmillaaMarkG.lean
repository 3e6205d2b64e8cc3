/-
  CONTRACTS: mark and held, all in one shape.
-/
import Derived.Test.YtkbeihkjhmillaaMarkEqn
namespace Go.Proofs.Ytkbeihkjhmillaa
open Go.RowKit
open Rep (Rd Own sz)
set_option linter.unusedSimpArgs false
set_option linter.unusedVariables false

def mc_Int64S (l : List Int) : Nat := l.length
def mc_Int64SS (l : List (List Int)) : Nat := (l.map List.length).sum
def mc_Rel (x : RelT) : Nat := mc_Int64SS x.2
def mc_Equation (x : Eqn) : Nat := x.1.length
def held_Int64S (l : List Int) (k m : Int) : Prop := heldInts l k m
def held_Equation (x : Eqn) (k m : Int) : Prop := heldInts x.1 k m
theorem markInt64S_g (x : List Int) (v0 : Value) (ps : List Nat) (k : Int) (w : World) (hx : Own ps w [v0] x) (hn : ps.Nodup) (k0 : 0 ≤ k) (k1 : k + mc_Int64S x ≤ 1000000000) :
    Calls Try.prog 29 #[v0, .int .i64 k] w fun e w' => ∃ (y : List Int) (m : Int), e = .returned (.int .i64 m) ∧ k ≤ m ∧ m ≤ k + mc_Int64S x ∧ Own ps w' [v0] y ∧ held_Int64S y k m ∧ But ps w w' :=
  (markInt64S_h x v0 ps k w hx k0 k1).mono fun e w' ⟨y, m, h1, h2, h3, h4, h5, _, h6⟩ => ⟨y, m, h1, h2, h3, h4, h5, h6⟩
theorem heldInt64S_g (x : List Int) (v0 : Value) (k m : Int) (w : World) (hx : Rd w [v0] x) (h : held_Int64S x k m) (k0 : 0 ≤ k) (k1 : k ≤ m) (k2 : m ≤ 1000000000) :
    Calls Try.prog 30 #[v0, .int .i64 k] w fun e w' => e = .returned (.int .i64 m) ∧ Below w.heap.size w w' :=
  (heldInt64S_h x v0 k m w hx h k0 k2).mono fun e w' ⟨h1, h2⟩ => ⟨h1, by rw [← h2]; exact Below.refl _ _⟩
def held_Int64SS (l : List (List Int)) (k m : Int) : Prop := heldLists l k m
theorem markInt64SS_g (x : List (List Int)) (v0 : Value) (ps : List Nat) (k : Int) (w : World) (hx : Own ps w [v0] x) (hn : ps.Nodup) (k0 : 0 ≤ k) (k1 : k + mc_Int64SS x ≤ 1000000000) :
    Calls Try.prog 59 #[v0, .int .i64 k] w fun e w' => ∃ (y : List (List Int)) (m : Int), e = .returned (.int .i64 m) ∧ k ≤ m ∧ m ≤ k + mc_Int64SS x ∧ Own ps w' [v0] y ∧ held_Int64SS y k m ∧ But ps w w' :=
  (markInt64SS_h x v0 ps k w hx hn k0 k1).mono fun e w' ⟨y, m, h1, h2, h3, h4, h5, _, h6⟩ => ⟨y, m, h1, h2, h3, h4, h5, h6⟩
theorem heldInt64SS_g (x : List (List Int)) (v0 : Value) (k m : Int) (w : World) (hx : Rd w [v0] x) (h : held_Int64SS x k m) (k0 : 0 ≤ k) (k1 : k ≤ m) (k2 : m ≤ 1000000000) :
    Calls Try.prog 60 #[v0, .int .i64 k] w fun e w' => e = .returned (.int .i64 m) ∧ Below w.heap.size w w' :=
  (heldInt64SS_h x v0 k m w hx h k0 k2).mono fun e w' h => ⟨h.1, by first | exact h.2 | (rw [← h.2]; exact Below.refl _ _)⟩
set_option maxHeartbeats 400000 in
theorem markEquation_g (x : Eqn) (v0 v1 : Value) (ps : List Nat) (k : Int) (w : World) (hx : Own ps w [v0, v1] x) (hn : ps.Nodup) (k0 : 0 ≤ k) (k1 : k + mc_Equation x ≤ 1000000000) :
    Calls Try.prog 45 #[.agg #[v0, v1], .int .i64 k] w fun e w' => ∃ (y : Eqn) (m : Int), e = .returned (.int .i64 m) ∧ k ≤ m ∧ m ≤ k + mc_Equation x ∧ Own ps w' [v0, v1] y ∧ held_Equation y k m ∧ But ps w w' := by
  obtain ⟨x0, x1⟩ := x
  obtain ⟨p, q, rfl, h0, h1⟩ := own_cons rfl hx
  obtain ⟨rfl, rfl, hI⟩ := own_i1 h1
  obtain ⟨a, c, rfl, _⟩ := rd_list (Own.rd h0)
  have hs := (St.start w).alloc #[.slice a x0.length c, .int .i64 x1] 48 rfl
  have H := Lib.hid (Own.mono h0 hs.bel)
  have HI := Lib.hid hI
  clear hx h0 h1 hI hn
  go_enter Try.func45, Try.ntmps45
  go_wp2_with fail
  refine (markInt64S_h x0 _ p k _ H.out k0 k1).mono ?_
  rintro e w1 ⟨y, m, rfl, m0, m1, hO, hh, _, hb⟩
  have HH := Lib.hid hh
  clear hh
  go_wp2
  go_ret
  exact ⟨(y, x1), m, rfl, m0, m1, mk_own hO ⟨rfl, rfl, HI.out⟩, HH.out, ((but_of hs.bel).trans hb).mono (by simp)⟩
def mc_System (x : Sys) : Nat := (x.2.2.map mcEqn).sum
def held_System (x : Sys) (k m : Int) : Prop := heldEqns x.2.2 k m
theorem mc_cost_System (x : Sys) : mc_System x = cost_System x := by
  have : ∀ l : List Eqn, (l.map mcEqn).sum = l.length + (l.map cost_Equation).sum := by
    intro l
    induction l with
    | nil => rfl
    | cons e es ih =>
      simp only [List.map_cons, List.sum_cons, List.length_cons, ih, mcEqn, cost_Equation]; omega
  exact this _
set_option maxHeartbeats 400000 in
theorem markSystem_g (x : Sys) (v0 v1 v2 : Value) (ps : List Nat) (k : Int) (w : World) (hx : Own ps w [v0, v1, v2] x) (hn : ps.Nodup) (k0 : 0 ≤ k) (k1 : k + mc_System x ≤ 1000000000) :
    Calls Try.prog 28 #[.agg #[v0, v1, v2], .int .i64 k] w fun e w' => ∃ (y : Sys) (m : Int), e = .returned (.int .i64 m) ∧ k ≤ m ∧ m ≤ k + mc_System x ∧ Own ps w' [v0, v1, v2] y ∧ held_System y k m ∧ But ps w w' := by
  obtain ⟨x0, x1, x2⟩ := x
  obtain ⟨p, q, rfl, h0, h1⟩ := own_cons rfl hx
  obtain ⟨rfl, rfl, hI⟩ := own_i1 h0
  obtain ⟨p, q, rfl, h2, h3⟩ := own_cons rfl h1
  obtain ⟨rfl, rfl, hI1⟩ := own_i1 h2
  obtain ⟨a, c, rfl, _⟩ := rd_list (Own.rd h3)
  have hs := (St.start w).alloc #[.int .i64 x0, .int .i64 x1, .slice a x2.length c] 31 rfl
  have H := Lib.hid (Own.mono h3 hs.bel)
  have HI := Lib.hid hI
  have HI1 := Lib.hid hI1
  have HN := Lib.hid hn
  clear hx h0 h1 hI h2 h3 hI1 hn
  go_enter Try.func28, Try.ntmps28
  go_wp2_with fail
  refine (markEquationS_h x2 _ q k _ H.out (by simpa using HN.out) k0 k1).mono ?_
  rintro e w1 ⟨y, m, rfl, m0, m1, hO, hh, _, hb⟩
  have HH := Lib.hid hh
  clear hh
  go_wp2
  go_ret
  exact ⟨(x0, x1, y), m, rfl, m0, m1, mk_own (p := []) ⟨rfl, rfl, HI.out⟩ (mk_own (p := []) ⟨rfl, rfl, HI1.out⟩ hO), HH.out, ((but_of hs.bel).trans hb).mono (by simp)⟩
set_option maxHeartbeats 400000 in
theorem heldSystem_g (x : Sys) (v0 v1 v2 : Value) (k m : Int) (w : World) (hx : Rd w [v0, v1, v2] x) (h : held_System x k m) (k0 : 0 ≤ k) (k1 : k ≤ m) (k2 : m ≤ 1000000000) :
    Calls Try.prog 42 #[.agg #[v0, v1, v2], .int .i64 k] w fun e w' => e = .returned (.int .i64 m) ∧ Below w.heap.size w w' := by
  obtain ⟨x0, x1, x2⟩ := x
  have z := rd_cons rfl hx
  obtain ⟨rfl, _⟩ := rd_i1 z.1
  have z2 := rd_cons rfl z.2
  obtain ⟨rfl, _⟩ := rd_i1 z2.1
  have RL := Lib.hid z2.2
  obtain ⟨a, c, rfl, _⟩ := rd_list RL.out
  have hs := (St.start w).alloc #[.int .i64 x0, .int .i64 x1, .slice a x2.length c] 31 rfl
  have HH := Lib.hid (show heldEqns x2 k m from h)
  clear hx h z z2
  go_enter Try.func42, Try.ntmps42
  go_wp2_with fail
  refine (heldEquationS_h x2 _ k m _ (Rd.mono RL.out hs.bel) HH.out k0 k2).mono ?_
  rintro e w1 ⟨rfl, rfl⟩
  have hm : ¬ m < 0 := by omega
  go_wp2
  go_ret
  exact ⟨rfl, hs.bel⟩
def held_Rel (x : RelT) (k m : Int) : Prop := heldLists x.2 k m
set_option maxHeartbeats 400000 in
theorem markRel_g (x : RelT) (v0 v1 : Value) (ps : List Nat) (k : Int) (w : World) (hx : Own ps w [v0, v1] x) (hn : ps.Nodup) (k0 : 0 ≤ k) (k1 : k + mc_Rel x ≤ 1000000000) :
    Calls Try.prog 49 #[.agg #[v0, v1], .int .i64 k] w fun e w' => ∃ (y : RelT) (m : Int), e = .returned (.int .i64 m) ∧ k ≤ m ∧ m ≤ k + mc_Rel x ∧ Own ps w' [v0, v1] y ∧ held_Rel y k m ∧ But ps w w' := by
  obtain ⟨x0, x2⟩ := x
  obtain ⟨p, q, rfl, h0, h3⟩ := own_cons rfl hx
  obtain ⟨rfl, rfl, hI⟩ := own_i1 h0
  obtain ⟨a, c, rfl, _⟩ := rd_list (Own.rd h3)
  have hs := (St.start w).alloc #[.int .i64 x0, .slice a x2.length c] 58 rfl
  have H := Lib.hid (Own.mono h3 hs.bel)
  have HI := Lib.hid hI
  have HN := Lib.hid hn
  clear hx h0 hI h3 hn
  go_enter Try.func49, Try.ntmps49
  go_wp2_with fail
  refine (markInt64SS_h x2 _ q k _ H.out (by simpa using HN.out) k0 k1).mono ?_
  rintro e w1 ⟨y, m, rfl, m0, m1, hO, hh, _, hb⟩
  have HH := Lib.hid hh
  clear hh
  go_wp2
  go_ret
  exact ⟨(x0, y), m, rfl, m0, m1, mk_own (p := []) ⟨rfl, rfl, HI.out⟩ hO, HH.out, ((but_of hs.bel).trans hb).mono (by simp)⟩
set_option maxHeartbeats 400000 in
theorem heldRel_g (x : RelT) (v0 v1 : Value) (k m : Int) (w : World) (hx : Rd w [v0, v1] x) (h : held_Rel x k m) (k0 : 0 ≤ k) (k1 : k ≤ m) (k2 : m ≤ 1000000000) :
    Calls Try.prog 50 #[.agg #[v0, v1], .int .i64 k] w fun e w' => e = .returned (.int .i64 m) ∧ Below w.heap.size w w' := by
  obtain ⟨x0, x2⟩ := x
  have z := rd_cons rfl hx
  obtain ⟨rfl, _⟩ := rd_i1 z.1
  have RL := Lib.hid z.2
  obtain ⟨a, c, rfl, _⟩ := rd_list RL.out
  have hs := (St.start w).alloc #[.int .i64 x0, .slice a x2.length c] 58 rfl
  have HH := Lib.hid (show heldLists x2 k m from h)
  clear hx h z
  go_enter Try.func50, Try.ntmps50
  go_wp2_with fail
  refine (heldInt64SS_g x2 _ k m _ (Rd.mono RL.out hs.bel) HH.out k0 k1 k2).mono ?_
  rintro e w1 ⟨rfl, hb1⟩
  have hm : ¬ m < 0 := by omega
  go_wp2
  go_ret
  exact ⟨rfl, (hs.step hb1).bel⟩

end Go.Proofs.Ytkbeihkjhmillaa
