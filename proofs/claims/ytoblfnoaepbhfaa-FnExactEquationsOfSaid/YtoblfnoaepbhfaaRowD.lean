/-
  CONTRACTS: (row).isNone and (row).right of the program.
-/
import Derived.Test.YtoblfnoaepbhfaaRowC
import Derived.Test.YtoblfnoaepbhfaaElim
namespace Go.Proofs.Ytoblfnoaepbhfaa
open Go.RowKit Go.Shelf
open Rep (Rd Own sz)
set_option linter.unusedSimpArgs false
set_option linter.unusedVariables false

theorem rdSl_take {α : Type} [Rep α] {w : World} {a : Option Addr} {c : Nat} {l : List α} (h : RdSl w a c l) (n : Nat) : RdSl w a c (l.take n) := by
  refine ⟨by simp; have := h.1; omega, h.2.1, fun i hi => ?_⟩
  have hi' : i < l.length := by simp at hi; omega
  obtain ⟨b, o, vs, e, hr, hc⟩ := h.2.2 i hi'
  exact ⟨b, o, vs, e, by simpa using hr, hc⟩
theorem all_of_any0 (l : List Int) : (!l.any fun a => a != 0) = l.all (fun a => a == 0) := by
  induction l with
  | nil => rfl
  | cons x xs ih => rw [List.any_cons, List.all_cons, Bool.not_or, ih]; congr 1; simp [bne]
set_option maxHeartbeats 400000 in
theorem isNone1_by (w : World) (l : List Int) : PredI 157 #[] w l (fun a => a != 0) := by
  intro W x u0 hb hr _
  obtain ⟨rfl, _⟩ := rd_i1 hr
  show Calls Try.prog 157 #[_] W _
  go_enter Try.func157, Try.ntmps157
  go_wp2_with fail
  go_ret
  exact ⟨rfl, Below.refl _ _⟩
set_option maxRecDepth 100000 in
set_option maxHeartbeats 1000000 in
theorem isNone_c (x : RowT) (v0 v1 : Value) (w : World) (hx : Rd w [v0, v1] x) (h0 : 0 < x.1.length) (h1 : x.1.length ≤ 1000000) :
    Calls Try.prog 140 #[.agg #[v0, v1]] w fun e w' => e = .returned (.bool (noneR x.1)) ∧ Below w.heap.size w w' := by
  obtain ⟨l, by_⟩ := x
  have z := rd_cons rfl hx
  obtain ⟨a, c, rfl, hr⟩ := rd_list z.1
  obtain ⟨a', c', rfl, _⟩ := rd_list z.2
  have hlc : l.length ≤ c := hr.1
  have hcm := hr.2.1
  unfold maxLen at hcm
  have HR := Lib.hid hr
  clear hx z hr
  simp only at h0 h1
  have eg : ∀ args w, (callFunc 157 args).run Try.prog w = .ok (.enter 157 args) w := enters_of Try.func157 (by kernel_rfl) rfl
  have hs := (St.start w).alloc #[.slice a l.length c, .slice a' by_.length c'] 160 rfl
  obtain ⟨n, hn⟩ : ∃ n, l.length = n + 1 := ⟨l.length - 1, by omega⟩
  rw [hn] at hs
  obtain ⟨b, o, vs, ea, _⟩ := HR.out.2.2 0 h0
  subst ea
  have hRT : Rd w [.slice (some ⟨b, o, none⟩) n c] (l.take n) := ⟨_, c, by simp [hn], rdSl_take HR.out n⟩
  have RT := Lib.hid hRT
  clear hRT
  go_enter Try.func140, Try.ntmps140
  go_wp2_with fail
  refine (containsInts_c (l.take n) _ 157 _ _ _ (Rd.mono RT.out hs.bel) eg (isNone1_by _ _)).mono ?_
  rintro e w1 ⟨rfl, hb1⟩
  go_wp2_with fail
  go_ret
  refine ⟨ret_bool ?_, (hs.step hb1).bel⟩
  unfold noneR
  rw [show l.length - 1 = n by omega, ← all_of_any0]
set_option maxRecDepth 100000 in
set_option maxHeartbeats 1000000 in
theorem right_c (x : RowT) (v0 v1 : Value) (w : World) (hx : Rd w [v0, v1] x) (h0 : 0 < x.1.length) (h1 : x.1.length ≤ 1000000) :
    Calls Try.prog 101 #[.agg #[v0, v1]] w fun e w' => e = .returned (.int .i64 (rightR x.1)) ∧ Below w.heap.size w w' := by
  obtain ⟨l, by_⟩ := x
  have z := rd_cons rfl hx
  obtain ⟨a, c, rfl, hr⟩ := rd_list z.1
  obtain ⟨a', c', rfl, _⟩ := rd_list z.2
  have HR := Lib.hid hr
  clear hx z hr
  simp only at h0 h1
  have hs := (St.start w).alloc #[.slice a l.length c, .slice a' by_.length c'] 160 rfl
  obtain ⟨n, hn⟩ : ∃ n, l.length = n + 1 := ⟨l.length - 1, by omega⟩
  rw [hn] at hs
  obtain ⟨b, o, rfl, hc, _⟩ := rdSl_int HR.out n (show n < l.length by omega)
  have hc2 := cellL (belowA w (.cells #[.slice (some ⟨b, o, none⟩) (n + 1) c, .slice a' by_.length c'] 160)) hc
  have k0 := hs.cellAt 0 rfl 0 rfl
  go_enter Try.func101, Try.ntmps101
  go_wp2_with fail
  first
    | (go_quiet (fail); go_wp2_with fail; go_ret; exact ⟨ret_int (by simp [rightR, hn]), hs.bel.trans ((drewN_below _ _).mono hs.bel.size)⟩)
    | (go_ret; exact ⟨ret_int (by simp [rightR, hn]), hs.bel⟩)

end Go.Proofs.Ytoblfnoaepbhfaa
