/-
  SEVERAL TEXTS IN ONE.
-/
import Derived.Test.YtllenfkbfeanmaaGreatTmplBFa
import Derived.Test.YtllenfkbfeanmaaGreatArcMBFa
import Derived.Test.YtllenfkbfeanmaaGreatKeepBFa
import Derived.Test.YtllenfkbfeanmaaGreatRowBFa
import Derived.Test.YtllenfkbfeanmaaGreatChosenFa
import Derived.Laws.CopyOwn

/-
  CONTRACTS: whether a relation has a tuple; both sides.
-/
namespace Go.Proofs.YtllenfkbfeanmaaGreat
open Go.RowKit Go.Shelf Go.IntWalk
open Rep (Rd Own sz)
set_option linter.unusedSimpArgs false
set_option linter.unusedVariables false

theorem has1_c (l m : List Int) (v0 v1 : Value) (w : World) (r0 : Rd w [v0] l) (r1 : Rd w [v1] m) :
    Calls Tryz.prog 115 #[v0, v1] w fun e w' => e = .returned (.int .i64 (cmpL l m)) ∧ w = w' := by
  obtain ⟨a, c, rfl, h0⟩ := rd_list r0
  obtain ⟨a', c', rfl, h1⟩ := rd_list r1
  have HR := Lib.hid r0
  have HM := Lib.hid r1
  clear r0 r1 h0 h1
  go_enter Tryz.func115, Tryz.ntmps115
  go_wp2_with fail
  refine (compare_c l m _ _ _ HR.out HM.out).mono ?_
  rintro e w1 ⟨rfl, rfl⟩
  go_wp2_with fail
  go_ret
  exact ⟨rfl, rfl⟩
set_option maxRecDepth 100000 in
set_option maxHeartbeats 2000000 in
theorem bsearch_c (x : List (List Int)) (t : List Int) (v0 v1 : Value) (w : World) (r0 : Rd w [v0] x) (r1 : Rd w [v1] t) (hi : Inc x) (hl : x.length ≤ 1000000) :
    Calls Tryz.prog 114 #[v0, v1, .func (.func 115) #[] #[]] w fun e w' => ∃ k : Int, e = .returned (.tuple #[.int .i64 k, .bool (hasT x t)]) ∧ w = w' := by
  obtain ⟨a, c, rfl, h0⟩ := rd_list r0
  obtain ⟨a', c', rfl, h1⟩ := rd_list r1
  have HR := Lib.hid h0
  have HM := Lib.hid r1
  have HI := Lib.hid hi
  clear r0 r1 h0 h1 hi
  have eg : ∀ args w, (callFunc 115 args).run Tryz.prog w = .ok (.enter 115 args) w := enters_of Tryz.func115 (by kernel_rfl) rfl
  go_enter Tryz.func114, Tryz.ntmps114
  go_wp2_with fail
  go_loop [9, 10] (fun i j => ∃ (p q : Nat), p ≤ q ∧ q ≤ x.length ∧ i = .int .i64 p ∧ j = .int .i64 q ∧ Hid (∀ k, k < p → cmpL (x.getD k []) t < 0) ∧ Hid (∀ k, q ≤ k → k < x.length → 0 ≤ cmpL (x.getD k []) t)) (fun i j => (intOf j).toNat - (intOf i).toNat)
  case atStart => exact ⟨0, x.length, Nat.zero_le _, Nat.le_refl _, rfl, rfl, fun k hk => absurd hk (Nat.not_lt_zero _), fun k h1 h2 => absurd h2 (by omega)⟩
  case round =>
    obtain ⟨p, q, hpq, hq, rfl, rfl, hlo, hhi⟩ := hrel
    by_cases hlt : p < q
    · have hh : (p + q) / 2 < q := by omega
      have hh2 : p ≤ (p + q) / 2 := by omega
      generalize hmid : (p + q) / 2 = h at *
      have hhl : h < x.length := by omega
      obtain ⟨b, o, u0, rfl, q0, hx⟩ := rdSl_one rfl HR.out h hhl
      have HX := Lib.hid hx
      obtain ⟨a0, c0, rfl, _⟩ := rd_list hx
      clear hx
      go_wp2_with fail
      refine (has1_c x[h] t _ _ _ HX.out HM.out).mono ?_
      rintro e w1 ⟨rfl, rfl⟩
      have eh : x.getD h [] = x[h] := by simp [List.getD, hhl]
      by_cases hc : cmpL x[h] t < 0
      · have HLO := Lib.hid (search_lo HI.out hhl (by rw [eh]; exact hc))
        clear eh
        generalize cmpL x[h] t = C at *
        go_wp2_with fail
        go_round
        case rel => exact ⟨h + 1, q, by omega, hq, by congr 1; omega, rfl, HLO.out, hhi.out⟩
        case measure => simp [intOf]; omega
      · have HHI := Lib.hid (search_hi HI.out (by rw [eh]; exact hc))
        have hc0 : 0 ≤ cmpL x[h] t := by omega
        clear eh
        generalize cmpL x[h] t = C at *
        go_wp2_with fail
        go_round
        case rel => exact ⟨p, h, hh2, by omega, rfl, by congr 1; omega, hlo.out, HHI.out⟩
        case measure => simp [intOf]; omega
    · obtain rfl : p = q := by omega
      have HS := Lib.hid (search_end HI.out hq hlo.out hhi.out)
      by_cases hp : p < x.length
      · obtain ⟨b, o, u0, rfl, q0, hx⟩ := rdSl_one rfl HR.out p hp
        have HX := Lib.hid hx
        obtain ⟨a0, c0, rfl, _⟩ := rd_list hx
        clear hx
        go_wp2_with fail
        refine (has1_c x[p] t _ _ _ HX.out HM.out).mono ?_
        rintro e w1 ⟨rfl, rfl⟩
        have HS2 := Lib.hid (show hasT x t = (cmpL x[p] t == 0) by
          rw [HS.out, decide_eq_true hp, show x.getD p [] = x[p] by simp [List.getD, hp], Bool.true_and]
          by_cases h : cmpL x[p] t = 0 <;> simp [h])
        generalize cmpL x[p] t = C at *
        go_wp2_with fail
        refine bodyPost_ret (v := .tuple #[.int .i64 p, .bool (C == 0)]) (by simp [results, Tryz.results114, go_sem]) rfl (by first | exact ⟨_, by rw [HS2.out], rfl⟩ | exact ⟨⟨_, by rw [HS2.out]⟩, rfl⟩)
      · obtain rfl : p = x.length := by omega
        have HS2 := Lib.hid (show hasT x t = false by rw [HS.out, decide_eq_false hp]; rfl)
        go_wp2_with fail
        refine bodyPost_ret (v := .tuple #[.int .i64 x.length, .bool false]) (by simp [results, Tryz.results114, go_sem]) rfl (by first | exact ⟨_, by rw [HS2.out], rfl⟩ | exact ⟨⟨_, by rw [HS2.out]⟩, rfl⟩)
set_option maxRecDepth 100000 in
set_option maxHeartbeats 2000000 in
theorem has_c (r : RelT) (t : List Int) (v0 v1 va : Value) (w : World) (hr : Rd w [v0, v1] r) (ht : Rd w [va] t) (hi : Inc r.2) (hl : r.2.length ≤ 1000000) :
    Calls Tryz.prog 55 #[.agg #[v0, v1], va] w fun e w' => e = .returned (.bool (hasT r.2 t)) ∧ Below w.heap.size w w' := by
  obtain ⟨ar, l⟩ := r
  have z := rd_cons rfl hr
  obtain ⟨rfl, _⟩ := rd_i1 z.1
  have HL := Lib.hid z.2
  obtain ⟨a, c, rfl, _⟩ := rd_list z.2
  have HT := Lib.hid ht
  obtain ⟨a2, c2, rfl, _⟩ := rd_list ht
  have HI := Lib.hid hi
  simp only at hl
  clear hr z ht hi
  have hs1 := (St.start w).alloc #[.int .i64 ar, .slice a l.length c] 50 (n := w.heap.size) (by simp)
  have k0_0 := hs1.cellAt 0 rfl 0 rfl
  have k0_1 := hs1.cellAt 0 rfl 1 rfl
  go_enter Tryz.func55, Tryz.ntmps55
  go_wp2_with fail
  refine (bsearch_c l t _ _ _ (Rd.mono HL.out hs1.bel) (Rd.mono HT.out hs1.bel) HI.out hl).mono ?_
  rintro e w1 ⟨k, rfl, rfl⟩
  generalize hH : hasT l t = H at *
  have HH := Lib.hid hH
  clear hH
  go_wp2_with fail
  go_ret
  exact ⟨ret_bool HH.out.symm, hs1.bel⟩
set_option maxRecDepth 100000 in
set_option maxHeartbeats 2000000 in
theorem l01Has_c (r : RelT) (t : List Int) (pb po : Nat) (v1 va : Value) (w : World) (hr : Rd w [v1] r.2) (hc : w.cell? ⟨pb, po + 1, none⟩ = some v1) (ht : Rd w [va] t) :
    Calls Tryz.prog 180 #[.pointer (some ⟨pb, po, none⟩), va] w fun e w' => e = .returned (.bool (hasT r.2 t)) ∧ Below w.heap.size w w' := by
  obtain ⟨ar, l⟩ := r
  simp only at hr ⊢
  obtain ⟨a, c, rfl, h0⟩ := rd_list hr
  have hb0 := (rdSl_len h0).2
  unfold maxLen at hb0
  have HR := Lib.hid h0
  have HT := Lib.hid ht
  obtain ⟨a2, c2, rfl, _⟩ := rd_list ht
  clear hr h0 ht
  have hc_ := cellL (St.start w).bel hc
  go_enter Tryz.func180, Tryz.ntmps180
  go_wp2_with fail
  go_loopw [5] (fun i wl => ∃ k : Nat, k ≤ l.length ∧ i = .int .i64 k ∧ Hid (Below w.heap.size w wl) ∧ Hid (∀ j (hj : j < l.length), j < k → l[j] ≠ t)) (fun i _ => l.length - (intOf i).toNat)
  case atStart => exact ⟨0, Nat.zero_le _, rfl, Below.refl _ _, fun j _ hj => absurd hj (Nat.not_lt_zero _)⟩
  case round =>
    obtain ⟨k, hk, rfl, hbl, hn⟩ := hrel
    have hsr := (St.start w).step hbl.out
    have hc_ := cellL hsr.bel hc
    clear hbl
    by_cases hlt : k < l.length
    · obtain ⟨b, o, u0, rfl, q0, hx⟩ := rdSl_one rfl HR.out k hlt
      have HX := Lib.hid hx
      obtain ⟨a0, c0, rfl, _⟩ := rd_list hx
      clear hx
      clear hc_
      have hc_ := cellL hsr.bel hc
      have q0_ := cellL hsr.bel q0
      clear hc_ q0_
      have hc_ := cellL hsr.bel hc
      have q0_ := cellL hsr.bel q0
      go_wp2_with fail
      refine (l00Same_c l[k] t _ _ _ (Rd.mono HX.out hsr.bel) (Rd.mono HT.out hsr.bel)).mono ?_
      rintro e w1 ⟨rfl, n1, rfl⟩
      by_cases he : l[k] = t
      · rw [decide_eq_true he]
        have HQ := Lib.hid (show hasT l t = true by unfold hasT; rw [List.contains_iff_mem, ← he]; exact List.getElem_mem hlt)
        clear he
        go_wp2_with fail
        go_ret
        exact ⟨ret_bool HQ.out.symm, hsr.bel.trans ((drewN_below _ _).mono hsr.bel.size)⟩
      · rw [decide_eq_false he]
        have HQ := Lib.hid he
        clear he
        go_wp2_with fail
        go_roundw
        case rel =>
          refine ⟨k + 1, by omega, by go_num, hsr.bel.trans ((drewN_below _ _).mono hsr.bel.size), fun j hj hjk => ?_⟩
          rcases Nat.lt_or_ge j k with h | h
          · exact hn.out j hj h
          · obtain rfl : j = k := by omega
            exact HQ.out
        case measure => simp [intOf]; omega
    · obtain rfl : k = l.length := by omega
      have HQ := Lib.hid (show hasT l t = false by
        unfold hasT
        rw [← Bool.not_eq_true, List.contains_iff_mem]
        intro hm
        obtain ⟨j, hj, e⟩ := List.getElem_of_mem hm
        exact hn.out j hj hj e)
      go_wp2_with fail
      go_ret
      exact ⟨ret_bool HQ.out.symm, hsr.bel⟩

end Go.Proofs.YtllenfkbfeanmaaGreat

/-
  CONTRACTS: values at places; the first constraint that fails; the first relation that an operation breaks. Both sides.
-/
namespace Go.Proofs.YtllenfkbfeanmaaGreat
open Go.RowKit Go.Shelf Go.IntWalk
open Rep (Rd Own sz)
set_option linter.unusedSimpArgs false
set_option linter.unusedVariables false

/-- What a right instance says of a constraint, its relation too. -/
structure ConF (t : Tmpl) (vars : Int) (c : OpT) (n : Nat) : Prop where
  rel : c.1 = (n : Int)
  lt : n < t.2.length
  inc : Inc (t.2.getD n (0, [])).2
  cnt : (t.2.getD n (0, [])).2.length ≤ 256
  sc : ∀ v, v ∈ c.2 → 0 ≤ v ∧ v < vars
  four : c.2.length ≤ 4
end Go.Proofs.YtllenfkbfeanmaaGreat

/-
  CONTRACT: slices.Repeat of one number.
-/
namespace Go.Proofs.YtllenfkbfeanmaaGreat
open Go.RowKit Go.Shelf Go.IntWalk
open Rep (Rd Own sz)
set_option linter.unusedSimpArgs false
set_option linter.unusedVariables false

/-- The row holds a's up to k. -/
structure RepR (g n k : Nat) (a : Int) (w : World) : Prop where
  get : ∃ (cur : Array Value) (e : TypeId), w.heap[g]? = some (.cells cur e (0, 0)) ∧ n ≤ cur.size ∧ ∀ i, i < k → cur[i]? = some (.int .i64 a)
theorem RepR.mono {g n k : Nat} {a : Int} {w w' : World} (h : RepR g n k a w) (hb : Below w.heap.size w w') : RepR g n k a w' := by
  obtain ⟨cur, e, h1, h2⟩ := h.get
  exact ⟨cur, e, by rw [hb.block g (Array.getElem?_eq_some_iff.1 h1).1]; exact h1, h2⟩
theorem RepR.fresh {g n c : Nat} {a : Int} {w : World} (h : RepR g n n a w) (hI : I64 a) (hn : n ≤ c) (hc : c ≤ maxLen) {lo : Nat} (hg : lo ≤ g) : Fresh lo w [.slice (some ⟨g, 0, none⟩) n c] (List.replicate n a) := by
  obtain ⟨cur, e, h1, h2, h3⟩ := h.get
  refine ⟨[g], ⟨_, rfl, .inr ⟨g, 0, c, cur, e, List.replicate n [], by simp, by simpa using hn, hc, h1, by simp, by simp, fun i hi => ?_⟩⟩, by simp, fun k hk => by simp at hk; omega⟩
  have hin : i < n := by simpa using hi
  refine ⟨[], [.int .i64 a], by simp [hin], ⟨rfl, by simp, by simpa using hI⟩, fun k hk => ?_⟩
  obtain rfl : k = 0 := by simp at hk; omega
  simpa [sz] using h3 i hin
end Go.Proofs.YtllenfkbfeanmaaGreat

/-
  CONTRACTS: SolveByConstant, both sides. (Printed by wip/gensolve.py.)
-/
namespace Go.Proofs.YtllenfkbfeanmaaGreat
open Go.RowKit Go.Shelf Go.IntWalk
open Rep (Rd Own sz)
set_option linter.unusedSimpArgs false
set_option linter.unusedVariables false

end Go.Proofs.YtllenfkbfeanmaaGreat

/-
  CONTRACTS: SolveByConstant, the reference's side. (Printed by wip/gensolve.py.)
-/
namespace Go.Proofs.YtllenfkbfeanmaaGreat
open Go.RowKit Go.Shelf Go.IntWalk
open Rep (Rd Own sz)
set_option linter.unusedSimpArgs false
set_option linter.unusedVariables false

end Go.Proofs.YtllenfkbfeanmaaGreat

