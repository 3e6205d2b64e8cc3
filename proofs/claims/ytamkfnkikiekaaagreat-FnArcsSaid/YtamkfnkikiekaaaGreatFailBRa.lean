/-
  SEVERAL TEXTS IN ONE.
-/
import Derived.Test.YtamkfnkikiekaaaGreatTmplBRa
import Derived.Test.YtamkfnkikiekaaaGreatArcMBRa
import Derived.Test.YtamkfnkikiekaaaGreatKeepBRa
import Derived.Test.YtamkfnkikiekaaaGreatRowBRa
import Derived.Test.YtamkfnkikiekaaaGreatChosenRa
import Derived.Laws.CopyOwn

/-
  CONTRACTS: whether a relation has a tuple; both sides.
-/
namespace Go.Proofs.YtamkfnkikiekaaaGreat
open Go.RowKit Go.Shelf Go.IntWalk
open Rep (Rd Own sz)
set_option linter.unusedSimpArgs false
set_option linter.unusedVariables false

set_option maxRecDepth 100000 in
set_option maxHeartbeats 2000000 in
theorem l01Has_c (r : RelT) (t : List Int) (pb po : Nat) (v1 va : Value) (w : World) (hr : Rd w [v1] r.2) (hc : w.cell? ⟨pb, po + 1, none⟩ = some v1) (ht : Rd w [va] t) :
    Calls Tryz.prog 120 #[.pointer (some ⟨pb, po, none⟩), va] w fun e w' => e = .returned (.bool (hasT r.2 t)) ∧ Below w.heap.size w w' := by
  obtain ⟨ar, l⟩ := r
  simp only at hr ⊢
  obtain ⟨a, c, rfl, h0⟩ := rd_list hr
  have hb0 := (rdSl_len h0).2
  unfold maxLen at hb0
  have HR := Lib.hid h0
  have HT := Lib.hid ht
  obtain ⟨a2, c2, rfl, _⟩ := rd_list ht
  clear hr h0 ht
  have hc_ := cellL (St.start w).bel hc
  go_enter Tryz.func120, Tryz.ntmps120
  go_wp2_with fail
  go_loopw [5] (fun i wl => ∃ k : Nat, k ≤ l.length ∧ i = .int .i64 k ∧ Hid (Below w.heap.size w wl) ∧ Hid (∀ j (hj : j < l.length), j < k → l[j] ≠ t)) (fun i _ => l.length - (intOf i).toNat)
  case atStart => exact ⟨0, Nat.zero_le _, rfl, Below.refl _ _, fun j _ hj => absurd hj (Nat.not_lt_zero _)⟩
  case round =>
    obtain ⟨k, hk, rfl, hbl, hn⟩ := hrel
    have hsr := (St.start w).step hbl.out
    have hc_ := cellL hsr.bel hc
    clear hbl
    by_cases hlt : k < l.length
    · obtain ⟨b, o, u0, rfl, q0, hx⟩ := rdSl_one rfl HR.out k hlt
      have HX := Lib.hid hx
      obtain ⟨a0, c0, rfl, _⟩ := rd_list hx
      clear hx
      clear hc_
      have hc_ := cellL hsr.bel hc
      have q0_ := cellL hsr.bel q0
      clear hc_ q0_
      have hc_ := cellL hsr.bel hc
      have q0_ := cellL hsr.bel q0
      go_wp2_with fail
      refine (l00Same_c l[k] t _ _ _ (Rd.mono HX.out hsr.bel) (Rd.mono HT.out hsr.bel)).mono ?_
      rintro e w1 ⟨rfl, n1, rfl⟩
      by_cases he : l[k] = t
      · rw [decide_eq_true he]
        have HQ := Lib.hid (show hasT l t = true by unfold hasT; rw [List.contains_iff_mem, ← he]; exact List.getElem_mem hlt)
        clear he
        go_wp2_with fail
        go_ret
        exact ⟨ret_bool HQ.out.symm, hsr.bel.trans ((drewN_below _ _).mono hsr.bel.size)⟩
      · rw [decide_eq_false he]
        have HQ := Lib.hid he
        clear he
        go_wp2_with fail
        go_roundw
        case rel =>
          refine ⟨k + 1, by omega, by go_num, hsr.bel.trans ((drewN_below _ _).mono hsr.bel.size), fun j hj hjk => ?_⟩
          rcases Nat.lt_or_ge j k with h | h
          · exact hn.out j hj h
          · obtain rfl : j = k := by omega
            exact HQ.out
        case measure => simp [intOf]; omega
    · obtain rfl : k = l.length := by omega
      have HQ := Lib.hid (show hasT l t = false by
        unfold hasT
        rw [← Bool.not_eq_true, List.contains_iff_mem]
        intro hm
        obtain ⟨j, hj, e⟩ := List.getElem_of_mem hm
        exact hn.out j hj hj e)
      go_wp2_with fail
      go_ret
      exact ⟨ret_bool HQ.out.symm, hsr.bel⟩

end Go.Proofs.YtamkfnkikiekaaaGreat

/-
  CONTRACTS: values at places; the first constraint that fails; the first relation that an operation breaks. Both sides.
-/
namespace Go.Proofs.YtamkfnkikiekaaaGreat
open Go.RowKit Go.Shelf Go.IntWalk
open Rep (Rd Own sz)
set_option linter.unusedSimpArgs false
set_option linter.unusedVariables false

/-- What a right instance says of a constraint, its relation too. -/
structure ConF (t : Tmpl) (vars : Int) (c : OpT) (n : Nat) : Prop where
  rel : c.1 = (n : Int)
  lt : n < t.2.length
  inc : Inc (t.2.getD n (0, [])).2
  cnt : (t.2.getD n (0, [])).2.length ≤ 256
  sc : ∀ v, v ∈ c.2 → 0 ≤ v ∧ v < vars
  four : c.2.length ≤ 4
theorem conF_of {t : Tmpl} {x : Inst} (h : instOk t x = true) {c : OpT} (hc : c ∈ x.2) : ∃ n, ConF t x.1 c n := by
  obtain ⟨k, hk, rfl⟩ := List.getElem_of_mem hc
  obtain ⟨n, h1, h2, _, h4, h5⟩ := con_facts h hk
  have hr := (tmplOk_get (instOk_get h).1).2.2 _ (List.getElem_mem h2)
  have hg : t.2.getD n (0, []) = t.2[n] := by rw [List.getD, List.getElem?_eq_getElem h2]; rfl
  exact ⟨n, h1, h2, by rw [hg]; exact relOk_inc hr, by rw [hg]; exact (relOk_count hr).2, h4, h5⟩
def holdsC (t : Tmpl) (vals : List Int) (c : OpT) : Bool := hasT (t.2.getD c.1.toNat (0, [])).2 (chosenL vals c.2)
set_option maxRecDepth 100000 in
set_option maxHeartbeats 2000000 in
theorem l05Holds_c (rs : List RelT) (vals : List Int) (n : Nat) (sc : List Int) (tb cb co : Nat) (vr vs vv : Value) (w : World) (hr : Rd w [vr] rs) (hs : Rd w [vs] sc) (hv : Rd w [vv] vals)
    (tc : w.cell? ⟨tb, 1, none⟩ = some vr) (p0 : w.cell? ⟨cb, co, none⟩ = some (.int .i64 n)) (p1 : w.cell? ⟨cb, co + 1, none⟩ = some vs) (hn : n < rs.length) (h4 : sc.length ≤ 4) (hi : ∀ v, v ∈ sc → 0 ≤ v ∧ v < vals.length) :
    Calls Tryz.prog 111 #[.pointer (some ⟨tb, 0, none⟩), .pointer (some ⟨cb, co, none⟩), vv] w fun e w' => e = .returned (.bool (hasT (rs.getD n (0, [])).2 (chosenL vals sc))) ∧ Below w.heap.size w w' := by
  have HSC := Lib.hid hs
  have HV := Lib.hid hv
  obtain ⟨a2, c2, rfl, _⟩ := rd_list hs
  obtain ⟨av, cv, rfl, _⟩ := rd_list hv
  obtain ⟨a, cc, rfl, hrr⟩ := rd_list hr
  obtain ⟨b, o, r0, r1, rfl, q0, q1, hy⟩ := rdSl_two rfl hrr n hn
  rw [show rs.getD n (0, []) = rs[n] by rw [List.getD, List.getElem?_eq_getElem hn]; rfl]
  have hy0 := rd_cons rfl hy
  obtain ⟨rfl, _⟩ := rd_i1 hy0.1
  have HY := Lib.hid hy0.2
  obtain ⟨a3, c3, rfl, _⟩ := rd_list hy0.2
  have HI := Lib.hid hi
  have hnI : (n : Int) < rs.length := by omega
  clear hr hs hv hrr hy hy0 hi
  generalize rs[n] = RN at *
  obtain ⟨ra, rt⟩ := RN
  simp only at q0 q1 HY
  have tc_ := cellL (St.start w).bel tc
  clear tc_
  have tc_ := cellL (St.start w).bel tc
  have p0_ := cellL (St.start w).bel p0
  clear tc_ p0_
  have tc_ := cellL (St.start w).bel tc
  have p0_ := cellL (St.start w).bel p0
  have p1_ := cellL (St.start w).bel p1
  clear tc_ p0_ p1_
  have tc_ := cellL (St.start w).bel tc
  have p0_ := cellL (St.start w).bel p0
  have p1_ := cellL (St.start w).bel p1
  have q0_ := cellL (St.start w).bel q0
  clear tc_ p0_ p1_ q0_
  have tc_ := cellL (St.start w).bel tc
  have p0_ := cellL (St.start w).bel p0
  have p1_ := cellL (St.start w).bel p1
  have q0_ := cellL (St.start w).bel q0
  have q1_ := cellL (St.start w).bel q1
  go_enter Tryz.func111, Tryz.ntmps111
  go_upto_region 1 with fail
  refine wp_region_noPanic (wp_region_tree4 (fun w' => w'.cell? ⟨tb, 1, none⟩ = some (.slice (some ⟨b, o, none⟩) rs.length cc) ∧ w'.cell? ⟨cb, co, none⟩ = some (.int .i64 n) ∧ w'.cell? ⟨cb, co + 1, none⟩ = some (.slice a2 sc.length c2) ∧ w'.cell? ⟨b, o + n * 2, none⟩ = some (.int .i64 ra) ∧ w'.cell? ⟨b, o + n * 2 + 1, none⟩ = some (.slice a3 rt.length c3)) (.float 0 (.float 1 (.float 2 (.float 3 (.float 4 (.float 5 (.float 6 (.float 7 (.float 8 (.float 9 (.float 10 (.float 11 (.float 12 (.float 13 (.hard 14 (.hard 15 (.float 16 .nil))))))))))))))))) (by kernel_rfl) (by kernel_rfl) (by kernel_rfl) rfl ?_ (fun _ _ _ _ _ h => h) ?_)
  · exact ⟨cellL ((St.start w).drew).bel tc, cellL ((St.start w).drew).bel p0, cellL ((St.start w).drew).bel p1, cellL ((St.start w).drew).bel q0, cellL ((St.start w).drew).bel q1⟩
  have hs1 := (St.start w).drew
  clear tc_ p0_ p1_ q0_ q1_
  have hz_wd2 : w.heap.size ≤ (w.drew).heap.size := by simp
  generalize hgen_wd2 : w.drew = wd2 at *
  have HG_wd2 := Lib.hid hgen_wd2
  clear hgen_wd2
  (repeat (first | (apply t4_skip rfl (by rfl); try simp only [Act.put, List.setIfInBounds_toArray, List.set_cons_zero, List.set_cons_succ]) | (apply t4_float rfl (by rfl); (· (intro w' hS; go_simp <;> with_reducible rfl)); (try simp only [Act.put, List.setIfInBounds_toArray, List.set_cons_zero, List.set_cons_succ]))))
  refine t4_hard rfl (by rfl) (fun K hK => ?_)
  go_wp2_with (go_at_call 121; refine (l01At_c vals sc _ _ _ (Rd.mono HV.out hs1.bel) (Rd.mono HSC.out hs1.bel) (by omega) HI.out).mono ?_; rintro e w3 ⟨v9, rfl, fr9, hbw3⟩)
  have hz_w3 : wd2.heap.size ≤ w3.heap.size := by have h9 := hbw3.size; (try simp at h9); omega
  have hs4 := hs1.step hbw3
  obtain ⟨a9, c9, rfl, _⟩ := rd_list fr9.rd
  have HC9 := Lib.hid fr9
  clear fr9
  refine ⟨⟨cellL hs4.bel tc, cellL hs4.bel p0, cellL hs4.bel p1, cellL hs4.bel q0, cellL hs4.bel q1⟩, ?_⟩
  (repeat (first | (apply t4_skip rfl (by rfl); try simp only [Act.put, List.setIfInBounds_toArray, List.set_cons_zero, List.set_cons_succ]) | (apply t4_float rfl (by rfl); (· (intro w' hS; go_simp <;> with_reducible rfl)); (try simp only [Act.put, List.setIfInBounds_toArray, List.set_cons_zero, List.set_cons_succ]))))
  refine t4_hard rfl (by rfl) (fun K hK => ?_)
  go_wp2_with (go_at_call 120; refine (l01Has_c (ra, rt) (chosenL vals sc) b (o + n * 2) _ _ _ (Rd.mono HY.out hs4.bel) (cellL hs4.bel q1) (Fresh.rd HC9.out)).mono ?_; rintro e w5 ⟨rfl, hbw5⟩)
  have hz_w5 : w3.heap.size ≤ w5.heap.size := by have h9 := hbw5.size; (try simp at h9); omega
  have hs6 := hs4.step hbw5
  have HC9_7 := Lib.hid (Fresh.mono HC9.out hbw5)
  clear HC9
  refine ⟨⟨cellL hs6.bel tc, cellL hs6.bel p0, cellL hs6.bel p1, cellL hs6.bel q0, cellL hs6.bel q1⟩, ?_⟩
  (repeat (first | (apply t4_skip rfl (by rfl); try simp only [Act.put, List.setIfInBounds_toArray, List.set_cons_zero, List.set_cons_succ]) | (apply t4_float rfl (by rfl); (· (intro w' hS; go_simp <;> with_reducible rfl)); (try simp only [Act.put, List.setIfInBounds_toArray, List.set_cons_zero, List.set_cons_succ]))))
  have tc_ := cellL hs6.bel tc
  have p0_ := cellL hs6.bel p0
  have p1_ := cellL hs6.bel p1
  have q0_ := cellL hs6.bel q0
  have q1_ := cellL hs6.bel q1
  refine t4_nil (NoPanic.normal ?_)
  go_wp2_with fail
  go_ret
  exact ⟨rfl, hs6.bel⟩

end Go.Proofs.YtamkfnkikiekaaaGreat

/-
  CONTRACT: slices.Repeat of one number.
-/
namespace Go.Proofs.YtamkfnkikiekaaaGreat
open Go.RowKit Go.Shelf Go.IntWalk
open Rep (Rd Own sz)
set_option linter.unusedSimpArgs false
set_option linter.unusedVariables false


end Go.Proofs.YtamkfnkikiekaaaGreat

/-
  CONTRACTS: SolveByConstant, both sides. (Printed by wip/gensolve.py.)
-/
namespace Go.Proofs.YtamkfnkikiekaaaGreat
open Go.RowKit Go.Shelf Go.IntWalk
open Rep (Rd Own sz)
set_option linter.unusedSimpArgs false
set_option linter.unusedVariables false

end Go.Proofs.YtamkfnkikiekaaaGreat

/-
  CONTRACTS: SolveByConstant, the reference's side. (Printed by wip/gensolve.py.)
-/
namespace Go.Proofs.YtamkfnkikiekaaaGreat
open Go.RowKit Go.Shelf Go.IntWalk
open Rep (Rd Own sz)
set_option linter.unusedSimpArgs false
set_option linter.unusedVariables false


end Go.Proofs.YtamkfnkikiekaaaGreat

