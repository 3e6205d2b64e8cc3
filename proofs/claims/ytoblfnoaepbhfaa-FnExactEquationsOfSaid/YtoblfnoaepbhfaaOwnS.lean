/-
  CONTRACTS: l00Own and l07False of the reference.
-/
import Derived.Test.YtoblfnoaepbhfaaIp
import Derived.Test.YtoblfnoaepbhfaaRref
import Derived.Test.YtoblfnoaepbhfaaClone
import Derived.Test.YtoblfnoaepbhfaaPred
namespace Go.Proofs.Ytoblfnoaepbhfaa
open Go.RowKit Go.Shelf
open Rep (Rd Own sz)
set_option linter.unusedSimpArgs false
set_option linter.unusedVariables false

theorem run_append_zero {P : Program} {w : World} {base : Nat} {t ty e : TypeId} {i : TypeInfo} {size : Nat} (ht : P.underlying t = some (.slice e)) (hi : P.info? e = some i)
    {v : Value} {n : Nat} {xs : List Value} (hown : w.ownsRow base e size v n xs) (a : Option Addr) (c : Nat) :
    (Builtin.append_ #[t, t] ty #[v, .slice a 0 c]).run P w = .ok v w := by
  rcases hown.2 with ⟨rfl, rfl⟩ | ⟨g, cap, cur, rfl, _, _, hnc, _⟩
  · cases a <;> simp [Builtin.append_, run_underlying ht, sizeOf, typeInfo, hi, Builtin.lenOf, Builtin.firstCells, loadCells, loadCellsFrom]
  · cases a <;> simp [Builtin.append_, run_underlying ht, sizeOf, typeInfo, hi, Builtin.lenOf, Builtin.firstCells, hnc, storeCells, loadCells, loadCellsFrom]
theorem wpList_append_zero {P : Program} (w : World) {ops : Array Oper} {rest : List Oper} {o : Oper} {a : Act} {Q : Exit → Act → World → Prop} (hgd : o.guard = none) (s x : Operand) (t : TypeId)
    (ho : o.op = .call { callee := .builtin .append, args := #[s, x], argTypes := #[t, t] }) {e : TypeId} {α : Type} [Rep α] {z : Value} {bytes : Nat} (E : ElemT P t e α z bytes) {B H : Nat} {v : Value} {l : List α}
    (hs : a.eval s = v) (hacc : Acc B H e w v l) (ad : Option Addr) (c : Nat) (hx : a.eval x = .slice ad 0 c)
    (h : wpList P ops Q rest (a.put o.dst v) w) : wpList P ops Q (o :: rest) a w := by
  refine wpList_plain hgd fun K hK => ?_
  obtain ⟨i, hi, _⟩ := E.info
  obtain ⟨xs, pss, h1, _⟩ := hacc
  have hr := run_append_zero (P := P) (ty := o.type) E.und hi h1 ad c
  unfold Oper.wp execOp
  simp only [ho, resolve, invoke, builtin, Sem.run_bind, Sem.run_pure, Result.andThen_ok, List.map_toArray, List.map_cons, List.map_nil, hs, hx, hr]
  exact hK _ _ h
set_option maxRecDepth 100000 in
set_option maxHeartbeats 1000000 in
theorem l00Own_c (l : List Int) (v : Value) (w : World) (r : Rd w [v] l) (hl : l.length ≤ 1073741824) :
    Calls Try.prog 124 #[v] w fun e w' => ∃ v', e = .returned v' ∧ Acc w.heap.size w'.heap.size 2 w' v' l ∧ Below w.heap.size w w' := by
  obtain ⟨a, c, rfl, h⟩ := rd_list r
  have HR := Lib.hid h
  clear r h
  have hacc : Acc w.heap.size (w.heap.size + 1) 2 (w.alloc (.cells #[] 2)) (.slice (some ⟨w.heap.size, 0, none⟩) 0 0) ([] : List Int) := acc_made w 2
  cases l with
  | nil =>
    go_enter Try.func124, Try.ntmps124
    go_wp2_with (refine wpList_append_zero _ rfl _ _ _ rfl E_ints rfl hacc a c rfl ?_)
    go_wp2_with fail
    go_ret
    exact ⟨_, rfl, by simpa using hacc, belowA _ _⟩
  | cons n0 l0 =>
    obtain ⟨b, o, -, rfl, -, -⟩ := HR.out.2.2 0 (by simp)
    generalize hL : n0 :: l0 = l at *
    clear hL
    have hnews : ∀ j u, (ivals l)[j]? = some u → w.cell? ((⟨b, o, none⟩ : Addr).add j) = some u ∧ I64 (l.getD j 0) := by
      intro j u hu
      have hj : j < l.length := by have := (List.getElem?_eq_some_iff.1 hu).1; simpa [ivals] using this
      obtain ⟨b', o', e, hc, hI⟩ := rdSl_int HR.out j hj
      simp only [Option.some.injEq, Addr.mk.injEq] at e
      obtain ⟨rfl, rfl, -⟩ := e
      have hadd : ((⟨b, o, none⟩ : Addr).add j) = ⟨b, o + j, none⟩ := by unfold Addr.add; split <;> simp_all
      rw [hadd, hc]
      refine ⟨?_, hI⟩
      rw [← hu]; simp [ivals, hj, List.getD]
    have hI : ∀ a, a ∈ l → I64 a := by
      intro a ha
      obtain ⟨j, hj, rfl⟩ := List.getElem_of_mem ha
      have := (hnews j _ (List.getElem?_eq_getElem (by simpa [ivals] using hj))).2
      simpa [List.getD, hj] using this
    have hn2 : ∀ j u, (ivals l)[j]? = some u → (w.alloc (.cells #[] 2)).cell? ((⟨b, o, none⟩ : Addr).add j) = some u := fun j u hu => cellL (belowA _ _) (hnews j u hu).1
    go_enter Try.func124, Try.ntmps124
    go_wp2_with (refine wpList_append_ints _ rfl _ _ _ rfl E_ints rfl hacc (Nat.le_succ _) (by simp) ⟨b, o, none⟩ c rfl hn2 hI (by simpa using hl) ?_; intro a' c' w' hA hB _)
    simp only [List.length_nil, Nat.zero_add, List.nil_append] at hA ⊢
    go_wp2_with fail
    go_ret
    exact ⟨_, rfl, hA, (belowA _ _).trans hB⟩
theorem falseF_at {rows : List SRow} {done k : Nat} (hd : done ≤ k) (hk : k < rows.length) (h0 : ∀ j (hj : j < rows.length), done ≤ j → j < k → (rows[j].2.1 != 0) = false) (h1 : (rows[k].2.1 != 0) = true) : falseF rows done = k := by
  have : (rows.drop done).findIdx? (fun r => r.2.1 != 0) = some (k - done) := by
    rw [List.findIdx?_eq_some_iff_getElem]
    refine ⟨by simp; omega, ?_, fun j hj => ?_⟩
    · simp only [List.getElem_drop, show done + (k - done) = k by omega]; exact h1
    · simp only [List.getElem_drop]
      simpa using h0 (done + j) (by omega) (by omega) (by omega)
  unfold falseF; rw [this]
  simp only
  omega
theorem falseF_no {rows : List SRow} {done : Nat} (h0 : ∀ j (hj : j < rows.length), done ≤ j → (rows[j].2.1 != 0) = false) : falseF rows done = -1 := by
  have : (rows.drop done).findIdx? (fun r => r.2.1 != 0) = none := by
    rw [List.findIdx?_eq_none_iff]
    intro r hr
    obtain ⟨j, hj, rfl⟩ := List.getElem_of_mem hr
    simp only [List.getElem_drop]
    exact h0 (done + j) (by simp at hj; omega) (by omega)
  unfold falseF; rw [this]
set_option maxRecDepth 100000 in
set_option maxHeartbeats 1000000 in
theorem l07False_c (l : List SRow) (v : Value) (done : Nat) (w : World) (r : Rd w [v] l) (hd : done ≤ l.length) (hl : l.length ≤ 1000000) :
    Calls Try.prog 89 #[v, .int .i64 done] w fun e w' => e = .returned (.int .i64 (falseF l done)) ∧ w = w' := by
  obtain ⟨a, c, rfl, h⟩ := rd_list r
  have HR := Lib.hid r
  clear r h
  go_enter Try.func89, Try.ntmps89
  go_wp2_with fail
  go_loopw [5] (fun i wr => ∃ k : Nat, done ≤ k ∧ k ≤ l.length ∧ i = .int .i64 k ∧ wr = w ∧ Hid (∀ j (hj : j < l.length), done ≤ j → j < k → (l[j].2.1 != 0) = false)) (fun i _ => l.length - (intOf i).toNat)
  case atStart => exact ⟨done, Nat.le_refl _, hd, rfl, rfl, fun j _ h1 h2 => by omega⟩
  case round =>
    obtain ⟨k, hdk, hk, rfl, rfl, hr⟩ := hrel
    by_cases hlt : k < l.length
    · obtain ⟨b', o', u0, u1, u2, rfl, q0, q1, q2, hx⟩ := rd_three_at rfl HR.out k hlt
      have z := rd_cons rfl (rd_cons rfl hx).2
      obtain ⟨rfl, _⟩ := rd_i1 z.1
      have hkl : (k : Int) < l.length := by omega
      clear z hx
      cases hq : (l[k].2.1 != 0) with
      | true =>
        have HQ := Lib.hid hq
        go_wp2_with fail
        go_ret
        exact ⟨ret_int (falseF_at hdk hlt (fun j hj h1 h2 => hr.out j hj h1 h2) HQ.out).symm, rfl⟩
      | false =>
        have HQ := Lib.hid hq
        go_wp2_with fail
        go_roundw
        case rel =>
          refine ⟨k + 1, by omega, by omega, by go_num, trivial, ?_⟩
          intro j hj h1 hjk
          rcases Nat.lt_or_ge j k with h | h
          · exact hr.out j hj h1 h
          · obtain rfl : j = k := by omega
            exact HQ.out
        case measure => simp [intOf]; omega
    · obtain rfl : k = l.length := by omega
      go_wp2_with fail
      go_ret
      refine ⟨ret_int ?_, rfl⟩
      rw [falseF_no (fun j hj h1 => hr.out j hj h1 hj)]

end Go.Proofs.Ytoblfnoaepbhfaa
