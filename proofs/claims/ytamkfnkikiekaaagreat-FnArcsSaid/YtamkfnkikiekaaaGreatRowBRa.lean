/-
  SEVERAL TEXTS IN ONE.
-/
import Derived.Test.YtamkfnkikiekaaaGreatRowsBRa
import Derived.Test.YtamkfnkikiekaaaGreatKindsRa
import Derived.Test.YtamkfnkikiekaaaGreatSysBRa

/-
  CONTRACTS: slices.IndexFunc on rows; the first row 0 = r of the program.
-/
namespace Go.Proofs.YtamkfnkikiekaaaGreat
open Go.RowKit Go.Shelf
open Rep (Rd Own sz)
set_option linter.unusedSimpArgs false
set_option linter.unusedVariables false

end Go.Proofs.YtamkfnkikiekaaaGreat

/-
  CONTRACTS: l00Own and l07False of the reference.
-/
namespace Go.Proofs.YtamkfnkikiekaaaGreat
open Go.RowKit Go.Shelf
open Rep (Rd Own sz)
set_option linter.unusedSimpArgs false
set_option linter.unusedVariables false

theorem run_append_zero {P : Program} {w : World} {base : Nat} {t ty e : TypeId} {i : TypeInfo} {size : Nat} (ht : P.underlying t = some (.slice e)) (hi : P.info? e = some i)
    {v : Value} {n : Nat} {xs : List Value} (hown : w.ownsRow base e size v n xs) (a : Option Addr) (c : Nat) :
    (Builtin.append_ #[t, t] ty #[v, .slice a 0 c]).run P w = .ok v w := by
  rcases hown.2 with ⟨rfl, rfl⟩ | ⟨g, cap, cur, rfl, _, _, hnc, _⟩
  · cases a <;> simp [Builtin.append_, run_underlying ht, sizeOf, typeInfo, hi, Builtin.lenOf, Builtin.firstCells, loadCells, loadCellsFrom]
  · cases a <;> simp [Builtin.append_, run_underlying ht, sizeOf, typeInfo, hi, Builtin.lenOf, Builtin.firstCells, hnc, storeCells, loadCells, loadCellsFrom]
theorem wpList_append_zero {P : Program} (w : World) {ops : Array Oper} {rest : List Oper} {o : Oper} {a : Act} {Q : Exit → Act → World → Prop} (hgd : o.guard = none) (s x : Operand) (t : TypeId)
    (ho : o.op = .call { callee := .builtin .append, args := #[s, x], argTypes := #[t, t] }) {e : TypeId} {α : Type} [Rep α] {z : Value} {bytes : Nat} (E : ElemT P t e α z bytes) {B H : Nat} {v : Value} {l : List α}
    (hs : a.eval s = v) (hacc : Acc B H e w v l) (ad : Option Addr) (c : Nat) (hx : a.eval x = .slice ad 0 c)
    (h : wpList P ops Q rest (a.put o.dst v) w) : wpList P ops Q (o :: rest) a w := by
  refine wpList_plain hgd fun K hK => ?_
  obtain ⟨i, hi, _⟩ := E.info
  obtain ⟨xs, pss, h1, _⟩ := hacc
  have hr := run_append_zero (P := P) (ty := o.type) E.und hi h1 ad c
  unfold Oper.wp execOp
  simp only [ho, resolve, invoke, builtin, Sem.run_bind, Sem.run_pure, Result.andThen_ok, List.map_toArray, List.map_cons, List.map_nil, hs, hx, hr]
  exact hK _ _ h
set_option maxRecDepth 100000 in
set_option maxHeartbeats 1000000 in
theorem l00Own_c (l : List Int) (v : Value) (w : World) (r : Rd w [v] l) (hl : l.length ≤ 1073741824) :
    Calls Tryz.prog 54 #[v] w fun e w' => ∃ v', e = .returned v' ∧ Acc w.heap.size w'.heap.size 2 w' v' l ∧ Below w.heap.size w w' := by
  obtain ⟨a, c, rfl, h⟩ := rd_list r
  have HR := Lib.hid h
  clear r h
  have hacc : Acc w.heap.size (w.heap.size + 1) 2 (w.alloc (.cells #[] 2)) (.slice (some ⟨w.heap.size, 0, none⟩) 0 0) ([] : List Int) := acc_made w 2
  cases l with
  | nil =>
    go_enter Tryz.func54, Tryz.ntmps54
    go_wp2_with (refine wpList_append_zero _ rfl _ _ _ rfl E_ints rfl hacc a c rfl ?_)
    go_wp2_with fail
    go_ret
    exact ⟨_, rfl, by simpa using hacc, belowA _ _⟩
  | cons n0 l0 =>
    obtain ⟨b, o, -, rfl, -, -⟩ := HR.out.2.2 0 (by simp)
    generalize hL : n0 :: l0 = l at *
    clear hL
    have hnews : ∀ j u, (ivals l)[j]? = some u → w.cell? ((⟨b, o, none⟩ : Addr).add j) = some u ∧ I64 (l.getD j 0) := by
      intro j u hu
      have hj : j < l.length := by have := (List.getElem?_eq_some_iff.1 hu).1; simpa [ivals] using this
      obtain ⟨b', o', e, hc, hI⟩ := rdSl_int HR.out j hj
      simp only [Option.some.injEq, Addr.mk.injEq] at e
      obtain ⟨rfl, rfl, -⟩ := e
      have hadd : ((⟨b, o, none⟩ : Addr).add j) = ⟨b, o + j, none⟩ := by unfold Addr.add; split <;> simp_all
      rw [hadd, hc]
      refine ⟨?_, hI⟩
      rw [← hu]; simp [ivals, hj, List.getD]
    have hI : ∀ a, a ∈ l → I64 a := by
      intro a ha
      obtain ⟨j, hj, rfl⟩ := List.getElem_of_mem ha
      have := (hnews j _ (List.getElem?_eq_getElem (by simpa [ivals] using hj))).2
      simpa [List.getD, hj] using this
    have hn2 : ∀ j u, (ivals l)[j]? = some u → (w.alloc (.cells #[] 2)).cell? ((⟨b, o, none⟩ : Addr).add j) = some u := fun j u hu => cellL (belowA _ _) (hnews j u hu).1
    go_enter Tryz.func54, Tryz.ntmps54
    go_wp2_with (refine wpList_append_ints _ rfl _ _ _ rfl E_ints rfl hacc (Nat.le_succ _) (by simp) ⟨b, o, none⟩ c rfl hn2 hI (by simpa using hl) ?_; intro a' c' w' hA hB _)
    simp only [List.length_nil, Nat.zero_add, List.nil_append] at hA ⊢
    go_wp2_with fail
    go_ret
    exact ⟨_, rfl, hA, (belowA _ _).trans hB⟩

end Go.Proofs.YtamkfnkikiekaaaGreat

/-
  PLAIN: a row of the reference taken out of an owned slice of rows, written in place, and put back; two rows that change places.
-/
namespace Go.Proofs.YtamkfnkikiekaaaGreat
open Go.RowKit
open Rep (Rd Own sz)
set_option linter.unusedSimpArgs false
set_option linter.unusedVariables false

end Go.Proofs.YtamkfnkikiekaaaGreat

/-
  PLAIN: two rows of an owned slice of rows: one is written, the other is read meanwhile.
-/
namespace Go.Proofs.YtamkfnkikiekaaaGreat
open Go.RowKit
open Rep (Rd Own sz)
set_option linter.unusedSimpArgs false
set_option linter.unusedVariables false

end Go.Proofs.YtamkfnkikiekaaaGreat

/-
  CONTRACT: (*l07Row).scale of the reference. (Printed by wip/genrow.py.)
-/
namespace Go.Proofs.YtamkfnkikiekaaaGreat
open Go.RowKit Go.Shelf Go.IntWalk
open Rep (Rd Own sz)
set_option linter.unusedSimpArgs false
set_option linter.unusedVariables false



end Go.Proofs.YtamkfnkikiekaaaGreat

