/-
  CONTRACT: slices.Clone of numbers.
-/
import Derived.Test.YtoblfnoaepbhfaaBase
import Derived.Test.YtoblfnoaepbhfaaKinds
import Derived.Lib.BufferMore
namespace Go.Proofs.Ytoblfnoaepbhfaa
open Go.RowKit
open Rep (Rd Own sz)
set_option linter.unusedSimpArgs false
set_option linter.unusedVariables false

set_option maxRecDepth 100000 in
set_option maxHeartbeats 1000000 in
theorem cloneIntsA_c (l : List Int) (v : Value) (w : World) (r : Rd w [v] l) (hl : l.length ≤ 1073741824) :
    Calls Try.prog 100 #[v] w fun e w' => ∃ v', e = .returned v' ∧ Acc w.heap.size w'.heap.size 2 w' v' l ∧ Below w.heap.size w w' := by
  obtain ⟨a, c, rfl, h⟩ := rd_list r
  have HR := Lib.hid h
  clear r h
  have hg1 : ∀ (a b : Value) W, (eqGuard .eql 104 (.const a) (.const b) a b).run Try.prog W = (eqGuard .eql 104 (.const a) (.const b) a b).run Try.prog W := fun _ _ _ => rfl
  clear hg1
  cases a with
  | none =>
    have h0 : l = [] := by
      by_cases hn : 0 < l.length
      · obtain ⟨b, o, vs, e, _⟩ := HR.out.2.2 0 hn
        cases e
      · exact List.eq_nil_of_length_eq_zero (by omega)
    subst h0
    have hnil : ∀ W, (binOp .eql 104 (.slice none 0 c) (.slice none 0 0)).run Try.prog W = .ok (.bool true) W := fun W => Lib.run_eql_slice_nil_nil W _ _ Try.underlying104
    go_enter Try.func100, Try.ntmps100
    go_wp2_with fail
    go_ret
    exact ⟨_, rfl, Acc.nil _ _ _ _, Below.refl _ _⟩
  | some ad =>
    have hnil : ∀ W, (binOp .eql 104 (.slice (some ad) l.length c) (.slice none 0 0)).run Try.prog W = .ok (.bool false) W := fun W => Lib.run_eql_slice_some_nil W _ _ _ Try.underlying104
    go_enter Try.func100, Try.ntmps100
    obtain ⟨b, o, spot⟩ := ad
    have hnews : ∀ j u, (ivals l)[j]? = some u → w.cell? ((⟨b, o, spot⟩ : Addr).add j) = some u ∧ I64 (l.getD j 0) := by
      intro j u hu
      have hj : j < l.length := by have := (List.getElem?_eq_some_iff.1 hu).1; simpa [ivals] using this
      obtain ⟨b', o', e, hc, hI⟩ := rdSl_int HR.out j hj
      simp only [Option.some.injEq, Addr.mk.injEq] at e
      obtain ⟨rfl, rfl, rfl⟩ := e
      have hadd : ((⟨b, o, none⟩ : Addr).add j) = ⟨b, o + j, none⟩ := by unfold Addr.add; split <;> simp_all
      rw [hadd, hc]
      refine ⟨?_, hI⟩
      rw [← hu]; simp [ivals, hj, List.getD]
    have hI : ∀ a, a ∈ l → I64 a := by
      intro a ha
      obtain ⟨j, hj, rfl⟩ := List.getElem_of_mem ha
      have := (hnews j _ (List.getElem?_eq_getElem (by simpa [ivals] using hj))).2
      simpa [List.getD, hj] using this
    have hacc : Acc w.heap.size (w.heap.size + 1) 2 (w.alloc (.cells #[] 2)) (.slice (some ⟨w.heap.size, 0, none⟩) 0 0) ([] : List Int) :=
      acc_ints_mk (World.ownsRow_made w #[] 0 (Nat.le_refl _) (Nat.zero_le _) rfl) (fun g hg => by simp [Value.ownBlock] at hg; omega) (by simp)
    have hn2 : ∀ j u, (ivals l)[j]? = some u → (w.alloc (.cells #[] 2)).cell? ((⟨b, o, spot⟩ : Addr).add j) = some u := fun j u hu => cellL (belowA _ _) (hnews j u hu).1
    go_wp2_with (refine wpList_append_ints _ rfl _ _ _ rfl E_ints rfl hacc (Nat.le_succ _) (by simp) ⟨b, o, spot⟩ c rfl hn2 hI (by simpa using hl) ?_; intro a' c' w' hA hB _)
    simp only [List.length_nil, Nat.zero_add, List.nil_append] at hA ⊢
    go_wp2_with fail
    go_ret
    exact ⟨_, rfl, hA, (belowA _ _).trans hB⟩
theorem cloneInts_c (l : List Int) (v : Value) (w : World) (r : Rd w [v] l) (hl : l.length ≤ 1073741824) :
    Calls Try.prog 100 #[v] w fun e w' => ∃ v', e = .returned v' ∧ Fresh w.heap.size w' [v'] l ∧ Below w.heap.size w w' :=
  (cloneIntsA_c l v w r hl).mono fun e w' ⟨v', he, hA, hb⟩ => ⟨v', he, hA.fresh, hb⟩

end Go.Proofs.Ytoblfnoaepbhfaa
