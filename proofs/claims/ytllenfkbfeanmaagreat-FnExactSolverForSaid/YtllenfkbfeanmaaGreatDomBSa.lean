/-
  SEVERAL TEXTS IN ONE.
-/
import Derived.Test.YtllenfkbfeanmaaGreatTmplBSa
import Derived.Lib.SlicesCompact
import Derived.Lib.OwnBridge
import Derived.Test.YtllenfkbfeanmaaGreatRowsBSa
import Derived.Test.YtllenfkbfeanmaaGreatShelf
import Derived.Sort.OwnSortedInts

/-
  PLAIN LAW: a list's numbers in rising order, each once; lists that rise.
-/
namespace Go.Proofs.YtllenfkbfeanmaaGreat
open Go.RowKit
set_option linter.unusedSimpArgs false
set_option linter.unusedVariables false

def srtL (l : List Int) : List Int := l.mergeSort (fun x y => decide (x ≤ y))
theorem srt_mem {l : List Int} {x : Int} : x ∈ srtL l ↔ x ∈ l := List.mem_mergeSort
theorem srt_len (l : List Int) : (srtL l).length = l.length := (List.mergeSort_perm l _).length_eq
end Go.Proofs.YtllenfkbfeanmaaGreat

/-
  CONTRACTS: lists that rise; the domains of an instance: the reference's side.
-/
namespace Go.Proofs.YtllenfkbfeanmaaGreat
open Go.RowKit Go.Shelf Go.IntWalk
open Rep (Rd Own sz)
set_option linter.unusedSimpArgs false
set_option linter.unusedVariables false

end Go.Proofs.YtllenfkbfeanmaaGreat

/-
  CONTRACTS: slices.Sort, slices.Compact of numbers that are the call's own (out of the shelf); a list's numbers in rising order.
-/
namespace Go.Proofs.YtllenfkbfeanmaaGreat
open Go.RowKit Go.Shelf
open Rep (Rd Own sz)
set_option linter.unusedSimpArgs false
set_option linter.unusedVariables false

theorem sortInts_c (B g cap : Nat) (l : List Int) (w : World) (hrow : w.ownsRow B 2 1 (.slice (some ⟨g, 0, none⟩) l.length cap) l.length (ivals l)) (hl : l.length ≤ 1073741824) :
    Calls Tryz.prog 190 #[.slice (some ⟨g, 0, none⟩) l.length cap] w fun e w' => e = .returned (.tuple #[]) ∧ w'.ownsRow B 2 1 (.slice (some ⟨g, 0, none⟩) (srtL l).length cap) (srtL l).length (ivals (srtL l)) ∧ But [g] w w' := by
  obtain ⟨g', cap', e, hg1, hg2, hc1, hc2, _, hH⟩ := Go.Lib.holds_of_ownsRow hrow (by simp)
  simp only [Value.slice.injEq, Option.some.injEq, Addr.mk.injEq, and_true, true_and] at e
  obtain ⟨rfl, rfl⟩ := e
  refine (AnyM.slices_Sort_int Tryz.laysSlM5 g 0 cap l w hH hg2 (by omega)).mono ?_
  rintro e w' ⟨rfl, n, os, rfl⟩
  refine ⟨rfl, ?_, ?_⟩
  · rcases hrow.2 with ⟨e0, _⟩ | ⟨g', cap', cur, e0, hb, hg, hn, hm, hs, ht⟩
    · cases e0
    simp only [Value.slice.injEq, Option.some.injEq, Addr.mk.injEq, and_true, true_and] at e0
    obtain ⟨rfl, rfl⟩ := e0
    have h := ownsRow_sortedI (w := w) (base := B) (os := os) (n := n) (ss := l) (ts := srtL l) (srt_len l) hb hg hn hm hs
    rw [srt_len l]
    exact h
  · obtain ⟨h1, h2, h3, h4, h5⟩ := grownBy_sortedI (w := w) (g := g) (n := n) (os := os) (srtL l).toArray
    exact ⟨by first | exact h1 | exact h2 | exact h3, by first | exact h1 | exact h2 | exact h3, by first | exact h1 | exact h2 | exact h3, h4, fun k hk hn => h5 k hk (fun h => hn (by simp only [Option.some.injEq] at h; simp [h]))⟩
end Go.Proofs.YtllenfkbfeanmaaGreat

/-
  CONTRACTS: ValidDomains, both sides.
-/
namespace Go.Proofs.YtllenfkbfeanmaaGreat
open Go.RowKit Go.Shelf Go.IntWalk
open Rep (Rd Own sz)
set_option linter.unusedSimpArgs false
set_option linter.unusedVariables false

end Go.Proofs.YtllenfkbfeanmaaGreat

