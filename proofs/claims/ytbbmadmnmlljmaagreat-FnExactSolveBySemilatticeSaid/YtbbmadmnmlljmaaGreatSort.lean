/-
  CONTRACTS: slices.Sort, slices.Compact of numbers that are the call's own (out of the shelf); a list's numbers in rising order.
-/
import Derived.Test.YtbbmadmnmlljmaaGreatRise
import Derived.Test.YtbbmadmnmlljmaaGreatClone
import Derived.Test.YtbbmadmnmlljmaaGreatShelf
import Derived.Sort.OwnSortedInts
namespace Go.Proofs.YtbbmadmnmlljmaaGreat
open Go.RowKit Go.Shelf
open Rep (Rd Own sz)
set_option linter.unusedSimpArgs false
set_option linter.unusedVariables false

theorem compact_rise (l : List Int) : Go.Lib.compact (srtL l) = riseL l := rfl
theorem sortInts_c (B g cap : Nat) (l : List Int) (w : World) (hrow : w.ownsRow B 2 1 (.slice (some ⟨g, 0, none⟩) l.length cap) l.length (ivals l)) (hl : l.length ≤ 1073741824) :
    Calls Tryz.prog 175 #[.slice (some ⟨g, 0, none⟩) l.length cap] w fun e w' => e = .returned (.tuple #[]) ∧ w'.ownsRow B 2 1 (.slice (some ⟨g, 0, none⟩) (srtL l).length cap) (srtL l).length (ivals (srtL l)) ∧ But [g] w w' := by
  obtain ⟨g', cap', e, hg1, hg2, hc1, hc2, _, hH⟩ := Go.Lib.holds_of_ownsRow hrow (by simp)
  simp only [Value.slice.injEq, Option.some.injEq, Addr.mk.injEq, and_true, true_and] at e
  obtain ⟨rfl, rfl⟩ := e
  refine (AnyM.slices_Sort_int Tryz.laysSlM5 g 0 cap l w hH hg2 (by omega)).mono ?_
  rintro e w' ⟨rfl, n, os, rfl⟩
  refine ⟨rfl, ?_, ?_⟩
  · rcases hrow.2 with ⟨e0, _⟩ | ⟨g', cap', cur, e0, hb, hg, hn, hm, hs, ht⟩
    · cases e0
    simp only [Value.slice.injEq, Option.some.injEq, Addr.mk.injEq, and_true, true_and] at e0
    obtain ⟨rfl, rfl⟩ := e0
    have h := ownsRow_sortedI (w := w) (base := B) (os := os) (n := n) (ss := l) (ts := srtL l) (srt_len l) hb hg hn hm hs
    rw [srt_len l]
    exact h
  · obtain ⟨h1, h2, h3, h4, h5⟩ := grownBy_sortedI (w := w) (g := g) (n := n) (os := os) (srtL l).toArray
    exact ⟨by first | exact h1 | exact h2 | exact h3, by first | exact h1 | exact h2 | exact h3, by first | exact h1 | exact h2 | exact h3, h4, fun k hk hn => h5 k hk (fun h => hn (by simp only [Option.some.injEq] at h; simp [h]))⟩
theorem compactInts_c (B g cap : Nat) (l : List Int) (w : World) (hrow : w.ownsRow B 2 1 (.slice (some ⟨g, 0, none⟩) l.length cap) l.length (ivals l)) (hcl : (Go.Lib.compact l).length ≤ l.length) :
    Calls Tryz.prog 176 #[.slice (some ⟨g, 0, none⟩) l.length cap] w fun e w' => e = .returned (.slice (some ⟨g, 0, none⟩) (Go.Lib.compact l).length cap) ∧ w'.ownsRow B 2 1 (.slice (some ⟨g, 0, none⟩) (Go.Lib.compact l).length cap) (Go.Lib.compact l).length (ivals (Go.Lib.compact l)) ∧ But [g] w w' := by
  obtain ⟨g', cap', e, hg1, hg2, hc1, hc2, _, hH⟩ := Go.Lib.holds_of_ownsRow hrow (by simp)
  simp only [Value.slice.injEq, Option.some.injEq, Addr.mk.injEq, and_true, true_and] at e
  obtain ⟨rfl, rfl⟩ := e
  unfold maxLen at hc2
  refine (AnyG.slices_Compact_int Tryz.laysSlN43 g 0 cap l w hH (by omega) (by omega)).mono ?_
  rintro e w' ⟨rfl, q, rfl⟩
  refine ⟨rfl, ?_, ?_⟩
  · have h := Go.Lib.ownsRow_putRow (q := q) (k := (Go.Lib.compact l).length) (ys := Go.Lib.compact l ++ List.replicate (l.length - (Go.Lib.compact l).length) 0) hrow (by simp; omega) hcl
    rw [List.take_left] at h
    exact h
  · exact ⟨rfl, rfl, rfl, by simp [Go.Sort.putRow, Go.Sort.mapBlock, Go.Sort.ahead], fun k hk hn => by
      have : g ≠ k := fun e => hn (by simp [e])
      simp [Go.Sort.putRow, Go.Sort.mapBlock, Go.Sort.ahead, Array.getElem?_modify, this]⟩
set_option maxHeartbeats 1000000 in
theorem rising_c (l : List Int) (v : Value) (w : World) (r : Rd w [v] l) (hl : l.length ≤ 1073741824) :
    Calls Tryz.prog 130 #[v] w fun e w' => ∃ v', e = .returned v' ∧ Acc w.heap.size w'.heap.size 2 w' v' (riseL l) ∧ Below w.heap.size w w' := by
  have HR := Lib.hid r
  obtain ⟨a, c, rfl, _⟩ := rd_list r
  clear r
  go_enter Tryz.func130, Tryz.ntmps130
  go_wp2_with fail
  refine (cloneIntsA_c l _ _ HR.out hl).mono ?_
  rintro e w1 ⟨v1, rfl, hA1, hb1⟩
  obtain ⟨hrow, hbk, hI⟩ := acc_ints_get hA1
  by_cases hn : v1 = .slice none 0 0
  · subst hn
    have h0 : l.length = 0 := by
      rcases hrow.2 with ⟨_, h⟩ | ⟨g, cap, cur, e0, _⟩
      · exact h
      · cases e0
    have HB := Lib.hid hb1
    have HE := Lib.hid (show riseL l = [] by
      obtain rfl : l = [] := List.length_eq_zero_iff.1 h0
      exact rise_of List.Pairwise.nil)
    clear hA1 hrow hbk hI hb1 h0
    go_wp2_with fail
    refine (AnyM.slices_Sort_int_none Tryz.laysSlM5 none 0 w1).mono ?_
    rintro e w2 ⟨rfl, rfl⟩
    go_wp2_with fail
    refine (AnyG.slices_Compact_int_empty Tryz.laysSlN43 none 0 w2).mono ?_
    rintro e w3 ⟨rfl, rfl⟩
    go_wp2_with fail
    go_ret
    refine ⟨_, rfl, ?_, HB.out⟩
    rw [HE.out]
    exact Acc.nil _ _ _ _
  · rcases hrow.2 with ⟨e0, _⟩ | ⟨g, cap, cur, rfl, hb, hg, hn2, hm, hs, ht⟩
    · exact absurd e0 hn
    have hgs : g < w1.heap.size := (Array.getElem?_eq_some_iff.1 hg).1
    have HROW := Lib.hid hrow
    have HI := Lib.hid hI
    have HB := Lib.hid hb1
    clear hA1 hrow hbk hI hb1 hn hg hs ht
    go_wp2_with fail
    refine (sortInts_c w.heap.size g cap l w1 HROW.out hl).mono ?_
    rintro e w2 ⟨rfl, hrow2, hbut2⟩
    have HR2 := Lib.hid hrow2
    have HB2 := Lib.hid hbut2
    have HCE := Lib.hid (compact_rise l)
    have hcl : (Go.Lib.compact (srtL l)).length ≤ (srtL l).length := by rw [compact_rise, srt_len]; exact rise_len l
    have hsl : (srtL l).length = l.length := srt_len l
    have HCM := Lib.hid (fun W H => compactInts_c w.heap.size g cap (srtL l) W H hcl)
    rw [hsl] at HCM HR2
    clear hrow2 hbut2 hcl hsl
    go_wp2_with fail
    refine (HCM.out w2 HR2.out).mono ?_
    rintro e w3 ⟨rfl, hrow3, hbut3⟩
    rw [HCE.out] at hrow3 ⊢
    have HR3 := Lib.hid hrow3
    have HB3 := Lib.hid (HB.out.trans (((HB2.out.trans hbut3).below (B := w.heap.size) (by simp; exact hb) HB.out.size)))
    have hs3 : g < w3.heap.size := by have h1 := HB2.out.size; have h2 := hbut3.size; omega
    have HA := Lib.hid (acc_ints_mk (H := w3.heap.size) HR3.out (fun k hk => by
      simp only [Value.ownBlock, Option.some.injEq] at hk
      subst hk
      exact ⟨hb, hs3⟩) (fun a ha => HI.out a (rise_mem.1 ha)))
    clear hrow3 hbut3
    go_wp2_with fail
    go_ret
    exact ⟨_, rfl, HA.out, HB3.out⟩

end Go.Proofs.YtbbmadmnmlljmaaGreat
