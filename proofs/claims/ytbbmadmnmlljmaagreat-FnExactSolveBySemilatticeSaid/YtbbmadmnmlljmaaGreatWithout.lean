/-
  CONTRACTS: a list of the call's own without a number; lists of the call's own.
-/
import Derived.Test.YtbbmadmnmlljmaaGreatArcB
namespace Go.Proofs.YtbbmadmnmlljmaaGreat
open Go.RowKit Go.Shelf Go.IntWalk
open Rep (Rd Own sz)
set_option linter.unusedSimpArgs false
set_option linter.unusedVariables false

theorem without1_gives (a : Int) (b : Nat) (W : World) (hc : W.cell? ⟨b, 0, none⟩ = some (.int .i64 a)) (x : Int) : FnGives Tryz.prog 146 #[.pointer (some ⟨b, 0, none⟩)] #[.int .i64 x] (.bool (x == a)) W := by
  show Calls _ _ #[.int .i64 x, .pointer (some ⟨b, 0, none⟩)] W _
  go_enter Tryz.func146, Tryz.ntmps146
  go_wp2_with fail
  go_ret
  exact ⟨rfl, 0, rfl⟩
theorem zero_int64 (w : World) : (zeroValue 2).run Tryz.prog w = .ok (.int .i64 0) w := by
  obtain ⟨i, hi, hz⟩ := (E_ints).info
  simp [zeroValue, typeInfo, hi, hz]
theorem deleteInts_c (B g cap : Nat) (l : List Int) (a : Int) (b : Nat) (w : World) (hrow : w.ownsRow B 2 1 (.slice (some ⟨g, 0, none⟩) l.length cap) l.length (ivals l)) (hc : w.cell? ⟨b, 0, none⟩ = some (.int .i64 a)) (hbg : b ≠ g) :
    Calls Tryz.prog 145 #[.slice (some ⟨g, 0, none⟩) l.length cap, .func (.func 146) #[] #[.pointer (some ⟨b, 0, none⟩)]] w fun e w' => e = .returned (.slice (some ⟨g, 0, none⟩) (l.filter (fun x => x != a)).length cap) ∧ w'.ownsRow B 2 1 (.slice (some ⟨g, 0, none⟩) (l.filter (fun x => x != a)).length cap) (l.filter (fun x => x != a)).length (ivals (l.filter (fun x => x != a))) ∧ But [g] w w' := by
  obtain ⟨g', cap', e, hg1, hg2, hc1, hc2, _, hH⟩ := Go.Lib.holds_of_ownsRow hrow (by simp)
  simp only [Value.slice.injEq, Option.some.injEq, Addr.mk.injEq, and_true, true_and] at e
  obtain ⟨rfl, rfl⟩ := e
  unfold maxLen at hc2
  have eg : ∀ args w, (callFunc 146 args).run Tryz.prog w = .ok (.enter 146 args) w := enters_of Tryz.func146 (by kernel_rfl) rfl
  have hp : PredAt Tryz.prog 146 #[.pointer (some ⟨b, 0, none⟩)] (Value.int .i64) (fun x => x == a) w := fun W x hb => without1_gives a b W (cellL hb hc) x
  have hpo : PredOver Tryz.prog 146 #[.pointer (some ⟨b, 0, none⟩)] (Value.int .i64) (fun x => x == a) g 0 l.toArray.size w := fun n os dk x _ => by
    refine without1_gives a b _ ?_ x
    obtain ⟨h1, h2, h3, h4, h5⟩ := grownBy_sortedI (w := w) (g := g) (n := n) (os := os) dk
    exact cellK hc (h5 b (World.block_lt_of_cell? w _ hc) (fun h => hbg (by simpa using h)))
  have h := AnyE.slices_DeleteFunc Tryz.laysSlH10 (Value.int .i64) (by intro _; rfl) (fun x => x == a) 146 #[.pointer (some ⟨b, 0, none⟩)] eg 0 zero_int64 g 0 cap l.toArray w hp hpo hH (by simp; omega) (by simpa using hc1)
  have hfl : (l.filter (fun x => x != a)).length ≤ l.length := List.length_filter_le _ _
  refine h.mono ?_
  rintro e w' ⟨rfl, q, rfl⟩
  have he : (l.toArray.toList.filter fun x => !(x == a)) = l.filter (fun x => x != a) := rfl
  rw [he]
  refine ⟨rfl, ?_, ?_⟩
  · have h := Go.Lib.ownsRow_putRow (q := q) (k := (l.filter (fun x => x != a)).length) (ys := l.filter (fun x => x != a) ++ List.replicate (l.length - (l.filter (fun x => x != a)).length) 0) hrow (by simp; omega) hfl
    rw [List.take_left] at h
    simpa [ivals] using h
  · exact ⟨rfl, rfl, rfl, by simp [Go.Sort.putRow, Go.Sort.mapBlock, Go.Sort.ahead], fun k hk hn => by
      have : g ≠ k := fun e => hn (by simp [e])
      simp [Go.Sort.putRow, Go.Sort.mapBlock, Go.Sort.ahead, Array.getElem?_modify, this]⟩
set_option maxHeartbeats 2000000 in
set_option maxRecDepth 100000 in
theorem without_c (l : List Int) (v : Value) (a : Int) (w : World) (r : Rd w [v] l) (hl : l.length ≤ 1048576) (h0 : 0 < l.length) :
    Calls Tryz.prog 82 #[v, .int .i64 a] w fun e w' => ∃ v', e = .returned v' ∧ Acc w.heap.size w'.heap.size 2 w' v' (l.filter (fun x => x != a)) ∧ Below w.heap.size w w' := by
  obtain ⟨ad, c, rfl, _⟩ := rd_list r
  have HR := Lib.hid r
  clear r
  have hs1 := (St.start w).alloc #[.int .i64 a] 2 (n := w.heap.size) (by simp)
  have k0_0 := hs1.cellAt 0 rfl 0 rfl
  go_enter Tryz.func82, Tryz.ntmps82
  go_wp2_with fail
  refine (cloneIntsA_c l _ _ (Rd.mono HR.out hs1.bel) (by omega)).mono ?_
  rintro e w1 ⟨v1, rfl, hA1, hb1⟩
  obtain ⟨hrow, hbk, hI⟩ := acc_ints_get hA1
  rcases hrow.2 with ⟨rfl, h⟩ | ⟨g, cap, cur, rfl, hb, hg, hn2, hm, hs, ht⟩
  · omega
  have hgs : g < w1.heap.size := (Array.getElem?_eq_some_iff.1 hg).1
  have hs1 := hs1.step hb1
  have hcA := hs1.cellAt 0 rfl 0 rfl
  have hgb : w.heap.size + 1 ≤ g := by simpa using hb
  have HD := Lib.hid (deleteInts_c _ g cap l a w.heap.size w1 hrow hcA (by omega))
  have HI := Lib.hid hI
  have HB := Lib.hid hs1.bel
  clear hA1 hrow hbk hI hb1 hg hs ht hs1 hcA
  go_wp2_with fail
  refine HD.out.mono ?_
  rintro e w2 ⟨rfl, hrow2, hbut2⟩
  have hs2 : g < w2.heap.size := by have h1 := hbut2.size; omega
  have HB2 := Lib.hid (HB.out.trans (hbut2.below (B := w.heap.size) (by simp; omega) HB.out.size))
  have hrow3 : w2.ownsRow w.heap.size 2 1 (.slice (some ⟨g, 0, none⟩) (l.filter (fun x => x != a)).length cap) (l.filter (fun x => x != a)).length (ivals (l.filter (fun x => x != a))) := by
    rcases hrow2 with ⟨x1, x2⟩
    refine ⟨x1, ?_⟩
    rcases x2 with x2 | ⟨g2, cap2, cur2, y1, y2, y3⟩
    · exact .inl x2
    · exact .inr ⟨g2, cap2, cur2, y1, by simp at y2; omega, y3⟩
  have HA := Lib.hid (acc_ints_mk (H := w2.heap.size) hrow3 (fun k hk => by
    simp only [Value.ownBlock, Option.some.injEq] at hk
    subst hk
    exact ⟨by omega, hs2⟩) (fun x hx => HI.out x (List.mem_filter.1 hx).1))
  clear hrow2 hbut2 hrow3
  generalize (l.filter (fun x => x != a)).length = M at *
  go_wp2_with fail
  go_ret
  exact ⟨_, rfl, HA.out, HB2.out⟩

end Go.Proofs.YtbbmadmnmlljmaaGreat
