/-
  SEVERAL TEXTS IN ONE.
-/
import Derived.Test.YtamkfnkikiekaaaGreatArcBRa
import Derived.Test.YtamkfnkikiekaaaGreatRowsBRa

/-
  CONTRACTS: a list of the call's own without a number; lists of the call's own.
-/
namespace Go.Proofs.YtamkfnkikiekaaaGreat
open Go.RowKit Go.Shelf Go.IntWalk
open Rep (Rd Own sz)
set_option linter.unusedSimpArgs false
set_option linter.unusedVariables false

theorem without1_gives (a : Int) (b : Nat) (W : World) (hc : W.cell? ⟨b, 0, none⟩ = some (.int .i64 a)) (x : Int) : FnGives Tryz.prog 64 #[.pointer (some ⟨b, 0, none⟩)] #[.int .i64 x] (.bool (x == a)) W := by
  show Calls _ _ #[.int .i64 x, .pointer (some ⟨b, 0, none⟩)] W _
  go_enter Tryz.func64, Tryz.ntmps64
  go_wp2_with fail
  go_ret
  exact ⟨rfl, 0, rfl⟩
theorem zero_int64 (w : World) : (zeroValue 2).run Tryz.prog w = .ok (.int .i64 0) w := by
  obtain ⟨i, hi, hz⟩ := (E_ints).info
  simp [zeroValue, typeInfo, hi, hz]
theorem deleteInts_c (B g cap : Nat) (l : List Int) (a : Int) (b : Nat) (w : World) (hrow : w.ownsRow B 2 1 (.slice (some ⟨g, 0, none⟩) l.length cap) l.length (ivals l)) (hc : w.cell? ⟨b, 0, none⟩ = some (.int .i64 a)) (hbg : b ≠ g) :
    Calls Tryz.prog 63 #[.slice (some ⟨g, 0, none⟩) l.length cap, .func (.func 64) #[] #[.pointer (some ⟨b, 0, none⟩)]] w fun e w' => e = .returned (.slice (some ⟨g, 0, none⟩) (l.filter (fun x => x != a)).length cap) ∧ w'.ownsRow B 2 1 (.slice (some ⟨g, 0, none⟩) (l.filter (fun x => x != a)).length cap) (l.filter (fun x => x != a)).length (ivals (l.filter (fun x => x != a))) ∧ But [g] w w' := by
  obtain ⟨g', cap', e, hg1, hg2, hc1, hc2, _, hH⟩ := Go.Lib.holds_of_ownsRow hrow (by simp)
  simp only [Value.slice.injEq, Option.some.injEq, Addr.mk.injEq, and_true, true_and] at e
  obtain ⟨rfl, rfl⟩ := e
  unfold maxLen at hc2
  have eg : ∀ args w, (callFunc 64 args).run Tryz.prog w = .ok (.enter 64 args) w := enters_of Tryz.func64 (by kernel_rfl) rfl
  have hp : PredAt Tryz.prog 64 #[.pointer (some ⟨b, 0, none⟩)] (Value.int .i64) (fun x => x == a) w := fun W x hb => without1_gives a b W (cellL hb hc) x
  have hpo : PredOver Tryz.prog 64 #[.pointer (some ⟨b, 0, none⟩)] (Value.int .i64) (fun x => x == a) g 0 l.toArray.size w := fun n os dk x _ => by
    refine without1_gives a b _ ?_ x
    obtain ⟨h1, h2, h3, h4, h5⟩ := grownBy_sortedI (w := w) (g := g) (n := n) (os := os) dk
    exact cellK hc (h5 b (World.block_lt_of_cell? w _ hc) (fun h => hbg (by simpa using h)))
  have h := AnyE.slices_DeleteFunc Tryz.laysSlH10 (Value.int .i64) (by intro _; rfl) (fun x => x == a) 64 #[.pointer (some ⟨b, 0, none⟩)] eg 0 zero_int64 g 0 cap l.toArray w hp hpo hH (by simp; omega) (by simpa using hc1)
  have hfl : (l.filter (fun x => x != a)).length ≤ l.length := List.length_filter_le _ _
  refine h.mono ?_
  rintro e w' ⟨rfl, q, rfl⟩
  have he : (l.toArray.toList.filter fun x => !(x == a)) = l.filter (fun x => x != a) := rfl
  rw [he]
  refine ⟨rfl, ?_, ?_⟩
  · have h := Go.Lib.ownsRow_putRow (q := q) (k := (l.filter (fun x => x != a)).length) (ys := l.filter (fun x => x != a) ++ List.replicate (l.length - (l.filter (fun x => x != a)).length) 0) hrow (by simp; omega) hfl
    rw [List.take_left] at h
    simpa [ivals] using h
  · exact ⟨rfl, rfl, rfl, by simp [Go.Sort.putRow, Go.Sort.mapBlock, Go.Sort.ahead], fun k hk hn => by
      have : g ≠ k := fun e => hn (by simp [e])
      simp [Go.Sort.putRow, Go.Sort.mapBlock, Go.Sort.ahead, Array.getElem?_modify, this]⟩
set_option maxHeartbeats 2000000 in
set_option maxRecDepth 100000 in
theorem without_c (l : List Int) (v : Value) (a : Int) (w : World) (r : Rd w [v] l) (hl : l.length ≤ 1048576) (h0 : 0 < l.length) :
    Calls Tryz.prog 35 #[v, .int .i64 a] w fun e w' => ∃ v', e = .returned v' ∧ Acc w.heap.size w'.heap.size 2 w' v' (l.filter (fun x => x != a)) ∧ Below w.heap.size w w' := by
  obtain ⟨ad, c, rfl, _⟩ := rd_list r
  have HR := Lib.hid r
  clear r
  have hs1 := (St.start w).alloc #[.int .i64 a] 2 (n := w.heap.size) (by simp)
  have k0_0 := hs1.cellAt 0 rfl 0 rfl
  go_enter Tryz.func35, Tryz.ntmps35
  go_wp2_with fail
  refine (cloneIntsA_c l _ _ (Rd.mono HR.out hs1.bel) (by omega)).mono ?_
  rintro e w1 ⟨v1, rfl, hA1, hb1⟩
  obtain ⟨hrow, hbk, hI⟩ := acc_ints_get hA1
  rcases hrow.2 with ⟨rfl, h⟩ | ⟨g, cap, cur, rfl, hb, hg, hn2, hm, hs, ht⟩
  · omega
  have hgs : g < w1.heap.size := (Array.getElem?_eq_some_iff.1 hg).1
  have hs1 := hs1.step hb1
  have hcA := hs1.cellAt 0 rfl 0 rfl
  have hgb : w.heap.size + 1 ≤ g := by simpa using hb
  have HD := Lib.hid (deleteInts_c _ g cap l a w.heap.size w1 hrow hcA (by omega))
  have HI := Lib.hid hI
  have HB := Lib.hid hs1.bel
  clear hA1 hrow hbk hI hb1 hg hs ht hs1 hcA
  go_wp2_with fail
  refine HD.out.mono ?_
  rintro e w2 ⟨rfl, hrow2, hbut2⟩
  have hs2 : g < w2.heap.size := by have h1 := hbut2.size; omega
  have HB2 := Lib.hid (HB.out.trans (hbut2.below (B := w.heap.size) (by simp; omega) HB.out.size))
  have hrow3 : w2.ownsRow w.heap.size 2 1 (.slice (some ⟨g, 0, none⟩) (l.filter (fun x => x != a)).length cap) (l.filter (fun x => x != a)).length (ivals (l.filter (fun x => x != a))) := by
    rcases hrow2 with ⟨x1, x2⟩
    refine ⟨x1, ?_⟩
    rcases x2 with x2 | ⟨g2, cap2, cur2, y1, y2, y3⟩
    · exact .inl x2
    · exact .inr ⟨g2, cap2, cur2, y1, by simp at y2; omega, y3⟩
  have HA := Lib.hid (acc_ints_mk (H := w2.heap.size) hrow3 (fun k hk => by
    simp only [Value.ownBlock, Option.some.injEq] at hk
    subst hk
    exact ⟨by omega, hs2⟩) (fun x hx => HI.out x (List.mem_filter.1 hx).1))
  clear hrow2 hbut2 hrow3
  generalize (l.filter (fun x => x != a)).length = M at *
  go_wp2_with fail
  go_ret
  exact ⟨_, rfl, HA.out, HB2.out⟩
set_option maxHeartbeats 2000000 in
set_option maxRecDepth 100000 in
theorem ownLists_c (ds : List (List Int)) (v : Value) (w : World) (r : Rd w [v] ds) (hn : ds.length ≤ 1000000) (hl : ∀ d, d ∈ ds → d.length ≤ 1048576) :
    Calls Tryz.prog 22 #[v] w fun e w' => ∃ v', e = .returned v' ∧ AccP (fun z => w.heap.size ≤ z ∧ z < w'.heap.size) 47 w' v' ds ∧ Below w.heap.size w w' := by
  obtain ⟨ad, c, rfl, h⟩ := rd_list r
  have HR := Lib.hid h
  have HL := Lib.hid hl
  clear r h hl
  have HM := Lib.hid (accP_made (α := List Int) w 47)
  go_enter Tryz.func22, Tryz.ntmps22
  go_wp2_with fail
  go_loopw [3, 9] (fun oo i wl => ∃ (k : Nat) (ao : Option Addr) (co : Nat), k ≤ ds.length ∧ i = .int .i64 k ∧ oo = .slice ao k co ∧ Hid (Below w.heap.size w wl) ∧ Hid (AccP (fun z => w.heap.size ≤ z ∧ z < wl.heap.size) 47 wl (.slice ao k co) (ds.take k))) (fun _ i _ => ds.length - (intOf i).toNat)
  case atStart => exact ⟨0, _, _, Nat.zero_le _, rfl, rfl, belowA _ _, AccP.wk (by simpa [Hid] using HM.out) (fun k hk => by simp at hk ⊢; omega)⟩
  case round =>
    clear HM
    obtain ⟨k, ao, co, hk, rfl, rfl, hbl, hac⟩ := hrel
    have hsr := (St.start w).step hbl.out
    have HAC := hac
    have hb0 := hbl.out.size
    by_cases hlt : k < ds.length
    · have hkl : (k : Int) < ds.length := by omega
      obtain ⟨b, o, u0, rfl, q0, hx⟩ := rdSl_one rfl (rdSl_mono hsr.bel HR.out) k hlt
      obtain ⟨a0, c0, rfl, _⟩ := rd_list hx
      have HX := Lib.hid hx
      have HXL := Lib.hid (HL.out _ (List.getElem_mem hlt))
      have HTK := Lib.hid (show ds.take k ++ [ds[k]] = ds.take (k + 1) from (List.take_succ_eq_append_getElem hlt).symm)
      have HLK := Lib.hid (show (ds.take k).length = k by rw [List.length_take]; omega)
      have HBL := Lib.hid hbl.out
      clear hx
      generalize ds[k] = D at *
      go_wp2_with fail
      refine (cloneIntsA_c D _ _ HX.out (by have := HXL.out; omega)).mono ?_
      rintro e w4 ⟨v4, rfl, hA4, hb4⟩
      obtain ⟨a4, c4, rfl, _⟩ := hA4.len
      have HI4 := Lib.hid ((hA4.mono (belowA w4 (.cells #[.slice a4 D.length c4] 47))).fresh.ip)
      have HAC4 := Lib.hid (AccP.mono HAC.out (hb4.trans ((belowA w4 (.cells #[.slice a4 D.length c4] 47)).mono hb4.size)))
      have HB4 := Lib.hid (HBL.out.trans ((hb4.trans ((belowA w4 (.cells #[.slice a4 D.length c4] 47)).mono hb4.size)).mono HBL.out.size))
      have hz4 := hb4.size
      clear hA4 hb4
      go_wp2_with (at_builtin; refine wpList_append_accP _ rfl _ _ _ rfl E_lists rfl HAC4.out HI4.out (fun z h1 h2 => by have h3 := h1.2; have h4 := h2.1; omega) ⟨w4.heap.size, 0, none⟩ 1 rfl (news1 (cell_at_block (heap_alloc_new _ _))) (by rw [HLK.out]; omega) ?_; simp only [HLK.out, HTK.out]; intro a8 c8 w8 hA8 hB8)
      have hz8 := hB8.size
      have HA8 := Lib.hid (AccP.wk hA8.tight (C := fun z => w.heap.size ≤ z ∧ z < w8.heap.size) (fun z hz => ⟨by
        rcases hz.1 with h | h | h
        · exact h.1
        · have := h.1; omega
        · rw [h]; simp; omega, hz.2⟩))
      have HB8 := Lib.hid (HB4.out.trans (hB8.below (B := w.heap.size) (fun z hz => hz.1) HB4.out.size))
      clear hA8 hB8
      go_wp2_with fail
      go_roundw
      case rel => exact ⟨k + 1, a8, c8, hlt, by go_num, rfl, HB8.out, HA8.out⟩
      case measure => simp [intOf]; omega
    · obtain rfl : k = ds.length := by omega
      have hnl : ¬ ((ds.length : Int) < ds.length) := by omega
      have HF := Lib.hid (show AccP (fun z => w.heap.size ≤ z ∧ z < wr.heap.size) 47 wr (.slice ao ds.length co) ds from by
        have h := hac.out
        rwa [List.take_length] at h)
      have HBF := Lib.hid hbl.out
      go_wp2_with fail
      go_ret
      exact ⟨_, rfl, HF.out, HBF.out⟩
set_option maxHeartbeats 2000000 in
set_option maxRecDepth 100000 in
theorem l05Copies_c (ds : List (List Int)) (v : Value) (w : World) (r : Rd w [v] ds) (hn : ds.length ≤ 1000000) (hl : ∀ d, d ∈ ds → d.length ≤ 1048576) :
    Calls Tryz.prog 26 #[v] w fun e w' => ∃ v', e = .returned v' ∧ AccP (fun z => w.heap.size ≤ z ∧ z < w'.heap.size) 47 w' v' ds ∧ Below w.heap.size w w' := by
  obtain ⟨ad, c, rfl, h⟩ := rd_list r
  have HR := Lib.hid h
  have HL := Lib.hid hl
  clear r h hl
  have HM := Lib.hid (accP_made (α := List Int) w 47)
  go_enter Tryz.func26, Tryz.ntmps26
  go_wp2_with fail
  go_loopw [3, 4] (fun oo i wl => ∃ (k : Nat) (ao : Option Addr) (co : Nat), k ≤ ds.length ∧ i = .int .i64 k ∧ oo = .slice ao k co ∧ Hid (Below w.heap.size w wl) ∧ Hid (AccP (fun z => w.heap.size ≤ z ∧ z < wl.heap.size) 47 wl (.slice ao k co) (ds.take k))) (fun _ i _ => ds.length - (intOf i).toNat)
  case atStart => exact ⟨0, _, _, Nat.zero_le _, rfl, rfl, belowA _ _, AccP.wk (by simpa [Hid] using HM.out) (fun k hk => by simp at hk ⊢; omega)⟩
  case round =>
    clear HM
    obtain ⟨k, ao, co, hk, rfl, rfl, hbl, hac⟩ := hrel
    have hsr := (St.start w).step hbl.out
    have HAC := hac
    have hb0 := hbl.out.size
    by_cases hlt : k < ds.length
    · have hkl : (k : Int) < ds.length := by omega
      obtain ⟨b, o, u0, rfl, q0, hx⟩ := rdSl_one rfl (rdSl_mono hsr.bel HR.out) k hlt
      obtain ⟨a0, c0, rfl, _⟩ := rd_list hx
      have HX := Lib.hid hx
      have HXL := Lib.hid (HL.out _ (List.getElem_mem hlt))
      have HTK := Lib.hid (show ds.take k ++ [ds[k]] = ds.take (k + 1) from (List.take_succ_eq_append_getElem hlt).symm)
      have HLK := Lib.hid (show (ds.take k).length = k by rw [List.length_take]; omega)
      have HBL := Lib.hid hbl.out
      clear hx
      generalize ds[k] = D at *
      go_wp2_with fail
      refine (l00Own_c D _ _ HX.out (by have := HXL.out; omega)).mono ?_
      rintro e w4 ⟨v4, rfl, hA4, hb4⟩
      obtain ⟨a4, c4, rfl, _⟩ := hA4.len
      have HI4 := Lib.hid ((hA4.mono (belowA w4 (.cells #[.slice a4 D.length c4] 47))).fresh.ip)
      have HAC4 := Lib.hid (AccP.mono HAC.out (hb4.trans ((belowA w4 (.cells #[.slice a4 D.length c4] 47)).mono hb4.size)))
      have HB4 := Lib.hid (HBL.out.trans ((hb4.trans ((belowA w4 (.cells #[.slice a4 D.length c4] 47)).mono hb4.size)).mono HBL.out.size))
      have hz4 := hb4.size
      clear hA4 hb4
      go_wp2_with (at_builtin; refine wpList_append_accP _ rfl _ _ _ rfl E_lists rfl HAC4.out HI4.out (fun z h1 h2 => by have h3 := h1.2; have h4 := h2.1; omega) ⟨w4.heap.size, 0, none⟩ 1 rfl (news1 (cell_at_block (heap_alloc_new _ _))) (by rw [HLK.out]; omega) ?_; simp only [HLK.out, HTK.out]; intro a8 c8 w8 hA8 hB8)
      have hz8 := hB8.size
      have HA8 := Lib.hid (AccP.wk hA8.tight (C := fun z => w.heap.size ≤ z ∧ z < w8.heap.size) (fun z hz => ⟨by
        rcases hz.1 with h | h | h
        · exact h.1
        · have := h.1; omega
        · rw [h]; simp; omega, hz.2⟩))
      have HB8 := Lib.hid (HB4.out.trans (hB8.below (B := w.heap.size) (fun z hz => hz.1) HB4.out.size))
      clear hA8 hB8
      go_wp2_with fail
      go_roundw
      case rel => exact ⟨k + 1, a8, c8, hlt, by go_num, rfl, HB8.out, HA8.out⟩
      case measure => simp [intOf]; omega
    · obtain rfl : k = ds.length := by omega
      have hnl : ¬ ((ds.length : Int) < ds.length) := by omega
      have HF := Lib.hid (show AccP (fun z => w.heap.size ≤ z ∧ z < wr.heap.size) 47 wr (.slice ao ds.length co) ds from by
        have h := hac.out
        rwa [List.take_length] at h)
      have HBF := Lib.hid hbl.out
      go_wp2_with fail
      go_ret
      exact ⟨_, rfl, HF.out, HBF.out⟩

end Go.Proofs.YtamkfnkikiekaaaGreat

/-
  PLAIN LAW: making domains consistent along the constraints.
-/
namespace Go.Proofs.YtamkfnkikiekaaaGreat
open Go.RowKit
set_option linter.unusedSimpArgs false
set_option linter.unusedVariables false

abbrev ArcS := List (List Int) × List (Int × Int × Int)
/-- Value a at place p of constraint ci, whose variable is v: kept if supported, else struck and noted. -/
def stepA (ts : List (List Int)) (sc : List Int) (ci p v : Nat) (s : ArcS) (a : Int) : ArcS :=
  if supB ts sc s.1 p a then s else (s.1.set v ((s.1.getD v []).filter (fun x => x != a)), s.2 ++ [((v : Int), a, (ci : Int))])
def placeA (ts : List (List Int)) (sc : List Int) (ci : Nat) (s : ArcS) (p : Nat) : ArcS := (s.1.getD (sc.getD p 0).toNat []).foldl (stepA ts sc ci p (sc.getD p 0).toNat) s
def conA (rs : List RelT) (cs : List OpT) (s : ArcS) (k : Nat) : ArcS := (List.range (cs.getD k (0, [])).2.length).foldl (placeA (rs.getD (cs.getD k (0, [])).1.toNat (0, [])).2 (cs.getD k (0, [])).2 k) s
def roundA (rs : List RelT) (cs : List OpT) (s : ArcS) : ArcS := (List.range cs.length).foldl (conA rs cs) s
def arcsA (rs : List RelT) (cs : List OpT) : Nat → ArcS → ArcS
  | 0, s => s
  | n + 1, s => if (roundA rs cs s).2.length = s.2.length then roundA rs cs s else arcsA rs cs n (roundA rs cs s)

theorem foldl_range_succ {α : Type} (f : α → Nat → α) (s : α) (n : Nat) : (List.range (n + 1)).foldl f s = f ((List.range n).foldl f s) n := by
  rw [List.range_succ, List.foldl_append]; rfl
theorem foldl_take_succ {α β : Type} (f : α → β → α) (s : α) (l : List β) {k : Nat} (hk : k < l.length) : (l.take (k + 1)).foldl f s = f ((l.take k).foldl f s) l[k] := by
  rw [List.take_succ_eq_append_getElem hk, List.foldl_append]; rfl
theorem sum_set (l : List (List Int)) (x : List Int) : ∀ (i : Nat) (h : i < l.length), ((l.set i x).map List.length).sum + l[i].length = (l.map List.length).sum + x.length := by
  induction l with
  | nil => intro i h; cases h
  | cons y l ih =>
    intro i h
    cases i with
    | zero => simp; omega
    | succ i =>
      have := ih i (by simpa using h)
      simp only [List.set_cons_succ, List.map_cons, List.sum_cons, List.getElem_cons_succ]
      omega
theorem filter_lt {l : List Int} {a : Int} (h : a ∈ l) : (l.filter (fun x => x != a)).length + 1 ≤ l.length := by
  induction l with
  | nil => cases h
  | cons y l ih =>
    by_cases hy : y = a
    · have h1 : (y != a) = false := by simp [hy]
      have := List.length_filter_le (fun x => x != a) l
      rw [List.filter_cons, h1, List.length_cons]
      simp only [Bool.false_eq_true, if_false]
      omega
    · have h1 : (y != a) = true := by simp [hy]
      have h2 : a ∈ l := by
        rcases List.mem_cons.1 h with h | h
        · exact absurd h.symm hy
        · exact h
      have := ih h2
      rw [List.filter_cons, h1]
      simp only [if_true, List.length_cons]
      omega
/-- Domains as they are kept: one a variable, each value once, not long; and what bounds the steps. -/
structure ArcOk (V C : Nat) (s : ArcS) : Prop where
  len : s.1.length = V
  small : ∀ d, d ∈ s.1 → d.length ≤ 1048576
  nodup : ∀ d, d ∈ s.1 → d.Nodup
  pot : s.2.length + (s.1.map List.length).sum ≤ C
theorem stepA_ok {V C : Nat} {ts : List (List Int)} {sc : List Int} {ci p v : Nat} {s : ArcS} {a : Int} (h : ArcOk V C s) (hv : v < V) (ha : a ∈ s.1.getD v []) : ArcOk V C (stepA ts sc ci p v s a) := by
  unfold stepA
  split
  · exact h
  · have hl : v < s.1.length := by rw [h.len]; exact hv
    have hg : s.1.getD v [] = s.1[v] := by simp [List.getD, hl]
    rw [hg] at ha ⊢
    have hm : s.1[v] ∈ s.1 := List.getElem_mem hl
    refine ⟨by simpa using h.len, fun d hd => ?_, fun d hd => ?_, ?_⟩
    · rcases List.mem_or_eq_of_mem_set hd with h1 | rfl
      · exact h.small d h1
      · exact Nat.le_trans (List.length_filter_le _ _) (h.small _ hm)
    · rcases List.mem_or_eq_of_mem_set hd with h1 | rfl
      · exact h.nodup d h1
      · exact (h.nodup _ hm).filter _
    · have h1 := sum_set s.1 (s.1[v].filter (fun x => x != a)) v hl
      have h2 := filter_lt ha
      have h3 := h.pot
      simp only [List.length_append, List.length_cons, List.length_nil]
      omega
theorem stepA_keep {V C : Nat} {ts : List (List Int)} {sc : List Int} {ci p v : Nat} {s : ArcS} {a b : Int} (h : ArcOk V C s) (hv : v < V) (hb : b ∈ s.1.getD v []) (hab : b ≠ a) : b ∈ (stepA ts sc ci p v s a).1.getD v [] := by
  unfold stepA
  split
  · exact hb
  · have hl : v < s.1.length := by rw [h.len]; exact hv
    have : (s.1.set v ((s.1.getD v []).filter (fun x => x != a))).getD v [] = (s.1.getD v []).filter (fun x => x != a) := by simp [List.getD, hl]
    simp only [this]
    rw [List.mem_filter]
    exact ⟨hb, by simp [hab]⟩
theorem stepA_more (ts : List (List Int)) (sc : List Int) (ci p v : Nat) (s : ArcS) (a : Int) : s.2.length ≤ (stepA ts sc ci p v s a).2.length ∧ ((stepA ts sc ci p v s a).2.length = s.2.length → stepA ts sc ci p v s a = s) := by
  unfold stepA
  split
  · exact ⟨Nat.le_refl _, fun _ => rfl⟩
  · simp
theorem foldl_more {β : Type} {f : ArcS → β → ArcS} (hf : ∀ s b, s.2.length ≤ (f s b).2.length) : ∀ (l : List β) (s : ArcS), s.2.length ≤ (l.foldl f s).2.length
  | [], _ => Nat.le_refl _
  | b :: l, s => Nat.le_trans (hf s b) (foldl_more hf l (f s b))
theorem placeA_more (ts : List (List Int)) (sc : List Int) (ci : Nat) (s : ArcS) (p : Nat) : s.2.length ≤ (placeA ts sc ci s p).2.length := foldl_more (fun s a => (stepA_more ts sc ci p _ s a).1) _ s
theorem conA_more (rs : List RelT) (cs : List OpT) (s : ArcS) (k : Nat) : s.2.length ≤ (conA rs cs s k).2.length := foldl_more (fun s p => placeA_more _ _ _ s p) _ s
theorem roundA_more (rs : List RelT) (cs : List OpT) (s : ArcS) : s.2.length ≤ (roundA rs cs s).2.length := foldl_more (fun s k => conA_more rs cs s k) _ s
/-- Behind j values of the copied domain L. -/
structure ValInv (V C : Nat) (v : Nat) (L : List Int) (j : Nat) (s : ArcS) : Prop where
  ok : ArcOk V C s
  mem : ∀ i (h : i < L.length), j ≤ i → L[i] ∈ s.1.getD v []
theorem ValInv.step {V C v j : Nat} {L : List Int} {ts : List (List Int)} {sc : List Int} {ci p : Nat} {s : ArcS} (h : ValInv V C v L j s) (hv : v < V) (hL : L.Nodup) (hj : j < L.length) : ValInv V C v L (j + 1) (stepA ts sc ci p v s L[j]) := by
  refine ⟨stepA_ok h.ok hv (h.mem j hj (Nat.le_refl _)), fun i hi hji => stepA_keep h.ok hv (h.mem i hi (by omega)) (fun e => ?_)⟩
  exact (List.pairwise_iff_getElem.1 hL j i hj hi (by omega)) e.symm
theorem ValInv.start {V C v : Nat} {s : ArcS} (h : ArcOk V C s) (hv : v < V) : ValInv V C v (s.1.getD v []) 0 s := ⟨h, fun i hi _ => List.getElem_mem hi⟩
theorem getD_ok {V C v : Nat} {s : ArcS} (h : ArcOk V C s) (hv : v < V) : s.1.getD v [] ∈ s.1 := by
  have hl : v < s.1.length := by rw [h.len]; exact hv
  rw [show s.1.getD v [] = s.1[v] by simp [List.getD, hl]]
  exact List.getElem_mem hl

end Go.Proofs.YtamkfnkikiekaaaGreat

/-
  PLAIN: the memory of a run that makes domains consistent: the domains in place, the steps in a row of their own, boxes.
-/
namespace Go.Proofs.YtamkfnkikiekaaaGreat
open Go.RowKit
open Rep (Rd Own sz)
set_option linter.unusedSimpArgs false
set_option linter.unusedVariables false

def flat3 (l : List (Int × Int × Int)) : List Value := l.flatMap (fun t => [.int .i64 t.1, .int .i64 t.2.1, .int .i64 t.2.2])
theorem flat3_snoc (l : List (Int × Int × Int)) (a b c : Int) : flat3 (l ++ [(a, b, c)]) = flat3 l ++ [.int .i64 a, .int .i64 b, .int .i64 c] := by simp [flat3]
/-- The first world's memory is read; blocks of AD and those from B0 on are the run's. -/
structure ArcW (w0 : World) (AD : Nat → Prop) (B0 g cd V : Nat) (eS : TypeId) (bx : List (Nat × Array Value × TypeId)) (wl : World) (gs co : Nat) (s : ArcS) : Prop where
  st : St w0 wl.heap.size wl bx
  b0 : B0 ≤ wl.heap.size
  lo : w0.heap.size ≤ B0 ∧ (∀ z, AD z → w0.heap.size ≤ z)
  dom : Ip (fun z => ((AD z ∨ B0 ≤ z) ∧ z ≠ gs) ∧ ∀ x, x ∈ bx → x.1 ≠ z) wl [.slice (some ⟨g, 0, none⟩) V cd] s.1
  row : wl.ownsRow 0 eS 3 (.slice (some ⟨gs, 0, none⟩) s.2.length co) s.2.length (flat3 s.2)
  gs : (B0 ≤ gs ∧ gs < wl.heap.size) ∧ ∀ x, x ∈ bx → x.1 ≠ gs
section
variable {w0 : World} {AD : Nat → Prop} {B0 g cd V : Nat} {eS : TypeId} {bx : List (Nat × Array Value × TypeId)} {wl : World} {gs co : Nat} {s : ArcS}
theorem Ip.tight {α : Type} [Rep α] {A : Nat → Prop} {w : World} {vs : List Value} {x : α} (h : Ip A w vs x) : Ip (fun z => A z ∧ z < w.heap.size) w vs x := by
  obtain ⟨ps, h1, h2, h3⟩ := h
  exact ⟨ps, h1, h2, fun k hk => ⟨h3 k hk, Rep.own_lt h1 k hk⟩⟩
theorem ArcW.step (h : ArcW w0 AD B0 g cd V eS bx wl gs co s) {w1 : World} (hb : Below wl.heap.size wl w1) : ArcW w0 AD B0 g cd V eS bx w1 gs co s :=
  ⟨(h.st.step hb).up hb.size (Nat.le_refl _), Nat.le_trans h.b0 hb.size, h.lo, h.dom.mono hb, ownsRow_below h.row hb, ⟨⟨h.gs.1.1, Nat.lt_of_lt_of_le h.gs.1.2 hb.size⟩, h.gs.2⟩⟩
theorem ArcW.rd (h : ArcW w0 AD B0 g cd V eS bx wl gs co s) : Rd wl [.slice (some ⟨g, 0, none⟩) V cd] s.1 := h.dom.rd
theorem ArcW.bel (h : ArcW w0 AD B0 g cd V eS bx wl gs co s) : Below w0.heap.size w0 wl := h.st.bel
theorem ArcW.box (h : ArcW w0 AD B0 g cd V eS bx wl gs co s) (vs : Array Value) (ty : TypeId) : ArcW w0 AD B0 g cd V eS (bx ++ [(wl.heap.size, vs, ty)]) (wl.alloc (.cells vs ty)) gs co s := by
  have hb := belowA wl (.cells vs ty)
  refine ⟨(h.st.alloc vs ty rfl).up (by simp) (Nat.le_refl _), by have := h.b0; simp; omega, h.lo, ?_, ownsRow_below h.row hb, ⟨⟨h.gs.1.1, by have := h.gs.1.2; simp; omega⟩, ?_⟩⟩
  · refine (h.dom.tight.mono hb).wk (fun z hz => ⟨hz.1.1, fun x hx => ?_⟩)
    rcases List.mem_append.1 hx with hx | hx
    · exact hz.1.2 x hx
    · rw [List.mem_singleton] at hx
      subst hx
      have := hz.2
      simp only
      omega
  · intro x hx
    rcases List.mem_append.1 hx with hx | hx
    · exact h.gs.2 x hx
    · rw [List.mem_singleton] at hx
      subst hx
      have := h.gs.1.2
      simp only
      omega
theorem ArcW.sub (h : ArcW w0 AD B0 g cd V eS bx wl gs co s) {bx' : List (Nat × Array Value × TypeId)} (hs : ∀ x, x ∈ bx' → x ∈ bx) : ArcW w0 AD B0 g cd V eS bx' wl gs co s :=
  ⟨h.st.sub hs, h.b0, h.lo, h.dom.wk (fun z hz => ⟨hz.1, fun x hx => hz.2 x (hs x hx)⟩), h.row, ⟨h.gs.1, fun x hx => h.gs.2 x (hs x hx)⟩⟩
/-- A domain is written anew. -/
theorem ArcW.put (h : ArcW w0 AD B0 g cd V eS bx wl gs co s) {w1 : World} (hb : Below wl.heap.size wl w1) {v : Nat} (hv : v < s.1.length) {vn : Value} {d : List Int} (hd : Fresh wl.heap.size w1 [vn] d) (hV : s.1.length = V) :
    ArcW w0 AD B0 g cd V eS bx (w1.setCell ⟨g, v, none⟩ vn) gs co (s.1.set v d, s.2) := by
  have h1 := h.step hb
  have hg : ((AD g ∨ B0 ≤ g) ∧ g ≠ gs) ∧ ∀ x, x ∈ bx → x.1 ≠ g := by
    obtain ⟨g', o, c, cur, e, e1, _, _, _, hA, _⟩ := ip_form h1.dom (by omega)
    simp only [Value.slice.injEq, Option.some.injEq, Addr.mk.injEq] at e1
    obtain ⟨⟨rfl, -, -⟩, -, -⟩ := e1
    exact hA
  have hs : (w1.setCell ⟨g, v, none⟩ vn).heap.size = w1.heap.size := by simp [World.setCell]
  refine ⟨?_, by rw [hs]; exact h1.b0, h.lo, ?_, ?_, ⟨by rw [hs]; exact h1.gs.1, h1.gs.2⟩⟩
  · have hbg : w0.heap.size ≤ g := by
      rcases hg.1.1 with h2 | h2
      · exact h.lo.2 g h2
      · exact Nat.le_trans h.lo.1 h2
    refine ⟨h1.st.bel.setCell hbg _, by rw [hs]; exact h1.st.lo, by rw [hs]; exact Nat.le_refl _, fun x hx => ?_⟩
    have h2 := h1.st.box x hx
    refine ⟨h2.1, by rw [hs]; exact h2.2.1, ?_⟩
    rw [Below.heap_setCell _ _ _ _ (fun e => hg.2 x hx (by simpa using e))]
    exact h2.2.2
  · have h3 := ip_put (h.dom.tight.mono hb) v hv (Ip.wk hd.ip (B := fun z => wl.heap.size ≤ z) (fun k hk => hk.1)) (fun k hk hk2 => by have := hk.2; omega)
    · have e : putCells w1 g (0 + v * sz (List Int)) [vn] = w1.setCell ⟨g, v, none⟩ vn := by simp [putCells, sz]
      rw [e] at h3
      refine Ip.wk h3 (fun z hz => ?_)
      rcases hz with hz | hz
      · exact hz.1
      · refine ⟨⟨.inr (by have := h.b0; omega), by have := h.gs.1.2; omega⟩, fun x hx => ?_⟩
        have := (h.st.box x hx).2.1
        omega
  · exact row_frame h1.row (fun k hk => Below.heap_setCell _ _ _ _ (fun e => by
      simp only [Value.ownBlock, Option.some.injEq] at hk
      simp only at e
      exact hg.1.2 (by omega)))
/-- A step is noted. -/
theorem ArcW.snoc (h : ArcW w0 AD B0 g cd V eS bx wl gs co s) {w1 : World} {g1 c1 : Nat} {a b c : Int} (hat : gs = g1 ∨ g1 = wl.heap.size) (hb : But [gs] wl w1) (hlt : g1 < w1.heap.size)
    (hrow : w1.ownsRow 0 eS 3 (.slice (some ⟨g1, 0, none⟩) (s.2.length + 1) c1) (s.2.length + 1) (flat3 s.2 ++ [.int .i64 a, .int .i64 b, .int .i64 c])) : ArcW w0 AD B0 g cd V eS bx w1 g1 c1 (s.1, s.2 ++ [(a, b, c)]) := by
  have hsz := hb.size
  have hlo : w0.heap.size ≤ gs := Nat.le_trans h.lo.1 h.gs.1.1
  refine ⟨(h.st.butIv hb (fun k hk => by simp at hk; omega) (fun x hx hp => by
    simp only [List.mem_singleton] at hp
    exact h.gs.2 x hx hp)).up hsz (Nat.le_refl _), Nat.le_trans h.b0 hsz, h.lo, ?_, ?_, ⟨⟨?_, hlt⟩, fun x hx => ?_⟩⟩
  · refine ((h.dom.tight).butP (hb.butP (A := fun z => z = gs) (fun k hk => by simpa using hk)) (fun z hz => hz.1.1.2)).wk (fun z hz => ⟨⟨hz.1.1.1, ?_⟩, hz.1.2⟩)
    rcases hat with h1 | h1
    · rw [← h1]; exact hz.1.1.2
    · have := hz.2; omega
  · rw [List.length_append, flat3_snoc]; exact hrow
  · rcases hat with h1 | h1
    · rw [← h1]; exact h.gs.1.1
    · rw [h1]; exact h.b0
  · rcases hat with h1 | h1
    · rw [← h1]; exact h.gs.2 x hx
    · have := (h.st.box x hx).2.1
      omega
end

end Go.Proofs.YtamkfnkikiekaaaGreat

/-
  CONTRACT: making domains consistent: the program's side.
-/
namespace Go.Proofs.YtamkfnkikiekaaaGreat
open Go.RowKit Go.Shelf Go.IntWalk
open Rep (Rd Own sz)
set_option linter.unusedSimpArgs false
set_option linter.unusedVariables false

theorem ArcW.own {w0 : World} {AD : Nat → Prop} {B0 g cd V : Nat} {eS : TypeId} {bx : List (Nat × Array Value × TypeId)} {wl w1 : World} {gs co : Nat} {s : ArcS} (h : ArcW w0 AD B0 g cd V eS bx wl gs co s) (hb : Below wl.heap.size wl w1)
    {gL : Nat} {cur : Array Value} {e : TypeId} (h1 : wl.heap.size ≤ gL) (h2 : w1.heap[gL]? = some (.cells cur e (0, 0))) : ArcW w0 AD B0 g cd V eS (bx ++ [(gL, cur, e)]) w1 gs co s := by
  have h3 := h.step hb
  have hlt : gL < w1.heap.size := (Array.getElem?_eq_some_iff.1 h2).1
  refine ⟨⟨h3.st.bel, h3.st.lo, h3.st.hi, fun x hx => ?_⟩, h3.b0, h.lo, ?_, h3.row, ⟨h3.gs.1, fun x hx => ?_⟩⟩
  · rcases List.mem_append.1 hx with hx | hx
    · exact h3.st.box x hx
    · rw [List.mem_singleton] at hx
      subst hx
      exact ⟨by have := h.st.lo; simp only; omega, hlt, h2⟩
  · refine (h.dom.tight.mono hb).wk (fun z hz => ⟨hz.1.1, fun x hx => ?_⟩)
    rcases List.mem_append.1 hx with hx | hx
    · exact hz.1.2 x hx
    · rw [List.mem_singleton] at hx
      subst hx
      have := hz.2
      simp only
      omega
  · rcases List.mem_append.1 hx with hx | hx
    · exact h.gs.2 x hx
    · rw [List.mem_singleton] at hx
      subst hx
      have := h.gs.1.2
      simp only
      omega
theorem conOk_len0 {t : Tmpl} {vars : Int} {c : OpT} (ht : tmplOk t = true) (h : conOk t vars c = true) : c.2.length ≤ 4 := by
  simp only [conOk, Bool.and_eq_true] at h
  have h1 := inB_true h.1
  have h2 := valsOk_len h.2
  have hi : c.1.toNat < t.2.length := by omega
  rw [show t.2.getD c.1.toNat (0, []) = t.2[c.1.toNat] by simp [List.getD, hi]] at h2
  have h3 := (relOk_get ((tmplOk_get ht).2.2 _ (List.getElem_mem hi))).2.1
  omega
/-- What a right instance says of a constraint. -/
theorem con_facts {t : Tmpl} {x : Inst} (h : instOk t x = true) {k : Nat} (hk : k < x.2.length) : ∃ n : Nat, x.2[k].1 = (n : Int) ∧ n < t.2.length ∧ (∀ y, y ∈ (t.2.getD n (0, [])).2 → y.length = x.2[k].2.length) ∧ (∀ v, v ∈ x.2[k].2 → 0 ≤ v ∧ v < x.1) ∧ x.2[k].2.length ≤ 4 := by
  have ht := (instOk_get h).1
  have hc := (instOk_get h).2.2.2 _ (List.getElem_mem hk)
  have h4 := conOk_len0 ht hc
  simp only [conOk, Bool.and_eq_true] at hc
  have h1 := inB_true hc.1
  have hi : x.2[k].1.toNat < t.2.length := by omega
  refine ⟨x.2[k].1.toNat, by omega, hi, fun y hy => ?_, fun v hv => ?_, h4⟩
  · have h2 := valsOk_len hc.2
    rw [show t.2.getD x.2[k].1.toNat (0, []) = t.2[x.2[k].1.toNat] by simp [List.getD, hi]] at hy h2
    have h3 := relOk_val ((tmplOk_get ht).2.2 _ (List.getElem_mem hi)) y hy
    have h5 := (relOk_get ((tmplOk_get ht).2.2 _ (List.getElem_mem hi))).2.1
    omega
  · have h2 := hc.2
    simp only [valsOk, Bool.and_eq_true, List.all_eq_true] at h2
    have := inB_true (h2.2 v hv)
    omega
/-- The number of elements that a slice's header tells. -/
def lnV : Value → Nat
  | .slice _ n _ => n
  | _ => 0
def boV : Value → Nat
  | .bool true => 1
  | _ => 0
theorem never_c (w : World) : Calls Tryz.prog 24 #[] w fun e w' => e = .returned (.bool false) ∧ w = w' := by
  go_enter Tryz.func24, Tryz.ntmps24
  go_wp2_with fail
  go_ret
  exact ⟨rfl, rfl⟩
set_option maxRecDepth 100000 in
set_option maxHeartbeats 16000000 in
theorem makeArcs_c (t : Tmpl) (x : Inst) (ds : List (List Int)) (t0 t1 x0 x1 : Value) (g cd V C : Nat) (AD : Nat → Prop) (w0 w : World) (hb : Below w0.heap.size w0 w) (ht : Rd w0 [t0, t1] t) (hx : Rd w0 [x0, x1] x) (hok : instOk t x = true)
    (hd : Ip AD w [.slice (some ⟨g, 0, none⟩) V cd] ds) (hAD : ∀ z, AD z → w0.heap.size ≤ z) (hA : ArcOk V C (ds, [])) (hV : (V : Int) = x.1) (hC : C ≤ 1000000000) :
    Calls Tryz.prog 23 #[.agg #[t0, t1], .agg #[x0, x1], .slice (some ⟨g, 0, none⟩) V cd, .func (.func 24) #[] #[]] w fun e w' => ∃ gs co, e = .returned (.slice (some ⟨gs, 0, none⟩) (arcsA t.2 x.2 (C + 1) (ds, [])).2.length co) ∧ ArcW w0 AD w.heap.size g cd V 41 [] w' gs co (arcsA t.2 x.2 (C + 1) (ds, [])) := by
  obtain ⟨size, rs⟩ := t
  obtain ⟨vars, cs⟩ := x
  simp only at hV
  have HOK := Lib.hid hok
  have zt := rd_cons rfl ht
  obtain ⟨rfl, _⟩ := rd_i1 zt.1
  obtain ⟨at0, ct0, rfl, _⟩ := rd_list zt.2
  have zx := rd_cons rfl hx
  obtain ⟨rfl, _⟩ := rd_i1 zx.1
  obtain ⟨ax, cx, rfl, hcs⟩ := rd_list zx.2
  have hcl := (instOk_get hok).2.2.1
  simp only at hcl
  have HT := Lib.hid ht
  have HCS := Lib.hid hcs
  have HADB := Lib.hid (And.intro hb.size hAD)
  have HA := Lib.hid hA
  have HFC := Lib.hid (fun (k : Nat) (hk : k < cs.length) => con_facts hok hk)
  have eg : ∀ args w, (callFunc 24 args).run Tryz.prog w = .ok (.enter 24 args) w := enters_of Tryz.func24 (by kernel_rfl) rfl
  have hs0 := (St.start w0).step hb
  have HD := Lib.hid hd
  clear ht hx zt zx hcs hok hAD hA hd hb
  have hs2 := hs0.alloc #[.int .i64 size, .slice at0 rs.length ct0] 26 (n := w.heap.size) (by simp)
  have k0_0 := hs2.cellAt 0 rfl 0 rfl
  have k0_1 := hs2.cellAt 0 rfl 1 rfl
  have hs3 := hs2.alloc #[.int .i64 vars, .slice ax cs.length cx] 29 (n := w.heap.size + 1) (by simp)
  clear k0_0 k0_1
  have k0_0 := hs3.cellAt 0 rfl 0 rfl
  have k0_1 := hs3.cellAt 0 rfl 1 rfl
  have k1_0 := hs3.cellAt 1 rfl 0 rfl
  have k1_1 := hs3.cellAt 1 rfl 1 rfl
  have HW := Lib.hid (show ArcW w0 AD w.heap.size g cd V 41 [(w.heap.size, #[.int .i64 size, .slice at0 rs.length ct0], 26), (w.heap.size + 1, #[.int .i64 vars, .slice ax cs.length cx], 29)] (((w.alloc (.cells #[.int .i64 size, .slice at0 rs.length ct0] 26)).alloc (.cells #[.int .i64 vars, .slice ax cs.length cx] 29)).alloc (.cells #[] 41)) (w.heap.size + 1 + 1) 0 (ds, []) from by
    have h3 := (hs3.step (belowA ((w.alloc (.cells #[.int .i64 size, .slice at0 rs.length ct0] 26)).alloc (.cells #[.int .i64 vars, .slice ax cs.length cx] 29)) (.cells #[] 41)))
    refine ⟨h3.up (by simp) (Nat.le_refl _), by simp; omega, HADB.out, ?_, by have h := row_made (size := 3) ((w.alloc (.cells #[.int .i64 size, .slice at0 rs.length ct0] 26)).alloc (.cells #[.int .i64 vars, .slice ax cs.length cx] 29)) 41; simpa [flat3] using h, ⟨⟨by omega, by simp⟩, fun x hx => by simp at hx; rcases hx with rfl | rfl <;> simp <;> omega⟩⟩
    refine ((HD.out.tight.mono ((belowA w _).trans ((belowA _ _).mono (by simp)))).mono (belowA ((w.alloc (.cells #[.int .i64 size, .slice at0 rs.length ct0] 26)).alloc (.cells #[.int .i64 vars, .slice ax cs.length cx] 29)) _)).wk (fun z hz => ⟨⟨.inl hz.1, by have := hz.2; omega⟩, fun x hx => ?_⟩)
    have := hz.2
    simp at hx
    rcases hx with rfl | rfl <;> (simp only; omega))
  clear HD
  go_enter Tryz.func23, Tryz.ntmps23
  go_wp2_with fail
  go_loopw [9, 10] (fun st ch wl => ∃ (s : ArcS) (gs co : Nat) (b : Bool) (n : Nat), st = .slice (some ⟨gs, 0, none⟩) s.2.length co ∧ ch = .bool b ∧ Hid (ArcW w0 AD w.heap.size g cd V 41 [(w.heap.size, #[.int .i64 size, .slice at0 rs.length ct0], 26), (w.heap.size + 1, #[.int .i64 vars, .slice ax cs.length cx], 29)] wl gs co s) ∧ Hid (ArcOk V C s) ∧ Hid ((b = true → arcsA rs cs (C + 1) (ds, []) = arcsA rs cs n s ∧ C + 1 ≤ n + s.2.length) ∧ (b = false → arcsA rs cs (C + 1) (ds, []) = s))) (fun st ch _ => 2 * (C - lnV st) + boV ch)
  case atStart => exact ⟨(ds, []), _, _, true, C + 1, rfl, rfl, HW.out, HA.out, ⟨fun _ => ⟨rfl, by simp⟩, fun h => by cases h⟩⟩
  case round =>
    clear HW HA
    obtain ⟨s, gs, co, b, n, rfl, rfl, hw, hA, hrun⟩ := hrel
    have hs1 := hw.out.st
    have k0_0 := hs1.cellAt 0 rfl 0 rfl
    have k0_1 := hs1.cellAt 0 rfl 1 rfl
    have k1_0 := hs1.cellAt 1 rfl 0 rfl
    have k1_1 := hs1.cellAt 1 rfl 1 rfl
    cases b with
    | false =>
      have HR := Lib.hid (show s = arcsA rs cs (C + 1) (ds, []) from (hrun.out.2 rfl).symm)
      have HW2 := Lib.hid (hw.out.sub (bx' := []) (fun x hx => by cases hx))
      go_wp2_with fail
      go_ret
      rw [← HR.out]
      exact ⟨gs, co, rfl, HW2.out⟩
    | true =>
      have hr2 := hrun.out.1 rfl
      have HR := Lib.hid hr2
      have hpot := hA.out.pot
      clear hr2 hrun
      go_wp2_with fail
      go_loopw [9, 10, 22] (fun st ch i wl => ∃ (k : Nat) (u : ArcS) (gs co : Nat), k ≤ cs.length ∧ i = .int .i64 k ∧ st = .slice (some ⟨gs, 0, none⟩) u.2.length co ∧ ch = .bool (decide (s.2.length < u.2.length)) ∧ Hid (ArcW w0 AD w.heap.size g cd V 41 [(w.heap.size, #[.int .i64 size, .slice at0 rs.length ct0], 26), (w.heap.size + 1, #[.int .i64 vars, .slice ax cs.length cx], 29)] wl gs co u) ∧ Hid (ArcOk V C u) ∧ Hid (u = (List.range k).foldl (conA rs cs) s)) (fun _ _ i _ => cs.length - (intOf i).toNat)
      case atStart => exact ⟨0, s, gs, co, Nat.zero_le _, rfl, rfl, by simp, hw.out, hA.out, rfl⟩
      case round =>
        obtain ⟨k, u, gs, co, hk, rfl, rfl, rfl, hw, hA, hu⟩ := hrel
        have hs1 := hw.out.st
        have k0_0 := hs1.cellAt 0 rfl 0 rfl
        have k0_1 := hs1.cellAt 0 rfl 1 rfl
        have k1_0 := hs1.cellAt 1 rfl 0 rfl
        have k1_1 := hs1.cellAt 1 rfl 1 rfl
        by_cases hlt : k < cs.length
        · have hkl : (k : Int) < cs.length := by omega
          obtain ⟨nr, hcn, hnr, hyl, hsv, hsc4⟩ := HFC.out k hlt
          obtain ⟨b, o, u0, u1, rfl, p0, p1, hy⟩ := rdSl_two rfl HCS.out k hlt
          have hyz := rd_cons rfl hy
          obtain ⟨rfl, _⟩ := rd_i1 hyz.1
          obtain ⟨a1, c1, rfl, _⟩ := rd_list hyz.2
          have HSC := Lib.hid hyz.2
          have HCON := Lib.hid hy
          have HRS := Lib.hid (show conA rs cs u k = (List.range cs[k].2.length).foldl (placeA (rs.getD nr (0, [])).2 cs[k].2 k) u by
            unfold conA
            rw [show cs.getD k (0, []) = cs[k] by simp [List.getD, hlt], hcn, Int.toNat_natCast])
          have HYL := Lib.hid hyl
          have HSV := Lib.hid hsv
          have HNR := Lib.hid hnr
          clear hyl hsv hnr hy hyz
          generalize hCC : cs[k] = CC at *
          obtain ⟨ci, sc⟩ := CC
          simp only at hcn p0 p1 HSC HCON HRS HYL HSV hsc4
          subst hcn
          have HCC := Lib.hid hCC
          clear hCC
          have q0 := cellL hs1.bel p0
          have q1 := cellL hs1.bel p1
          clear p0 p1
          obtain ⟨wc, hwc⟩ : ∃ x, x = wr := ⟨_, rfl⟩
          subst hwc
          have HWB := Lib.hid (hw.out.box #[.int .i64 nr, .slice a1 sc.length c1] 60)
          have hs4 := hs1.alloc #[.int .i64 nr, .slice a1 sc.length c1] 60 (n := wc.heap.size) (by simp)
          clear k0_0 k0_1 k1_0 k1_1
          have k0_0 := hs4.cellAt 0 rfl 0 rfl
          have k0_1 := hs4.cellAt 0 rfl 1 rfl
          have k1_0 := hs4.cellAt 1 rfl 0 rfl
          have k1_1 := hs4.cellAt 1 rfl 1 rfl
          have k2_0 := hs4.cellAt 2 rfl 0 rfl
          have k2_1 := hs4.cellAt 2 rfl 1 rfl
          go_wp2_with fail
          go_loopw [9, 10, 30] (fun st ch i wl => ∃ (p : Nat) (y : ArcS) (gs co : Nat), p ≤ sc.length ∧ i = .int .i64 p ∧ st = .slice (some ⟨gs, 0, none⟩) y.2.length co ∧ ch = .bool (decide (s.2.length < y.2.length)) ∧ Hid (ArcW w0 AD w.heap.size g cd V 41 [(w.heap.size, #[.int .i64 size, .slice at0 rs.length ct0], 26), (w.heap.size + 1, #[.int .i64 vars, .slice (some ⟨b, o, none⟩) cs.length cx], 29), (wc.heap.size, #[.int .i64 nr, .slice a1 sc.length c1], 60)] wl gs co y) ∧ Hid (ArcOk V C y) ∧ Hid (y = (List.range p).foldl (placeA (rs.getD nr (0, [])).2 sc k) u)) (fun _ _ i _ => sc.length - (intOf i).toNat)
          case atStart => exact ⟨0, u, gs, co, Nat.zero_le _, rfl, rfl, rfl, HWB.out, hA.out, rfl⟩
          case round =>
            clear HWB
            obtain ⟨p, y, gs, co, hp, rfl, rfl, rfl, hw2, hA2, hy2⟩ := hrel
            have hs2 := hw2.out.st
            have k0_0 := hs2.cellAt 0 rfl 0 rfl
            have k0_1 := hs2.cellAt 0 rfl 1 rfl
            have k1_0 := hs2.cellAt 1 rfl 0 rfl
            have k1_1 := hs2.cellAt 1 rfl 1 rfl
            have k2_0 := hs2.cellAt 2 rfl 0 rfl
            have k2_1 := hs2.cellAt 2 rfl 1 rfl
            by_cases hpl : p < sc.length
            · have hpI : (p : Int) < sc.length := by omega
              obtain ⟨b3, o3, rfl, qp0, _⟩ := rd_int_at HSC.out p hpl
              have hvv := HSV.out _ (List.getElem_mem hpl)
              obtain ⟨vn, hvn⟩ : ∃ vn : Nat, sc[p] = (vn : Int) := ⟨sc[p].toNat, by omega⟩
              have HPL := Lib.hid (show placeA (rs.getD nr (0, [])).2 sc k y p = (y.1.getD vn []).foldl (stepA (rs.getD nr (0, [])).2 sc k p vn) y by
                unfold placeA
                rw [show sc.getD p 0 = sc[p] by simp [List.getD, hpl], hvn, Int.toNat_natCast])
              rw [hvn] at hvv qp0
              have hvV : vn < V := by omega
              have hvI : (vn : Int) < V := by omega
              clear hvn
              have qp := cellL hs2.bel qp0
              obtain ⟨aD, cD, eD, hdr⟩ := rd_list hw2.out.rd
              simp only [Value.slice.injEq, Option.some.injEq] at eD
              obtain ⟨rfl, hVl, rfl⟩ := eD
              have hvl : vn < y.1.length := by omega
              obtain ⟨b4, o4, vd, e4, qd, hdn⟩ := rdSl_one rfl hdr vn hvl
              simp only [Option.some.injEq, Addr.mk.injEq, and_true] at e4
              obtain ⟨rfl, rfl⟩ := e4
              obtain ⟨a5, c5, rfl, _⟩ := rd_list hdn
              have HGD := Lib.hid (show y.1.getD vn [] = y.1[vn] by simp [List.getD, hvl])
              have HDS := Lib.hid (hA2.out.small _ (List.getElem_mem hvl))
              have HDN := Lib.hid hdn
              have HVI := Lib.hid (ValInv.start hA2.out hvV)
              have HND := Lib.hid (hA2.out.nodup _ (List.getElem_mem hvl))
              rw [HGD.out] at HPL HVI
              have HVL := Lib.hid hVl
              clear hVl hdr hdn qp0
              generalize y.1[vn] = D at *
              rw [Nat.zero_add] at qd
              go_wp2_with fail
              refine (cloneIntsA_c D _ _ HDN.out (by have := HDS.out; omega)).mono ?_
              rintro e wL ⟨vL, rfl, hAL, hbL⟩
              by_cases hD0 : D.length = 0
              · obtain ⟨aL, cL, rfl, _⟩ := hAL.len
                have HW3 := Lib.hid (hw2.out.step hbL)
                have HE := Lib.hid (show y = (List.range (p + 1)).foldl (placeA (rs.getD nr (0, [])).2 sc k) u by
                  rw [foldl_range_succ, ← hy2.out, HPL.out, List.length_eq_zero_iff.1 hD0]; rfl)
                rw [hD0]
                clear hAL hbL hD0
                go_wp2_with fail
                go_loopw [9, 10, 41] (fun st ch i wl => st = .slice (some ⟨gs, 0, none⟩) y.2.length co ∧ ch = .bool (decide (s.2.length < y.2.length)) ∧ i = .int .i64 0 ∧ Hid (ArcW w0 AD w.heap.size g cd V 41 [(w.heap.size, #[.int .i64 size, .slice at0 rs.length ct0], 26), (w.heap.size + 1, #[.int .i64 vars, .slice (some ⟨b, o, none⟩) cs.length cx], 29), (wc.heap.size, #[.int .i64 nr, .slice (some ⟨b3, o3, none⟩) sc.length c1], 60)] wl gs co y)) (fun _ _ _ _ => 0)
                case atStart => exact ⟨rfl, rfl, rfl, HW3.out⟩
                case round =>
                  obtain ⟨rfl, rfl, rfl, hw3⟩ := hrel
                  go_wp2_with fail
                  go_roundw
                  case rel => exact ⟨p + 1, y, gs, co, hpl, by go_num, rfl, rfl, hw3.out, hA2.out, HE.out⟩
                  case measure => simp [intOf]; omega
              · obtain ⟨hrowL, hbkL, hIL⟩ := acc_ints_get hAL
                rcases hrowL.2 with ⟨rfl, h⟩ | ⟨gL, capL, cur, rfl, hgb, hgh, hn2, hm, hsz, htk⟩
                · exact absurd h hD0
                have HW3 := Lib.hid (hw2.out.own hbL (hgb) hgh)
                have HCU := Lib.hid (fun (j : Nat) (hj : j < D.length) => show cur[j]? = some (.int .i64 D[j]) from by
                  have h1 : (cur.toList.take (D.length * 1))[j]? = (ivals D)[j]? := by rw [htk]
                  rw [Nat.mul_one, List.getElem?_take, if_pos hj, Array.getElem?_toList] at h1
                  rw [h1]; simp [ivals, hj])
                have HIL := Lib.hid hIL
                clear hAL hrowL hbkL hIL hgh hsz htk hn2 hm hgb
                go_wp2_with fail
                go_loopw [9, 10, 41] (fun st ch i wl => ∃ (j : Nat) (z : ArcS) (gs co : Nat), j ≤ D.length ∧ i = .int .i64 j ∧ st = .slice (some ⟨gs, 0, none⟩) z.2.length co ∧ ch = .bool (decide (s.2.length < z.2.length)) ∧ Hid (ArcW w0 AD w.heap.size g cd V 41 [(w.heap.size, #[.int .i64 size, .slice at0 rs.length ct0], 26), (w.heap.size + 1, #[.int .i64 vars, .slice (some ⟨b, o, none⟩) cs.length cx], 29), (wc.heap.size, #[.int .i64 nr, .slice (some ⟨b3, o3, none⟩) sc.length c1], 60), (gL, cur, 2)] wl gs co z) ∧ Hid (ValInv V C vn D j z) ∧ Hid (z = (D.take j).foldl (stepA (rs.getD nr (0, [])).2 sc k p vn) y)) (fun _ _ i _ => D.length - (intOf i).toNat)
                case atStart => exact ⟨0, y, gs, co, Nat.zero_le _, rfl, rfl, rfl, HW3.out, HVI.out, rfl⟩
                case round =>
                  clear HW3
                  obtain ⟨j, z, gs, co, hj, rfl, rfl, rfl, hw4, hA4, hz4⟩ := hrel
                  have hs4 := hw4.out.st
                  have k0_0 := hs4.cellAt 0 rfl 0 rfl
                  have k0_1 := hs4.cellAt 0 rfl 1 rfl
                  have k1_0 := hs4.cellAt 1 rfl 0 rfl
                  have k1_1 := hs4.cellAt 1 rfl 1 rfl
                  have k2_0 := hs4.cellAt 2 rfl 0 rfl
                  have k2_1 := hs4.cellAt 2 rfl 1 rfl
                  by_cases hjl : j < D.length
                  · have hjI : (j : Int) < D.length := by omega
                    have hjw : D.length ≤ 1048576 := HDS.out
                    have qa : wr.cell? ⟨gL, j, none⟩ = some (.int .i64 D[j]) := by
                      rw [cell_at_block (hw4.out.st.box (gL, cur, 2) (by simp)).2.2]
                      exact HCU.out j hjl
                    have HST := Lib.hid (show (D.take (j + 1)).foldl (stepA (rs.getD nr (0, [])).2 sc k p vn) y = stepA (rs.getD nr (0, [])).2 sc k p vn z D[j] by rw [foldl_take_succ _ _ _ hjl, ← hz4.out])
                    have HVN := Lib.hid (ValInv.step (ts := (rs.getD nr (0, [])).2) (sc := sc) (ci := k) (p := p) hA4.out hvV HND.out hjl)
                    have HMA := Lib.hid (hA4.out.mem j hjl (Nat.le_refl _))
                    have HSV2 := Lib.hid (show ∀ v, v ∈ sc → 0 ≤ v ∧ v < (z.1.length : Int) from fun v hv => by have h1 := HSV.out v hv; have h2 := hA4.out.ok.len; omega)
                    have HCR := Lib.hid (Rd.mono HCON.out hs4.bel)
                    generalize D[j] = A at *
                    go_wp2_with fail
                    refine (hasSupport_c (size, rs) ((nr : Int), sc) z.1 p A nr _ _ _ _ _ _ (Rd.mono HT.out hs4.bel) HCR.out hw4.out.rd rfl HNR.out hpl HYL.out HSV2.out).mono ?_
                    rintro e w5 ⟨rfl, hb5⟩
                    have HW5 := Lib.hid (hw4.out.step hb5)
                    cases hsup : supB (rs.getD nr (0, [])).2 sc z.1 p A with
                    | true =>
                      have HEQ := Lib.hid (show stepA (rs.getD nr (0, [])).2 sc k p vn z A = z by unfold stepA; rw [if_pos hsup])
                      rw [HEQ.out] at HST HVN
                      clear hsup hb5
                      go_wp2_with fail
                      go_roundw
                      case rel => exact ⟨j + 1, z, gs, co, hjl, by go_num, rfl, rfl, HW5.out, HVN.out, HST.out.symm⟩
                      case measure => simp [intOf]; omega
                    | false =>
                      have HEQ := Lib.hid (show stepA (rs.getD nr (0, [])).2 sc k p vn z A = (z.1.set vn ((z.1.getD vn []).filter (fun x => x != A)), z.2 ++ [((vn : Int), A, (k : Int))]) by unfold stepA; rw [if_neg (by rw [hsup]; decide)])
                      rw [HEQ.out] at HST HVN
                      clear hsup hb5
                      have hs5 := HW5.out.st
                      obtain ⟨aE, cE, eE, hdE⟩ := rd_list HW5.out.rd
                      simp only [Value.slice.injEq, Option.some.injEq] at eE
                      obtain ⟨rfl, hVl5, rfl⟩ := eE
                      have hvl5 : vn < z.1.length := by omega
                      obtain ⟨b6, o6, vd6, e6, qd6, hdn6⟩ := rdSl_one rfl hdE vn hvl5
                      simp only [Option.some.injEq, Addr.mk.injEq, and_true] at e6
                      obtain ⟨rfl, rfl⟩ := e6
                      obtain ⟨a7, c7, rfl, _⟩ := rd_list hdn6
                      have HG6 := Lib.hid (show z.1.getD vn [] = z.1[vn] by simp [List.getD, hvl5])
                      have HDS6 := Lib.hid (hA4.out.ok.small _ (List.getElem_mem hvl5))
                      have HDN6 := Lib.hid hdn6
                      rw [HG6.out] at HMA HST HVN
                      have HV5 := Lib.hid (And.intro hVl5 hvl5)
                      clear hVl5 hdE hdn6
                      generalize z.1[vn] = D6 at *
                      rw [Nat.zero_add] at qd6
                      have hd60 : 0 < D6.length := List.length_pos_of_mem HMA.out
                      go_wp2_with fail
                      refine (without_c D6 _ A _ HDN6.out HDS6.out hd60).mono ?_
                      rintro e w6 ⟨v6, rfl, hA6, hb6⟩
                      obtain ⟨a8, c8, rfl, _⟩ := hA6.len
                      have HP := Lib.hid (HW5.out.put hb6 (v := vn) hvl5 hA6.fresh HV5.out.1.symm)
                      have q6 := cellL hb6 qd6
                      have f6 : w6.frozen? ⟨g, vn, none⟩ = false := by
                        obtain ⟨g', o', c', cur', e', e1, _, _, hh, _, _⟩ := ip_form (HW5.out.step hb6).dom (by omega)
                        simp only [Value.slice.injEq, Option.some.injEq, Addr.mk.injEq] at e1
                        obtain ⟨⟨rfl, -, -⟩, -, -⟩ := e1
                        exact free_at_block hh
                      have hpz := HVN.out.ok.pot
                      have HPZ := Lib.hid (show z.2.length + 1 ≤ C by simp only [List.length_append, List.length_cons, List.length_nil] at hpz; omega)
                      clear hA6 hb6 hpz
                      have hws : (w6.setCell ⟨g, vn, none⟩ (.slice a8 (D6.filter (fun x => x != A)).length c8)).heap.size = w6.heap.size := by simp [World.setCell]
                      have HNB := Lib.hid (show ((w6.setCell ⟨g, vn, none⟩ (.slice a8 (D6.filter (fun x => x != A)).length c8)).alloc (.cells #[.int .i64 (vn : Int), .int .i64 A, .int .i64 (k : Int)] 41)).heap[w6.heap.size]? = some (.cells #[.int .i64 (vn : Int), .int .i64 A, .int .i64 (k : Int)] 41 (0, 0)) from by
                        have h := heap_alloc_new (w6.setCell ⟨g, vn, none⟩ (.slice a8 (D6.filter (fun x => x != A)).length c8)) (.cells #[.int .i64 (vn : Int), .int .i64 A, .int .i64 (k : Int)] 41)
                        rwa [hws] at h)
                      clear hws
                      go_wp2_with (at_builtin; go_loud (refine wpList_append_row _ rfl _ _ _ rfl E_arcs rfl (ownsRow_below HP.out.row (belowA _ (.cells #[.int .i64 (vn : Int), .int .i64 A, .int .i64 (k : Int)] 41))) (v := .slice (some ⟨gs, 0, none⟩) z.2.length co) (vs := [.int .i64 (vn : Int), .int .i64 A, .int .i64 (k : Int)]) rfl (fun u hu => by simp at hu; rcases hu with rfl | rfl | rfl <;> rfl) ⟨w6.heap.size, 0, none⟩ 1 rfl (World.news_of_block (cs := #[.int .i64 (vn : Int), .int .i64 A, .int .i64 (k : Int)]) HNB.out) (by have := HPZ.out; simp only; omega) ?_); intro g9 c9 w9 hat hrow hbut hlt)
                      have HP2 := Lib.hid ((HP.out.step (belowA _ (.cells #[.int .i64 (vn : Int), .int .i64 A, .int .i64 (k : Int)] 41))).snoc (hat.imp (fun h => by simpa [Value.ownBlock] using h) id) hbut hlt hrow)
                      have HSZ := Lib.hid (show s.2.length ≤ z.2.length from by
                        have h1 := foldl_more (fun s a => (stepA_more (rs.getD nr (0, [])).2 sc k p vn s a).1) (D.take j) y
                        have h2 := foldl_more (fun s q => placeA_more (rs.getD nr (0, [])).2 sc k s q) (List.range p) u
                        have h3 := foldl_more (fun s q => conA_more rs cs s q) (List.range k) s
                        rw [← hz4.out] at h1
                        rw [← hy2.out] at h2
                        rw [← hu.out] at h3
                        omega)
                      clear hat hrow hbut hlt
                      go_wp2_with fail
                      go_at_fn 24
                      refine (never_c _).mono ?_
                      rintro e w10 ⟨rfl, rfl⟩
                      go_wp2_with fail
                      go_roundw
                      case rel => exact ⟨j + 1, _, g9, c9, hjl, by go_num, by simp, by have := HSZ.out; simp; omega, HP2.out, HVN.out, HST.out.symm⟩
                      case measure => simp [intOf]; omega
                  · obtain rfl : j = D.length := by omega
                    have hnj : ¬ ((D.length : Int) < D.length) := by omega
                    have HNY := Lib.hid (show z = (List.range (p + 1)).foldl (placeA (rs.getD nr (0, [])).2 sc k) u by
                      rw [foldl_range_succ, ← hy2.out, HPL.out]
                      have h := hz4.out
                      rwa [List.take_length] at h)
                    have HWS := Lib.hid (hw4.out.sub (bx' := [(w.heap.size, #[.int .i64 size, .slice at0 rs.length ct0], 26), (w.heap.size + 1, #[.int .i64 vars, .slice (some ⟨b, o, none⟩) cs.length cx], 29), (wc.heap.size, #[.int .i64 nr, .slice (some ⟨b3, o3, none⟩) sc.length c1], 60)]) (fun x hx => by simp at hx ⊢; rcases hx with rfl | rfl | rfl <;> simp))
                    go_wp2_with fail
                    go_roundw
                    case rel => exact ⟨p + 1, z, gs, co, hpl, by go_num, rfl, rfl, HWS.out, hA4.out.ok, HNY.out⟩
                    case measure => simp [intOf]; omega
            · obtain rfl : p = sc.length := by omega
              have hnp : ¬ ((sc.length : Int) < sc.length) := by omega
              have HNX := Lib.hid (show y = (List.range (k + 1)).foldl (conA rs cs) s by rw [foldl_range_succ, ← hu.out, HRS.out]; exact hy2.out)
              have HWS := Lib.hid (hw2.out.sub (bx' := [(w.heap.size, #[.int .i64 size, .slice at0 rs.length ct0], 26), (w.heap.size + 1, #[.int .i64 vars, .slice (some ⟨b, o, none⟩) cs.length cx], 29)]) (fun x hx => by simp at hx ⊢; rcases hx with rfl | rfl <;> simp))
              go_wp2_with fail
              go_roundw
              case rel => exact ⟨k + 1, y, gs, co, hlt, by go_num, rfl, rfl, HWS.out, hA2.out, HNX.out⟩
              case measure => simp [intOf]; omega
        · obtain rfl : k = cs.length := by omega
          have hnl : ¬ ((cs.length : Int) < cs.length) := by omega
          have HU := Lib.hid (show u = roundA rs cs s from hu.out)
          have hn0 : 1 ≤ n := by have := HR.out.2; omega
          obtain ⟨m, rfl⟩ : ∃ m, n = m + 1 := ⟨n - 1, by omega⟩
          have hpu := hA.out.pot
          have HRU := Lib.hid (show arcsA rs cs (m + 1) s = if u.2.length = s.2.length then u else arcsA rs cs m u by rw [arcsA, ← HU.out])
          by_cases hg : s.2.length < u.2.length
          · have HD := Lib.hid (show decide (s.2.length < u.2.length) = true from decide_eq_true hg)
            have HN := Lib.hid (show arcsA rs cs (C + 1) (ds, []) = arcsA rs cs m u ∧ C + 1 ≤ m + u.2.length from ⟨by rw [HR.out.1, HRU.out, if_neg (by omega)], by have := HR.out.2; omega⟩)
            rw [HD.out]
            go_wp2_with fail
            go_roundw
            case rel => exact ⟨u, gs, co, true, m, rfl, rfl, hw.out, hA.out, ⟨fun _ => HN.out, fun h => Bool.noConfusion h⟩⟩
            case measure => simp only [lnV, boV]; omega
          · have HD := Lib.hid (show decide (s.2.length < u.2.length) = false from decide_eq_false hg)
            have HN := Lib.hid (show s.2.length ≤ u.2.length from by rw [HU.out]; exact roundA_more rs cs s)
            have HE := Lib.hid (show arcsA rs cs (C + 1) (ds, []) = u from by rw [HR.out.1, HRU.out, if_pos (by have := HN.out; omega)])
            have hus : u.2.length = s.2.length := by have := HN.out; omega
            have HUS := Lib.hid hus
            clear hus
            rw [HD.out]
            go_wp2_with fail
            go_roundw
            case rel => exact ⟨u, gs, co, false, 0, rfl, rfl, hw.out, hA.out, ⟨fun h => Bool.noConfusion h, fun _ => HE.out⟩⟩
            case measure => have := HUS.out; simp only [lnV, boV]; omega

end Go.Proofs.YtamkfnkikiekaaaGreat

