/-
  SEVERAL TEXTS IN ONE.
-/
import Derived.Test.YtllenfkbfeanmaaGreatBaseSa
import Derived.Shelf.Abstract
import Derived.Deep.RegionHeld3
import Derived.Lib.SmallJoins
import Derived.Deep.Slices
import Derived.Deep.Fields
import Derived.ChangeSame

/-
  CONTRACTS of the laws' functions on types: sz. (Printed by wip/gentypes.py.)
-/
namespace Go.Proofs.YtllenfkbfeanmaaGreat
open Go.RowKit
open Rep (Rd Own sz)
set_option linter.unusedSimpArgs false
set_option linter.unusedVariables false


abbrev Vdct := Int × List Int × List (Int × Int × Int) × List (Int × Int × Int) × List Int
theorem rd_i1 {w : World} {v : Value} {n : Int} (h : Rd w [v] n) : v = .int .i64 n ∧ I64 n := ⟨by simpa using h.1, h.2⟩
/-- What sz takes off the budget: all lengths. -/
def cL {α : Type} (c : α → Nat) (l : List α) : Nat := l.length + (l.map c).sum
def sumTo {α : Type} (c : α → Nat) (l : List α) (j : Nat) : Nat := ((l.take j).map c).sum
theorem sumTo_succ {α : Type} (c : α → Nat) (l : List α) (j : Nat) (h : j < l.length) : sumTo c l (j + 1) = sumTo c l j + c l[j] := by
  rw [sumTo, sumTo, List.take_succ_eq_append_getElem h, List.map_append, List.sum_append]; rfl
theorem sumTo_all {α : Type} (c : α → Nat) (l : List α) : sumTo c l l.length = (l.map c).sum := by simp [sumTo]
theorem sumTo_le {α : Type} (c : α → Nat) (l : List α) (j : Nat) : sumTo c l j ≤ (l.map c).sum := by
  have : (l.map c).sum = ((l.take j).map c).sum + ((l.drop j).map c).sum := by rw [← List.sum_append, ← List.map_append, List.take_append_drop]
  unfold sumTo; omega
theorem cL_mem {α : Type} (c : α → Nat) (l : List α) (j : Nat) (h : j < l.length) : c l[j] + l.length ≤ cL c l := by
  have h1 := sumTo_succ c l j h
  have h2 := sumTo_le c l (j + 1)
  unfold cL; omega
theorem less_cases (L : Int) (c : Nat) : (less L c = -1 ∧ L - c < 0) ∨ (less L c = L - c ∧ 0 ≤ L - c) := by
  unfold less; split
  · exact .inl ⟨rfl, by assumption⟩
  · exact .inr ⟨rfl, by omega⟩
theorem less_no {L : Int} {c : Nat} (h : L - c < 0) : less L c = -1 := by unfold less; rw [if_pos h]
theorem less_yes {L : Int} {c : Nat} (h : 0 ≤ L - c) : less L c = L - c := by unfold less; rw [if_neg (by omega)]
def cost_Int64SS : List (List Int) → Nat := cL List.length
def cost_Con (x : OpT) : Nat := List.length (x.2)
def cost_Rel (x : RelT) : Nat := cost_Int64SS (x.2)
def cost_RelS : List (RelT) → Nat := cL cost_Rel
def cost_Template (x : Tmpl) : Nat := cost_RelS (x.2)
theorem szInt64S_b (l : List Int) (v : Value) (left : Int) (w : World) (r : Rd w [v] l) (h0 : 0 ≤ left) (h1 : left ≤ 1048576) :
    Calls Tryz.prog 182 #[v, .int .i64 left] w fun e w' => e = .returned (.int .i64 (less left (l.length : Nat))) ∧ Below w.heap.size w w' :=
  (szInt64S_c l v left w r h0 h1).mono fun e w' ⟨he, hw⟩ => ⟨he, hw ▸ Below.refl _ _⟩
set_option maxRecDepth 100000 in
set_option maxHeartbeats 1000000 in
theorem szInt64SS_b (l : List (List Int)) (v : Value) (left : Int) (w : World) (r : Rd w [v] l) (h0 : 0 ≤ left) (h1 : left ≤ 1048576) :
    Calls Tryz.prog 152 #[v, .int .i64 left] w fun e w' => e = .returned (.int .i64 (less left (cost_Int64SS l : Nat))) ∧ Below w.heap.size w w' := by
  obtain ⟨a, c, rfl, h⟩ := rd_list r
  have hb := (rdSl_len h).2
  unfold maxLen at hb
  clear r
  generalize hn : l.length = n at *
  have HN := Lib.hid hn
  have HH := Lib.hid h
  clear hn h
  by_cases hl : left - n < 0
  · go_enter Tryz.func152, Tryz.ntmps152
    go_wp2_with fail
    go_ret
    refine ⟨ret_int (less_no ?_).symm, Below.refl _ _⟩
    unfold cost_Int64SS cL
    rw [HN.out]; omega
  · go_enter Tryz.func152, Tryz.ntmps152
    go_wp2_with fail
    go_loopw [1, 5] (fun lf i wr => ∃ (j : Nat) (L : Int), j ≤ n ∧ i = .int .i64 j ∧ lf = .int .i64 L ∧ 0 ≤ L ∧ L ≤ 1048576 ∧ Hid (L = left - n - (sumTo List.length l j : Nat)) ∧ Hid (Below w.heap.size w wr)) (fun _ i _ => n - (intOf i).toNat)
    case atStart => exact ⟨0, _, Nat.zero_le _, rfl, rfl, by omega, by omega, by simp [Hid, sumTo], Below.refl _ _⟩
    case round =>
      obtain ⟨j, L, hj, rfl, rfl, hL0, hL1, hL, hbl⟩ := hrel
      by_cases hlt : j < n
      · have hjl : j < l.length := by rw [HN.out]; exact hlt
        obtain ⟨b, o, u0, rfl, q0, hx⟩ := rdSl_one rfl (rdSl_mono hbl.out HH.out) j hjl
        have HX := Lib.hid hx
        have hs := sumTo_succ List.length l j hjl
        have hle := sumTo_le List.length l (j + 1)
        generalize hcv : List.length l[j] = cv at hs
        have HC := Lib.hid hcv
        have HS := Lib.hid hs
        have HLe := Lib.hid hle
        clear hx hs hle hcv
        go_wp2_with fail
        refine (szInt64S_b l[j] _ L _ HX.out hL0 hL1).mono ?_
        rintro e w1 ⟨rfl, hb1⟩
        rw [HC.out]
        rcases less_cases L cv with ⟨e1, g1⟩ | ⟨e1, g1⟩
        · rw [e1]
          clear e1
          go_wp2_with fail
          go_ret
          refine ⟨ret_int (less_no ?_).symm, hbl.out.trans (hb1.mono hbl.out.size)⟩
          have := hL.out; have := HS.out; have := HLe.out; have := HN.out
          unfold cost_Int64SS cL
          omega
        · rw [e1]
          clear e1
          go_wp2_with fail
          go_roundw
          case rel =>
            refine ⟨j + 1, L - cv, by omega, by go_num, rfl, by omega, by omega, ?_, hbl.out.trans (hb1.mono hbl.out.size)⟩
            have := hL.out; have := HS.out
            simp only [Hid]; omega
          case measure => simp [intOf]; omega
      · obtain rfl : j = n := by omega
        go_wp2_with fail
        go_ret
        refine ⟨ret_int ?_, hbl.out⟩
        have h2 := hL.out
        have h3 := sumTo_all List.length l
        rw [HN.out] at h3
        have e3 : (cost_Int64SS l : Int) = j + (sumTo List.length l j : Nat) := by
          unfold cost_Int64SS cL
          rw [h3, HN.out]; omega
        rw [less_yes (by omega)]; omega
set_option maxRecDepth 100000 in
set_option maxHeartbeats 1000000 in
theorem szRel_b (x : RelT) (v0 v1 : Value) (left : Int) (w : World) (hx : Rd w [v0, v1] x) (h0 : 0 ≤ left) (h1 : left ≤ 1048576) :
    Calls Tryz.prog 116 #[.agg #[v0, v1], .int .i64 left] w fun e w' => e = .returned (.int .i64 (less left (cost_Rel x : Nat))) ∧ Below w.heap.size w w' := by
  obtain ⟨x0, x1⟩ := x
  have tx0 := rd_cons rfl hx
  obtain ⟨rfl, Ix0⟩ := rd_i1 tx0.1
  have Rx1 := Lib.hid tx0.2
  obtain ⟨ax1, cx1, rfl, _⟩ := rd_list Rx1.out
  clear hx tx0
  have hs := (St.start w).alloc #[.int .i64 x0, .slice ax1 x1.length cx1] 144 rfl
  go_enter Tryz.func116, Tryz.ntmps116
  go_wp2_with fail
  refine (szInt64SS_b x1 _ (left) _ (Rd.mono Rx1.out hs.bel) (by omega) (by omega)).mono ?_
  rintro e w1 ⟨rfl, hb1⟩
  have hs1 := hs.step hb1
  rcases less_cases (left) (cost_Int64SS x1) with ⟨e1, g1⟩ | ⟨e1, g1⟩
  · rw [e1]
    clear e1
    go_wp2_with fail
    go_ret
    exact ⟨ret_int (less_no (by simp only [cost_Rel]; omega)).symm, hs1.bel⟩
  · rw [e1]
    clear e1
    go_wp2_with fail
    go_ret
    exact ⟨ret_int (by rw [less_yes (by simp only [cost_Rel]; omega)] <;> (simp only [cost_Rel] <;> omega)), hs1.bel⟩
set_option maxRecDepth 100000 in
set_option maxHeartbeats 1000000 in
theorem szRelS_b (l : List (RelT)) (v : Value) (left : Int) (w : World) (r : Rd w [v] l) (h0 : 0 ≤ left) (h1 : left ≤ 1048576) :
    Calls Tryz.prog 56 #[v, .int .i64 left] w fun e w' => e = .returned (.int .i64 (less left (cost_RelS l : Nat))) ∧ Below w.heap.size w w' := by
  obtain ⟨a, c, rfl, h⟩ := rd_list r
  have hb := (rdSl_len h).2
  unfold maxLen at hb
  clear r
  generalize hn : l.length = n at *
  have HN := Lib.hid hn
  have HH := Lib.hid h
  clear hn h
  by_cases hl : left - n < 0
  · go_enter Tryz.func56, Tryz.ntmps56
    go_wp2_with fail
    go_ret
    refine ⟨ret_int (less_no ?_).symm, Below.refl _ _⟩
    unfold cost_RelS cL
    rw [HN.out]; omega
  · go_enter Tryz.func56, Tryz.ntmps56
    go_wp2_with fail
    go_loopw [1, 5] (fun lf i wr => ∃ (j : Nat) (L : Int), j ≤ n ∧ i = .int .i64 j ∧ lf = .int .i64 L ∧ 0 ≤ L ∧ L ≤ 1048576 ∧ Hid (L = left - n - (sumTo cost_Rel l j : Nat)) ∧ Hid (Below w.heap.size w wr)) (fun _ i _ => n - (intOf i).toNat)
    case atStart => exact ⟨0, _, Nat.zero_le _, rfl, rfl, by omega, by omega, by simp [Hid, sumTo], Below.refl _ _⟩
    case round =>
      obtain ⟨j, L, hj, rfl, rfl, hL0, hL1, hL, hbl⟩ := hrel
      by_cases hlt : j < n
      · have hjl : j < l.length := by rw [HN.out]; exact hlt
        obtain ⟨b, o, u0, u1, rfl, q0, q1, hx⟩ := rdSl_two rfl (rdSl_mono hbl.out HH.out) j hjl
        have HX := Lib.hid hx
        have hs := sumTo_succ cost_Rel l j hjl
        have hle := sumTo_le cost_Rel l (j + 1)
        generalize hcv : cost_Rel l[j] = cv at hs
        have HC := Lib.hid hcv
        have HS := Lib.hid hs
        have HLe := Lib.hid hle
        clear hx hs hle hcv
        go_wp2_with fail
        refine (szRel_b l[j] _ _ L _ HX.out hL0 hL1).mono ?_
        rintro e w1 ⟨rfl, hb1⟩
        rw [HC.out]
        rcases less_cases L cv with ⟨e1, g1⟩ | ⟨e1, g1⟩
        · rw [e1]
          clear e1
          go_wp2_with fail
          go_ret
          refine ⟨ret_int (less_no ?_).symm, hbl.out.trans (hb1.mono hbl.out.size)⟩
          have := hL.out; have := HS.out; have := HLe.out; have := HN.out
          unfold cost_RelS cL
          omega
        · rw [e1]
          clear e1
          go_wp2_with fail
          go_roundw
          case rel =>
            refine ⟨j + 1, L - cv, by omega, by go_num, rfl, by omega, by omega, ?_, hbl.out.trans (hb1.mono hbl.out.size)⟩
            have := hL.out; have := HS.out
            simp only [Hid]; omega
          case measure => simp [intOf]; omega
      · obtain rfl : j = n := by omega
        go_wp2_with fail
        go_ret
        refine ⟨ret_int ?_, hbl.out⟩
        have h2 := hL.out
        have h3 := sumTo_all cost_Rel l
        rw [HN.out] at h3
        have e3 : (cost_RelS l : Int) = j + (sumTo cost_Rel l j : Nat) := by
          unfold cost_RelS cL
          rw [h3, HN.out]; omega
        rw [less_yes (by omega)]; omega
set_option maxRecDepth 100000 in
set_option maxHeartbeats 1000000 in
theorem szTemplate_b (x : Tmpl) (v0 v1 : Value) (left : Int) (w : World) (hx : Rd w [v0, v1] x) (h0 : 0 ≤ left) (h1 : left ≤ 1048576) :
    Calls Tryz.prog 17 #[.agg #[v0, v1], .int .i64 left] w fun e w' => e = .returned (.int .i64 (less left (cost_Template x : Nat))) ∧ Below w.heap.size w w' := by
  obtain ⟨x0, x1⟩ := x
  have tx0 := rd_cons rfl hx
  obtain ⟨rfl, Ix0⟩ := rd_i1 tx0.1
  have Rx1 := Lib.hid tx0.2
  obtain ⟨ax1, cx1, rfl, _⟩ := rd_list Rx1.out
  clear hx tx0
  have hs := (St.start w).alloc #[.int .i64 x0, .slice ax1 x1.length cx1] 53 rfl
  go_enter Tryz.func17, Tryz.ntmps17
  go_wp2_with fail
  refine (szRelS_b x1 _ (left) _ (Rd.mono Rx1.out hs.bel) (by omega) (by omega)).mono ?_
  rintro e w1 ⟨rfl, hb1⟩
  have hs1 := hs.step hb1
  rcases less_cases (left) (cost_RelS x1) with ⟨e1, g1⟩ | ⟨e1, g1⟩
  · rw [e1]
    clear e1
    go_wp2_with fail
    go_ret
    exact ⟨ret_int (less_no (by simp only [cost_Template]; omega)).symm, hs1.bel⟩
  · rw [e1]
    clear e1
    go_wp2_with fail
    go_ret
    exact ⟨ret_int (by rw [less_yes (by simp only [cost_Template]; omega)] <;> (simp only [cost_Template] <;> omega)), hs1.bel⟩

end Go.Proofs.YtllenfkbfeanmaaGreat

/-
  CONTRACTS of the laws' functions on types: to. (Printed by wip/gentypes.py.)
-/
namespace Go.Proofs.YtllenfkbfeanmaaGreat
open Go.RowKit
open Rep (Rd Own sz)
set_option linter.unusedSimpArgs false
set_option linter.unusedVariables false


theorem toInt64S_b (l : List Int) (v : Value) (w : World) (r : Rd w [v] l) (hc : l.length ≤ 1048576) :
    Calls Tryz.prog 184 #[v] w fun e w' => ∃ v', e = .returned v' ∧ Fresh w.heap.size w' [v'] l ∧ Below w.heap.size w w' := toInt64S_c l v w r (by omega)
set_option maxRecDepth 100000 in
set_option maxHeartbeats 1000000 in
theorem toInt64SS_b (l : List (List Int)) (v : Value) (w : World) (r : Rd w [v] l) (hc : cost_Int64SS l ≤ 1048576) :
    Calls Tryz.prog 155 #[v] w fun e w' => ∃ v', e = .returned v' ∧ Fresh w.heap.size w' [v'] l ∧ Below w.heap.size w w' := by
  obtain ⟨a, c, rfl, h⟩ := rd_list r
  clear r
  have hnc : l.length ≤ 1048576 := by unfold cost_Int64SS cL at hc; omega
  have HC := Lib.hid hc
  generalize hn : l.length = n at *
  have HN := Lib.hid hn
  have HH := Lib.hid h
  clear hn h hc
  go_enter Tryz.func155, Tryz.ntmps155
  go_wp2_with (at_make; refine wpList_make_rep w rfl _ _ 37 rfl E_lists ([] : List Int) own0_list n (by omega) rfl rfl ?_)
  intro w1 hown hb1 hs1
  have IV := Lib.hid (iv_made hown)
  have HB := Lib.hid hb1
  clear hown hb1
  go_wp2_with fail
  go_loopw [4] (fun i wr => ∃ j : Nat, j ≤ n ∧ i = .int .i64 j ∧ Hid (Below w.heap.size w wr) ∧ Hid (Iv w.heap.size wr.heap.size wr [.slice (some ⟨w.heap.size, 0, none⟩) n n] (filledG ([] : List Int) l j)) ∧ w.heap.size < wr.heap.size) (fun i _ => n - (intOf i).toNat)
  case atStart => exact ⟨0, Nat.zero_le _, rfl, HB.out, by rw [filledG_zero, HN.out]; show Iv _ _ _ _ _; rw [hs1]; exact IV.out, by omega⟩
  case round =>
    obtain ⟨j, hj, rfl, hbl, hiv, hlt0⟩ := hrel
    by_cases hlt : j < n
    · have hjl : j < l.length := by rw [HN.out]; exact hlt
      obtain ⟨b, o, u0, rfl, q0, hx⟩ := rdSl_one rfl (rdSl_mono hbl.out HH.out) j hjl
      have HX := Lib.hid hx
      clear hx
      go_wp2_with fail
      refine (toInt64S_b l[j] _ _ HX.out (by have := cL_mem List.length l j hjl; have := HC.out; unfold cost_Int64SS at this; omega)).mono ?_
      rintro e w2 ⟨b0, rfl, fr, hb2⟩
      have hlen := filledG_length ([] : List Int) l j (by omega)
      have ivo := hiv.out.mono hb2
      have ive := Fresh.iv fr
      obtain ⟨g, o', c', cur, et, hv, hh, hg1, hg2, hsz⟩ := iv_form' ivo (by rw [hlen]; omega) (by simp)
      simp only [Value.slice.injEq, Option.some.injEq, Addr.mk.injEq] at hv
      obtain ⟨⟨rfl, rfl, -⟩, -, rfl⟩ := hv
      rw [hlen, HN.out, Nat.zero_add, show sz (List Int) = 1 from rfl] at hsz
      have hrd := Iv.rd ive
      obtain ⟨d0, e0, rfl, _⟩ := rd_list hrd
      have s0 := cell_of_heap hh (q := j) (by omega)
      have f0 := free_at_block (o := j) hh
      have OV := Lib.hid ivo
      have EV := Lib.hid ive
      have HSZ := Lib.hid hsz
      clear hrd fr hh ivo ive
      go_wp2
      go_roundw
      case rel =>
        have hz := hb2.size
        have hop := putCells_only w.heap.size [.slice d0 (l[j]).length e0] (j) w2
        refine ⟨j + 1, by omega, by go_num, (hbl.out.trans (hb2.mono hbl.out.size)).trans (hop.below (by simp)), ?_, ?_⟩
        · have := iv_put' OV.out j (by rw [filledG_length _ _ _ (by omega)]; omega) EV.out hz (q := j) (by simp)
          rw [filledG_succ _ _ _ hjl] at this
          show Iv _ _ _ _ _
          have hz2 := hop.size
          rw [← hz2] at this
          exact this
        · have hz2 := hop.size
          exact Nat.lt_of_lt_of_le hlt0 (by rw [← hz2] at hz; exact hz)
      case measure => simp [intOf]; omega
    · obtain rfl : j = n := by omega
      go_wp2_with fail
      go_ret
      refine ⟨_, rfl, ?_, hbl.out⟩
      have := hiv.out
      rw [← HN.out, filledG_all, HN.out] at this
      exact Iv.fresh this
set_option maxRecDepth 100000 in
set_option maxHeartbeats 1000000 in
theorem toRel_b (x : RelT) (v0 v1 : Value) (w : World) (hx : Rd w [v0, v1] x) (hc : cost_Rel x ≤ 1048576) :
    Calls Tryz.prog 122 #[.agg #[v0, v1]] w fun e w' => ∃ u0 u1, e = .returned (.agg #[u0, u1]) ∧ Fresh w.heap.size w' [u0, u1] x ∧ Below w.heap.size w w' := by
  obtain ⟨x0, x1⟩ := x
  simp only [cost_Rel] at hc
  have tx0 := rd_cons rfl hx
  obtain ⟨rfl, Ix0⟩ := rd_i1 tx0.1
  have Rx1 := Lib.hid tx0.2
  obtain ⟨ax1, cx1, rfl, _⟩ := rd_list Rx1.out
  clear hx tx0
  have hs := (((St.start w).alloc #[.int .i64 x0, .slice ax1 x1.length cx1] 144 rfl).alloc #[.int .i64 0, .slice none 0 0] 50 (n := w.heap.size + 1) (by simp)).alloc #[.int .i64 x0, .slice none 0 0] 50 (n := w.heap.size + 1 + 1) (by simp)
  go_enter Tryz.func122, Tryz.ntmps122
  have hl1 := hs.hi
  go_wp2_with fail
  refine (toInt64SS_b x1 _ _ (Rd.mono Rx1.out hs.bel) (by omega)).mono ?_
  rintro e w1 ⟨b1, rfl, fr1, hb1⟩
  have iv1 := Fresh.iv fr1
  obtain ⟨d1, e1, rfl, _⟩ := rd_list (Iv.rd iv1)
  have hs1 := hs.step hb1
  clear fr1
  have p0 := hs1.cellAt 0 rfl 0 rfl
  have p1 := hs1.cellAt 0 rfl 1 rfl
  have s0 := hs1.cellAt 2 rfl 0 rfl
  have f0 := hs1.freeAt 2 rfl 0
  have s1 := hs1.cellAt 2 rfl 1 rfl
  have f1 := hs1.freeAt 2 rfl 1
  have z0 := hs1.cellAt 1 rfl 0 rfl
  have y0 := hs1.freeAt 1 rfl 0
  have z1 := hs1.cellAt 1 rfl 1 rfl
  have y1 := hs1.freeAt 1 rfl 1
  have hs1x := hs1.set (p := [_, _]) (by simp <;> omega) 1 (.slice d1 x1.length e1)
  have iv1s := iv1.setCell (a := ⟨w.heap.size + 1 + 1, 1, none⟩) (Nat.lt_of_lt_of_le (Nat.lt_succ_self _) hl1) (.slice d1 x1.length e1)
  go_wp2
  have ivA := iv_int_cons Ix0 (iv1s)
  refine bodyPost_ret (v := .agg #[.int .i64 x0, .slice d1 x1.length e1]) (by simp [results, Tryz.results122, go_sem, z0, y0, z1, y1]) rfl ⟨_, _,  rfl, ?_⟩
  exact hs1x.finI ivA (g := w.heap.size + 1) (by omega) (Nat.lt_of_lt_of_le (Nat.lt_succ_of_lt (Nat.lt_succ_self _)) hl1) [.int .i64 x0, .slice d1 x1.length e1]
set_option maxRecDepth 100000 in
set_option maxHeartbeats 1000000 in
theorem toRelS_b (l : List (RelT)) (v : Value) (w : World) (r : Rd w [v] l) (hc : cost_RelS l ≤ 1048576) :
    Calls Tryz.prog 58 #[v] w fun e w' => ∃ v', e = .returned v' ∧ Fresh w.heap.size w' [v'] l ∧ Below w.heap.size w w' := by
  obtain ⟨a, c, rfl, h⟩ := rd_list r
  clear r
  have hnc : l.length ≤ 1048576 := by unfold cost_RelS cL at hc; omega
  have HC := Lib.hid hc
  generalize hn : l.length = n at *
  have HN := Lib.hid hn
  have HH := Lib.hid h
  clear hn h hc
  go_enter Tryz.func58, Tryz.ntmps58
  go_wp2_with (at_make; refine wpList_make_rep w rfl _ _ 24 rfl E_rels ((0, []) : RelT) own0_rel n (by omega) rfl rfl ?_)
  intro w1 hown hb1 hs1
  have IV := Lib.hid (iv_made hown)
  have HB := Lib.hid hb1
  clear hown hb1
  go_wp2_with fail
  go_loopw [4] (fun i wr => ∃ j : Nat, j ≤ n ∧ i = .int .i64 j ∧ Hid (Below w.heap.size w wr) ∧ Hid (Iv w.heap.size wr.heap.size wr [.slice (some ⟨w.heap.size, 0, none⟩) n n] (filledG ((0, []) : RelT) l j)) ∧ w.heap.size < wr.heap.size) (fun i _ => n - (intOf i).toNat)
  case atStart => exact ⟨0, Nat.zero_le _, rfl, HB.out, by rw [filledG_zero, HN.out]; show Iv _ _ _ _ _; rw [hs1]; exact IV.out, by omega⟩
  case round =>
    obtain ⟨j, hj, rfl, hbl, hiv, hlt0⟩ := hrel
    by_cases hlt : j < n
    · have hjl : j < l.length := by rw [HN.out]; exact hlt
      obtain ⟨b, o, u0, u1, rfl, q0, q1, hx⟩ := rdSl_two rfl (rdSl_mono hbl.out HH.out) j hjl
      have HX := Lib.hid hx
      clear hx
      go_wp2_with fail
      refine (toRel_b l[j] _ _ _ HX.out (by have := cL_mem cost_Rel l j hjl; have := HC.out; unfold cost_RelS at this; omega)).mono ?_
      rintro e w2 ⟨b0, b1, rfl, fr, hb2⟩
      have hlen := filledG_length ((0, []) : RelT) l j (by omega)
      have ivo := hiv.out.mono hb2
      have ive := Fresh.iv fr
      obtain ⟨g, o', c', cur, et, hv, hh, hg1, hg2, hsz⟩ := iv_form' ivo (by rw [hlen]; omega) (by simp)
      simp only [Value.slice.injEq, Option.some.injEq, Addr.mk.injEq] at hv
      obtain ⟨⟨rfl, rfl, -⟩, -, rfl⟩ := hv
      rw [hlen, HN.out, Nat.zero_add, show sz (RelT) = 2 from rfl] at hsz
      have hrd := Iv.rd ive
      have r0 := rd_cons rfl hrd
      obtain ⟨rfl, _⟩ := rd_i1 r0.1
      obtain ⟨d1, e1, rfl, _⟩ := rd_list r0.2
      have s0 := cell_of_heap hh (q := j * 2) (by omega)
      have f0 := free_at_block (o := j * 2) hh
      have s1 := cell_of_heap hh (q := j * 2 + 1) (by omega)
      have f1 := free_at_block (o := j * 2 + 1) hh
      have OV := Lib.hid ivo
      have EV := Lib.hid ive
      have HSZ := Lib.hid hsz
      clear hrd fr hh ivo ive r0
      go_wp2
      go_roundw
      case rel =>
        have hz := hb2.size
        have hop := putCells_only w.heap.size [.int .i64 l[j].1, .slice d1 (l[j].2).length e1] (j * 2) w2
        refine ⟨j + 1, by omega, by go_num, (hbl.out.trans (hb2.mono hbl.out.size)).trans (hop.below (by simp)), ?_, ?_⟩
        · have := iv_put' OV.out j (by rw [filledG_length _ _ _ (by omega)]; omega) EV.out hz (q := j * 2) (by simp)
          rw [filledG_succ _ _ _ hjl] at this
          show Iv _ _ _ _ _
          have hz2 := hop.size
          rw [← hz2] at this
          exact this
        · have hz2 := hop.size
          exact Nat.lt_of_lt_of_le hlt0 (by rw [← hz2] at hz; exact hz)
      case measure => simp [intOf]; omega
    · obtain rfl : j = n := by omega
      go_wp2_with fail
      go_ret
      refine ⟨_, rfl, ?_, hbl.out⟩
      have := hiv.out
      rw [← HN.out, filledG_all, HN.out] at this
      exact Iv.fresh this
set_option maxRecDepth 100000 in
set_option maxHeartbeats 1000000 in
theorem toTemplate_b (x : Tmpl) (v0 v1 : Value) (w : World) (hx : Rd w [v0, v1] x) (hc : cost_Template x ≤ 1048576) :
    Calls Tryz.prog 19 #[.agg #[v0, v1]] w fun e w' => ∃ u0 u1, e = .returned (.agg #[u0, u1]) ∧ Fresh w.heap.size w' [u0, u1] x ∧ Below w.heap.size w w' := by
  obtain ⟨x0, x1⟩ := x
  simp only [cost_Template] at hc
  have tx0 := rd_cons rfl hx
  obtain ⟨rfl, Ix0⟩ := rd_i1 tx0.1
  have Rx1 := Lib.hid tx0.2
  obtain ⟨ax1, cx1, rfl, _⟩ := rd_list Rx1.out
  clear hx tx0
  have hs := (((St.start w).alloc #[.int .i64 x0, .slice ax1 x1.length cx1] 53 rfl).alloc #[.int .i64 0, .slice none 0 0] 26 (n := w.heap.size + 1) (by simp)).alloc #[.int .i64 x0, .slice none 0 0] 26 (n := w.heap.size + 1 + 1) (by simp)
  go_enter Tryz.func19, Tryz.ntmps19
  have hl1 := hs.hi
  go_wp2_with fail
  refine (toRelS_b x1 _ _ (Rd.mono Rx1.out hs.bel) (by omega)).mono ?_
  rintro e w1 ⟨b1, rfl, fr1, hb1⟩
  have iv1 := Fresh.iv fr1
  obtain ⟨d1, e1, rfl, _⟩ := rd_list (Iv.rd iv1)
  have hs1 := hs.step hb1
  clear fr1
  have p0 := hs1.cellAt 0 rfl 0 rfl
  have p1 := hs1.cellAt 0 rfl 1 rfl
  have s0 := hs1.cellAt 2 rfl 0 rfl
  have f0 := hs1.freeAt 2 rfl 0
  have s1 := hs1.cellAt 2 rfl 1 rfl
  have f1 := hs1.freeAt 2 rfl 1
  have z0 := hs1.cellAt 1 rfl 0 rfl
  have y0 := hs1.freeAt 1 rfl 0
  have z1 := hs1.cellAt 1 rfl 1 rfl
  have y1 := hs1.freeAt 1 rfl 1
  have hs1x := hs1.set (p := [_, _]) (by simp <;> omega) 1 (.slice d1 x1.length e1)
  have iv1s := iv1.setCell (a := ⟨w.heap.size + 1 + 1, 1, none⟩) (Nat.lt_of_lt_of_le (Nat.lt_succ_self _) hl1) (.slice d1 x1.length e1)
  go_wp2
  have ivA := iv_int_cons Ix0 (iv1s)
  refine bodyPost_ret (v := .agg #[.int .i64 x0, .slice d1 x1.length e1]) (by simp [results, Tryz.results19, go_sem, z0, y0, z1, y1]) rfl ⟨_, _,  rfl, ?_⟩
  exact hs1x.finI ivA (g := w.heap.size + 1) (by omega) (Nat.lt_of_lt_of_le (Nat.lt_succ_of_lt (Nat.lt_succ_self _)) hl1) [.int .i64 x0, .slice d1 x1.length e1]

end Go.Proofs.YtllenfkbfeanmaaGreat

/-
  CONTRACTS of the laws' functions on types: eq. (Printed by wip/gentypes.py.)
-/
namespace Go.Proofs.YtllenfkbfeanmaaGreat
open Go.RowKit
open Rep (Rd Own sz)
set_option linter.unusedSimpArgs false
set_option linter.unusedVariables false


instance decI3 : DecidableEq (List (Int × Int × Int)) := inferInstance
instance decV4 : DecidableEq (List (Int × Int × Int) × List Int) := instDecidableEqProd
instance decV3 : DecidableEq (List (Int × Int × Int) × List (Int × Int × Int) × List Int) := instDecidableEqProd
instance decV2 : DecidableEq (List Int × List (Int × Int × Int) × List (Int × Int × Int) × List Int) := instDecidableEqProd
instance decV1 : DecidableEq Vdct := instDecidableEqProd
theorem take_succG {α : Type} {l1 l2 : List α} {k : Nat} (h1 : k < l1.length) (h2 : k < l2.length) (h : l1.take k = l2.take k) (e : l1[k] = l2[k]) : l1.take (k + 1) = l2.take (k + 1) := by
  rw [List.take_succ_eq_append_getElem h1, List.take_succ_eq_append_getElem h2, h, e]
theorem ne_getG {α : Type} {l1 l2 : List α} {k : Nat} (h1 : k < l1.length) (h2 : k < l2.length) (e : ¬ l1[k] = l2[k]) : ¬ l1 = l2 := by rintro rfl; exact e rfl
theorem take_allG {α : Type} {l1 l2 : List α} {n : Nat} (h1 : l1.length = n) (h2 : l2.length = n) (h : l1.take n = l2.take n) : l1 = l2 := by
  rwa [List.take_of_length_le (by omega), List.take_of_length_le (by omega)] at h
theorem eqInt64S_b (l1 l2 : List Int) (v1 v2 : Value) (w : World) (r1 : Rd w [v1] l1) (r2 : Rd w [v2] l2) :
    Calls Tryz.prog 67 #[v1, v2] w fun e w' => e = .returned (.bool (decide (l1 = l2))) ∧ Below w.heap.size w w' :=
  (eqInt64S_c l1 l2 v1 v2 w r1 r2).mono fun e w' ⟨he, n, hw⟩ => ⟨he, hw ▸ drewN_below _ _⟩
set_option maxRecDepth 100000 in
set_option maxHeartbeats 1000000 in
theorem eqInt64SS_b (l1 l2 : List (List Int)) (v1 v2 : Value) (w : World) (r1 : Rd w [v1] l1) (r2 : Rd w [v2] l2) :
    Calls Tryz.prog 176 #[v1, v2] w fun e w' => e = .returned (.bool (decide (l1 = l2))) ∧ Below w.heap.size w w' := by
  obtain ⟨a1, c1, rfl, h1⟩ := rd_list r1
  obtain ⟨a2, c2, rfl, h2⟩ := rd_list r2
  clear r1 r2
  have b1 := (rdSl_len h1).2
  have b2 := (rdSl_len h2).2
  unfold maxLen at b1 b2
  have G1 := Lib.hid h1
  have G2 := Lib.hid h2
  clear h1 h2
  by_cases hl : l1.length = l2.length
  · generalize hn1 : l1.length = n1 at *
    generalize hn2 : l2.length = n2 at *
    have H1 := Lib.hid hn1
    have H2 := Lib.hid hn2
    clear hn1 hn2
    subst hl
    have hl' : ((n1 : Int) != n1) = false := by simp
    go_enter Tryz.func176, Tryz.ntmps176
    go_wp2_with fail
    go_loopw [5] (fun i wr => ∃ k : Nat, k ≤ n1 ∧ i = .int .i64 k ∧ Hid (Below w.heap.size w wr) ∧ Hid (l1.take k = l2.take k)) (fun i _ => n1 - (intOf i).toNat)
    case atStart => exact ⟨0, Nat.zero_le _, rfl, Below.refl _ _, by simp [Hid]⟩
    case round =>
      obtain ⟨k, hk, rfl, hbl, hr⟩ := hrel
      by_cases hlt : k < n1
      · have k1 : k < l1.length := by rw [H1.out]; exact hlt
        have k2 : k < l2.length := by rw [H2.out]; exact hlt
        obtain ⟨b1, o1, u0, rfl, q0, hx⟩ := rdSl_one rfl (rdSl_mono hbl.out G1.out) k k1
        obtain ⟨b2, o2, t0, rfl, p0, hy⟩ := rdSl_one rfl (rdSl_mono hbl.out G2.out) k k2
        have HX := Lib.hid hx
        have HY := Lib.hid hy
        clear hx hy
        by_cases he : l1[k] = l2[k]
        · have HE := Lib.hid he
          clear he
          go_wp2_with fail
          refine wp_region_noPanic (wp_region_el (fun w' => w'.cell? ⟨b1, o1 + k, none⟩ = some u0 ∧ w'.cell? ⟨b2, o2 + k, none⟩ = some t0) [(0, 0), (1, 0), (2, 0), (3, 0), (4, 0), (5, 0), (6, 0), (7, 0), (8, 1), (9, 0)] (by kernel_rfl) (by kernel_rfl) (by kernel_rfl) rfl ?_ (fun _ _ _ _ _ h => h) ?_)
          · exact ⟨q0, p0⟩
          (repeat (first | (apply el_skip rfl (by rfl); try simp only [Act.put, List.setIfInBounds_toArray, List.set_cons_zero, List.set_cons_succ]) | (apply el_float rfl (by rfl); (· (intro w' hS; go_simp <;> with_reducible rfl)); (try simp only [Act.put, List.setIfInBounds_toArray, List.set_cons_zero, List.set_cons_succ]))))
          refine el_hard rfl (by rfl) (fun K hK => ?_)
          go_wp2_with (go_at_call 67; refine (eqInt64S_b l1[k] l2[k] _ _ _ (Rd.mono HX.out (belowD _)) (Rd.mono HY.out (belowD _))).mono ?_; rintro e w1 ⟨rfl, hb1⟩)
          rw [decide_eq_true HE.out]
          refine ⟨⟨cellL hb1 q0, cellL hb1 p0⟩, ?_⟩
          (repeat (first | (apply el_skip rfl (by rfl); try simp only [Act.put, List.setIfInBounds_toArray, List.set_cons_zero, List.set_cons_succ]) | (apply el_float rfl (by rfl); (· (intro w' hS; go_simp <;> with_reducible rfl)); (try simp only [Act.put, List.setIfInBounds_toArray, List.set_cons_zero, List.set_cons_succ]))))
          refine el_nil (NoPanic.normal ?_)
          go_wp2_with fail
          go_roundw
          case rel => exact ⟨k + 1, by omega, by go_num, hbl.out.drew.trans (hb1.mono hbl.out.size), take_succG k1 k2 hr.out HE.out⟩
          case measure => simp [intOf]; omega
        · have HE := Lib.hid he
          clear he
          go_wp2_with fail
          refine wp_region_noPanic (wp_region_el (fun w' => w'.cell? ⟨b1, o1 + k, none⟩ = some u0 ∧ w'.cell? ⟨b2, o2 + k, none⟩ = some t0) [(0, 0), (1, 0), (2, 0), (3, 0), (4, 0), (5, 0), (6, 0), (7, 0), (8, 1), (9, 0)] (by kernel_rfl) (by kernel_rfl) (by kernel_rfl) rfl ?_ (fun _ _ _ _ _ h => h) ?_)
          · exact ⟨q0, p0⟩
          (repeat (first | (apply el_skip rfl (by rfl); try simp only [Act.put, List.setIfInBounds_toArray, List.set_cons_zero, List.set_cons_succ]) | (apply el_float rfl (by rfl); (· (intro w' hS; go_simp <;> with_reducible rfl)); (try simp only [Act.put, List.setIfInBounds_toArray, List.set_cons_zero, List.set_cons_succ]))))
          refine el_hard rfl (by rfl) (fun K hK => ?_)
          go_wp2_with (go_at_call 67; refine (eqInt64S_b l1[k] l2[k] _ _ _ (Rd.mono HX.out (belowD _)) (Rd.mono HY.out (belowD _))).mono ?_; rintro e w1 ⟨rfl, hb1⟩)
          rw [decide_eq_false HE.out]
          refine ⟨⟨cellL hb1 q0, cellL hb1 p0⟩, ?_⟩
          (repeat (first | (apply el_skip rfl (by rfl); try simp only [Act.put, List.setIfInBounds_toArray, List.set_cons_zero, List.set_cons_succ]) | (apply el_float rfl (by rfl); (· (intro w' hS; go_simp <;> with_reducible rfl)); (try simp only [Act.put, List.setIfInBounds_toArray, List.set_cons_zero, List.set_cons_succ]))))
          refine el_nil (NoPanic.normal ?_)
          go_wp2_with fail
          go_ret
          exact ⟨ret_bool (by simp [ne_getG k1 k2 HE.out]), hbl.out.drew.trans (hb1.mono hbl.out.size)⟩
      · obtain rfl : k = n1 := by omega
        go_wp2_with fail
        go_ret
        exact ⟨ret_bool (by simp [take_allG H1.out H2.out hr.out]), hbl.out⟩
  · have hl' : ((l1.length : Int) != l2.length) = true := by simp; omega
    have HL := Lib.hid hl
    clear hl
    go_enter Tryz.func176, Tryz.ntmps176
    go_wp2_with fail
    go_ret
    refine ⟨ret_bool ?_, Below.refl _ _⟩
    symm
    simp only [decide_eq_false_iff_not]
    rintro rfl
    exact HL.out rfl
set_option maxRecDepth 100000 in
set_option maxHeartbeats 1000000 in
theorem eqOp_b (x y : OpT) (v0 v1 u0 u1 : Value) (w : World) (hx : Rd w [v0, v1] x) (hy : Rd w [u0, u1] y) :
    Calls Tryz.prog 21 #[.agg #[v0, v1], .agg #[u0, u1]] w fun e w' => e = .returned (.bool (decide (x = y))) ∧ Below w.heap.size w w' := by
  obtain ⟨x0, x1⟩ := x
  obtain ⟨y0, y1⟩ := y
  have tx0 := rd_cons rfl hx
  obtain ⟨rfl, Ix0⟩ := rd_i1 tx0.1
  have Rx1 := Lib.hid tx0.2
  obtain ⟨ax1, cx1, rfl, _⟩ := rd_list Rx1.out
  clear hx tx0
  have ty0 := rd_cons rfl hy
  obtain ⟨rfl, Iy0⟩ := rd_i1 ty0.1
  have Ry1 := Lib.hid ty0.2
  obtain ⟨ay1, cy1, rfl, _⟩ := rd_list Ry1.out
  clear hy ty0
  have hs := ((St.start w).alloc #[.int .i64 x0, .slice ax1 x1.length cx1] 34 rfl).alloc #[.int .i64 y0, .slice ay1 y1.length cy1] 34 (n := w.heap.size + 1) (by simp)
  go_enter Tryz.func21, Tryz.ntmps21
  by_cases E0 : x0 = y0
  rotate_left
  · have hb0 : (x0 != y0) = true := by simpa using E0
    have F := Lib.hid E0
    clear E0
    go_wp2_with fail
    go_ret
    exact ⟨ret_bool (by simp [F.out]), hs.bel⟩
  subst E0
  have hb0 : (x0 != x0) = false := by simp
  go_wp2_with fail
  refine (eqInt64S_b x1 y1 _ _ _ (Rd.mono Rx1.out hs.bel) (Rd.mono Ry1.out hs.bel)).mono ?_
  rintro e w1 ⟨rfl, hc1⟩
  have hs1 := hs.step hc1
  by_cases E1 : x1 = y1
  rotate_left
  · rw [decide_eq_false E1]
    have F := Lib.hid E1
    clear E1
    go_wp2_with fail
    go_ret
    exact ⟨ret_bool (by simp [F.out]), hs1.bel⟩
  rw [decide_eq_true E1]
  have G1 := Lib.hid E1
  clear E1
  have p0 := hs1.cellAt 0 rfl 0 rfl
  have q0 := hs1.cellAt 1 rfl 0 rfl
  have p1 := hs1.cellAt 0 rfl 1 rfl
  have q1 := hs1.cellAt 1 rfl 1 rfl
  go_wp2_with fail
  go_ret
  exact ⟨ret_bool (by simp [G1.out]), hs1.bel⟩
set_option maxRecDepth 100000 in
set_option maxHeartbeats 1000000 in
theorem eqRel_b (x y : RelT) (v0 v1 u0 u1 : Value) (w : World) (hx : Rd w [v0, v1] x) (hy : Rd w [u0, u1] y) :
    Calls Tryz.prog 135 #[.agg #[v0, v1], .agg #[u0, u1]] w fun e w' => e = .returned (.bool (decide (x = y))) ∧ Below w.heap.size w w' := by
  obtain ⟨x0, x1⟩ := x
  obtain ⟨y0, y1⟩ := y
  have tx0 := rd_cons rfl hx
  obtain ⟨rfl, Ix0⟩ := rd_i1 tx0.1
  have Rx1 := Lib.hid tx0.2
  obtain ⟨ax1, cx1, rfl, _⟩ := rd_list Rx1.out
  clear hx tx0
  have ty0 := rd_cons rfl hy
  obtain ⟨rfl, Iy0⟩ := rd_i1 ty0.1
  have Ry1 := Lib.hid ty0.2
  obtain ⟨ay1, cy1, rfl, _⟩ := rd_list Ry1.out
  clear hy ty0
  have hs := ((St.start w).alloc #[.int .i64 x0, .slice ax1 x1.length cx1] 50 rfl).alloc #[.int .i64 y0, .slice ay1 y1.length cy1] 50 (n := w.heap.size + 1) (by simp)
  go_enter Tryz.func135, Tryz.ntmps135
  by_cases E0 : x0 = y0
  rotate_left
  · have hb0 : (x0 != y0) = true := by simpa using E0
    have F := Lib.hid E0
    clear E0
    go_wp2_with fail
    go_ret
    exact ⟨ret_bool (by simp [F.out]), hs.bel⟩
  subst E0
  have hb0 : (x0 != x0) = false := by simp
  go_wp2_with fail
  refine (eqInt64SS_b x1 y1 _ _ _ (Rd.mono Rx1.out hs.bel) (Rd.mono Ry1.out hs.bel)).mono ?_
  rintro e w1 ⟨rfl, hc1⟩
  have hs1 := hs.step hc1
  by_cases E1 : x1 = y1
  rotate_left
  · rw [decide_eq_false E1]
    have F := Lib.hid E1
    clear E1
    go_wp2_with fail
    go_ret
    exact ⟨ret_bool (by simp [F.out]), hs1.bel⟩
  rw [decide_eq_true E1]
  have G1 := Lib.hid E1
  clear E1
  have p0 := hs1.cellAt 0 rfl 0 rfl
  have q0 := hs1.cellAt 1 rfl 0 rfl
  have p1 := hs1.cellAt 0 rfl 1 rfl
  have q1 := hs1.cellAt 1 rfl 1 rfl
  go_wp2_with fail
  go_ret
  exact ⟨ret_bool (by simp [G1.out]), hs1.bel⟩
set_option maxRecDepth 100000 in
set_option maxHeartbeats 1000000 in
theorem eqRelS_b (l1 l2 : List (RelT)) (v1 v2 : Value) (w : World) (r1 : Rd w [v1] l1) (r2 : Rd w [v2] l2) :
    Calls Tryz.prog 68 #[v1, v2] w fun e w' => e = .returned (.bool (decide (l1 = l2))) ∧ Below w.heap.size w w' := by
  obtain ⟨a1, c1, rfl, h1⟩ := rd_list r1
  obtain ⟨a2, c2, rfl, h2⟩ := rd_list r2
  clear r1 r2
  have b1 := (rdSl_len h1).2
  have b2 := (rdSl_len h2).2
  unfold maxLen at b1 b2
  have G1 := Lib.hid h1
  have G2 := Lib.hid h2
  clear h1 h2
  by_cases hl : l1.length = l2.length
  · generalize hn1 : l1.length = n1 at *
    generalize hn2 : l2.length = n2 at *
    have H1 := Lib.hid hn1
    have H2 := Lib.hid hn2
    clear hn1 hn2
    subst hl
    have hl' : ((n1 : Int) != n1) = false := by simp
    go_enter Tryz.func68, Tryz.ntmps68
    go_wp2_with fail
    go_loopw [5] (fun i wr => ∃ k : Nat, k ≤ n1 ∧ i = .int .i64 k ∧ Hid (Below w.heap.size w wr) ∧ Hid (l1.take k = l2.take k)) (fun i _ => n1 - (intOf i).toNat)
    case atStart => exact ⟨0, Nat.zero_le _, rfl, Below.refl _ _, by simp [Hid]⟩
    case round =>
      obtain ⟨k, hk, rfl, hbl, hr⟩ := hrel
      by_cases hlt : k < n1
      · have k1 : k < l1.length := by rw [H1.out]; exact hlt
        have k2 : k < l2.length := by rw [H2.out]; exact hlt
        obtain ⟨b1, o1, u0, u1, rfl, q0, q1, hx⟩ := rdSl_two rfl (rdSl_mono hbl.out G1.out) k k1
        obtain ⟨b2, o2, t0, t1, rfl, p0, p1, hy⟩ := rdSl_two rfl (rdSl_mono hbl.out G2.out) k k2
        have HX := Lib.hid hx
        have HY := Lib.hid hy
        clear hx hy
        by_cases he : l1[k] = l2[k]
        · have HE := Lib.hid he
          clear he
          go_wp2_with fail
          refine wp_region_noPanic (wp_region_el (fun w' => w'.cell? ⟨b1, o1 + k * 2, none⟩ = some u0 ∧ w'.cell? ⟨b1, o1 + k * 2 + 1, none⟩ = some u1 ∧ w'.cell? ⟨b2, o2 + k * 2, none⟩ = some t0 ∧ w'.cell? ⟨b2, o2 + k * 2 + 1, none⟩ = some t1) [(0, 0), (1, 0), (2, 0), (3, 0), (4, 0), (5, 0), (6, 0), (7, 0), (8, 1), (9, 0)] (by kernel_rfl) (by kernel_rfl) (by kernel_rfl) rfl ?_ (fun _ _ _ _ _ h => h) ?_)
          · exact ⟨q0, q1, p0, p1⟩
          (repeat (first | (apply el_skip rfl (by rfl); try simp only [Act.put, List.setIfInBounds_toArray, List.set_cons_zero, List.set_cons_succ]) | (apply el_float rfl (by rfl); (· (intro w' hS; go_simp <;> with_reducible rfl)); (try simp only [Act.put, List.setIfInBounds_toArray, List.set_cons_zero, List.set_cons_succ]))))
          refine el_hard rfl (by rfl) (fun K hK => ?_)
          go_wp2_with (go_at_call 135; refine (eqRel_b l1[k] l2[k] _ _ _ _ _ (Rd.mono HX.out (belowD _)) (Rd.mono HY.out (belowD _))).mono ?_; rintro e w1 ⟨rfl, hb1⟩)
          rw [decide_eq_true HE.out]
          refine ⟨⟨cellL hb1 q0, cellL hb1 q1, cellL hb1 p0, cellL hb1 p1⟩, ?_⟩
          (repeat (first | (apply el_skip rfl (by rfl); try simp only [Act.put, List.setIfInBounds_toArray, List.set_cons_zero, List.set_cons_succ]) | (apply el_float rfl (by rfl); (· (intro w' hS; go_simp <;> with_reducible rfl)); (try simp only [Act.put, List.setIfInBounds_toArray, List.set_cons_zero, List.set_cons_succ]))))
          refine el_nil (NoPanic.normal ?_)
          go_wp2_with fail
          go_roundw
          case rel => exact ⟨k + 1, by omega, by go_num, hbl.out.drew.trans (hb1.mono hbl.out.size), take_succG k1 k2 hr.out HE.out⟩
          case measure => simp [intOf]; omega
        · have HE := Lib.hid he
          clear he
          go_wp2_with fail
          refine wp_region_noPanic (wp_region_el (fun w' => w'.cell? ⟨b1, o1 + k * 2, none⟩ = some u0 ∧ w'.cell? ⟨b1, o1 + k * 2 + 1, none⟩ = some u1 ∧ w'.cell? ⟨b2, o2 + k * 2, none⟩ = some t0 ∧ w'.cell? ⟨b2, o2 + k * 2 + 1, none⟩ = some t1) [(0, 0), (1, 0), (2, 0), (3, 0), (4, 0), (5, 0), (6, 0), (7, 0), (8, 1), (9, 0)] (by kernel_rfl) (by kernel_rfl) (by kernel_rfl) rfl ?_ (fun _ _ _ _ _ h => h) ?_)
          · exact ⟨q0, q1, p0, p1⟩
          (repeat (first | (apply el_skip rfl (by rfl); try simp only [Act.put, List.setIfInBounds_toArray, List.set_cons_zero, List.set_cons_succ]) | (apply el_float rfl (by rfl); (· (intro w' hS; go_simp <;> with_reducible rfl)); (try simp only [Act.put, List.setIfInBounds_toArray, List.set_cons_zero, List.set_cons_succ]))))
          refine el_hard rfl (by rfl) (fun K hK => ?_)
          go_wp2_with (go_at_call 135; refine (eqRel_b l1[k] l2[k] _ _ _ _ _ (Rd.mono HX.out (belowD _)) (Rd.mono HY.out (belowD _))).mono ?_; rintro e w1 ⟨rfl, hb1⟩)
          rw [decide_eq_false HE.out]
          refine ⟨⟨cellL hb1 q0, cellL hb1 q1, cellL hb1 p0, cellL hb1 p1⟩, ?_⟩
          (repeat (first | (apply el_skip rfl (by rfl); try simp only [Act.put, List.setIfInBounds_toArray, List.set_cons_zero, List.set_cons_succ]) | (apply el_float rfl (by rfl); (· (intro w' hS; go_simp <;> with_reducible rfl)); (try simp only [Act.put, List.setIfInBounds_toArray, List.set_cons_zero, List.set_cons_succ]))))
          refine el_nil (NoPanic.normal ?_)
          go_wp2_with fail
          go_ret
          exact ⟨ret_bool (by simp [ne_getG k1 k2 HE.out]), hbl.out.drew.trans (hb1.mono hbl.out.size)⟩
      · obtain rfl : k = n1 := by omega
        go_wp2_with fail
        go_ret
        exact ⟨ret_bool (by simp [take_allG H1.out H2.out hr.out]), hbl.out⟩
  · have hl' : ((l1.length : Int) != l2.length) = true := by simp; omega
    have HL := Lib.hid hl
    clear hl
    go_enter Tryz.func68, Tryz.ntmps68
    go_wp2_with fail
    go_ret
    refine ⟨ret_bool ?_, Below.refl _ _⟩
    symm
    simp only [decide_eq_false_iff_not]
    rintro rfl
    exact HL.out rfl
set_option maxRecDepth 100000 in
set_option maxHeartbeats 1000000 in
theorem eqTemplate_b (x y : Tmpl) (v0 v1 u0 u1 : Value) (w : World) (hx : Rd w [v0, v1] x) (hy : Rd w [u0, u1] y) :
    Calls Tryz.prog 22 #[.agg #[v0, v1], .agg #[u0, u1]] w fun e w' => e = .returned (.bool (decide (x = y))) ∧ Below w.heap.size w w' := by
  obtain ⟨x0, x1⟩ := x
  obtain ⟨y0, y1⟩ := y
  have tx0 := rd_cons rfl hx
  obtain ⟨rfl, Ix0⟩ := rd_i1 tx0.1
  have Rx1 := Lib.hid tx0.2
  obtain ⟨ax1, cx1, rfl, _⟩ := rd_list Rx1.out
  clear hx tx0
  have ty0 := rd_cons rfl hy
  obtain ⟨rfl, Iy0⟩ := rd_i1 ty0.1
  have Ry1 := Lib.hid ty0.2
  obtain ⟨ay1, cy1, rfl, _⟩ := rd_list Ry1.out
  clear hy ty0
  have hs := ((St.start w).alloc #[.int .i64 x0, .slice ax1 x1.length cx1] 26 rfl).alloc #[.int .i64 y0, .slice ay1 y1.length cy1] 26 (n := w.heap.size + 1) (by simp)
  go_enter Tryz.func22, Tryz.ntmps22
  by_cases E0 : x0 = y0
  rotate_left
  · have hb0 : (x0 != y0) = true := by simpa using E0
    have F := Lib.hid E0
    clear E0
    go_wp2_with fail
    go_ret
    exact ⟨ret_bool (by simp [F.out]), hs.bel⟩
  subst E0
  have hb0 : (x0 != x0) = false := by simp
  go_wp2_with fail
  refine (eqRelS_b x1 y1 _ _ _ (Rd.mono Rx1.out hs.bel) (Rd.mono Ry1.out hs.bel)).mono ?_
  rintro e w1 ⟨rfl, hc1⟩
  have hs1 := hs.step hc1
  by_cases E1 : x1 = y1
  rotate_left
  · rw [decide_eq_false E1]
    have F := Lib.hid E1
    clear E1
    go_wp2_with fail
    go_ret
    exact ⟨ret_bool (by simp [F.out]), hs1.bel⟩
  rw [decide_eq_true E1]
  have G1 := Lib.hid E1
  clear E1
  have p0 := hs1.cellAt 0 rfl 0 rfl
  have q0 := hs1.cellAt 1 rfl 0 rfl
  have p1 := hs1.cellAt 0 rfl 1 rfl
  have q1 := hs1.cellAt 1 rfl 1 rfl
  go_wp2_with fail
  go_ret
  exact ⟨ret_bool (by simp [G1.out]), hs1.bel⟩
theorem eqOp_s (x : OpT) (v0 v1 u0 u1 : Value) (w : World) (hx : Rd w [v0, v1] x) (hy : Rd w [u0, u1] x) :
    Calls Tryz.prog 21 #[.agg #[v0, v1], .agg #[u0, u1]] w fun e w' => e = .returned (.bool true) ∧ Below w.heap.size w w' :=
  (eqOp_b x x v0 v1 u0 u1 w hx hy).mono fun e w' ⟨he, hb⟩ => ⟨by rw [he]; simp, hb⟩
theorem eqTemplate_s (x : Tmpl) (v0 v1 u0 u1 : Value) (w : World) (hx : Rd w [v0, v1] x) (hy : Rd w [u0, u1] x) :
    Calls Tryz.prog 22 #[.agg #[v0, v1], .agg #[u0, u1]] w fun e w' => e = .returned (.bool true) ∧ Below w.heap.size w w' :=
  (eqTemplate_b x x v0 v1 u0 u1 w hx hy).mono fun e w' ⟨he, hb⟩ => ⟨by rw [he]; simp, hb⟩

end Go.Proofs.YtllenfkbfeanmaaGreat

/-
  CONTRACTS: mark and held on slices of slices and of equations.
-/
namespace Go.Proofs.YtllenfkbfeanmaaGreat
open Go.RowKit
open Rep (Rd Own sz)
set_option linter.unusedSimpArgs false
set_option linter.unusedVariables false

theorem putArr_same {cur : Array Value} {o : Nat} {v : Value} (vs : List Value) (h : cur[o]? = some v) : putArr cur o (v :: vs) = putArr cur (o + 1) vs := by
  rw [putArr]
  congr 1
  apply Array.ext_getElem?
  intro i
  by_cases hi : o = i
  · subst hi
    have := (Array.getElem?_eq_some_iff.1 h).1
    rw [Array.getElem?_setIfInBounds_self_of_lt this, h]
  · rw [Array.getElem?_setIfInBounds_ne hi]
theorem set_mid {α : Type} {ys l : List α} {j : Nat} (hy : ys.length = j) (hj : j < l.length) (y : α) : (ys ++ l.drop j).set j y = (ys ++ [y]) ++ l.drop (j + 1) := by
  subst hy
  rw [List.set_append_right _ _ (Nat.le_refl _), Nat.sub_self, List.drop_eq_getElem_cons hj, List.set_cons_zero, List.append_assoc]; rfl
theorem get_mid {α : Type} {ys l : List α} {j : Nat} (hy : ys.length = j) (hj : j < l.length) (h : j < (ys ++ l.drop j).length) : (ys ++ l.drop j)[j] = l[j] := by
  subst hy
  rw [List.getElem_append_right (Nat.le_refl _)]
  simp
theorem len_mid {α : Type} {ys l : List α} {j : Nat} (hy : ys.length = j) (hj : j ≤ l.length) : (ys ++ l.drop j).length = l.length := by simp [hy]; omega

def heldLists : List (List Int) → Int → Int → Prop := heldL heldInts
set_option maxRecDepth 100000 in
set_option maxHeartbeats 1000000 in
theorem markInt64SS_h (l : List (List Int)) (v : Value) (ps : List Nat) (k : Int) (w : World) (r : Own ps w [v] l) (hn : ps.Nodup) (k0 : 0 ≤ k) (k1 : k + (l.map List.length).sum ≤ 1000000000) :
    Calls Tryz.prog 136 #[v, .int .i64 k] w fun e w' => ∃ y m, e = .returned (.int .i64 m) ∧ k ≤ m ∧ m ≤ k + (l.map List.length).sum ∧ Own ps w' [v] y ∧ heldLists y k m ∧ y.length = l.length ∧ But ps w w' := by
  have r' := own_list r
  obtain ⟨a, c, hv, hb⟩ := ownSl_len r'
  unfold maxLen at hb
  have HV := Lib.hid hv
  have R := Lib.hid r'
  have HN := Lib.hid hn
  rw [hv]
  clear hv r r' hn
  go_enter Tryz.func136, Tryz.ntmps136
  go_wp2_with fail
  go_loopw [1, 5] (fun kk i wr => ∃ (j : Nat) (ys : List (List Int)) (q : Int), j ≤ l.length ∧ i = .int .i64 j ∧ kk = .int .i64 q ∧ k ≤ q ∧ q ≤ k + (sumTo List.length l j : Nat) ∧ Hid (ys.length = j) ∧ Hid (heldLists ys k q) ∧ Hid (But ps w wr) ∧ Hid (OwnSl ps wr v (ys ++ l.drop j))) (fun _ i _ => l.length - (intOf i).toNat)
  case atStart => exact ⟨0, [], k, Nat.zero_le _, rfl, rfl, Int.le_refl _, by simp [sumTo], rfl, rfl, But.refl _ _, by simpa [Hid] using R.out⟩
  case round =>
    obtain ⟨j, ys, q, hj, rfl, rfl, q0, q1, hyl, hh, hbut, hown⟩ := hrel
    by_cases hlt : j < l.length
    · obtain ⟨g, o, c', cur, e, p, vs, hv2, hg, hO, hc, hgp, hgn, hpn, hpp, hput⟩ := own_elem hown.out HN.out j (by rw [len_mid hyl.out hj]; exact hlt)
      rw [get_mid hyl.out hlt] at hO
      rw [len_mid hyl.out hj] at hv2
      have hv3 := HV.out
      rw [hv2] at hv3
      simp only [Value.slice.injEq] at hv3
      obtain ⟨rfl, -, rfl⟩ := hv3
      have hvl := Rep.rd_len (Rep.own_rd hO)
      obtain ⟨u0, rfl⟩ := List.length_eq_one_iff.1 hvl
      have hs0 := sumTo_succ List.length l j hlt
      have hs1 := sumTo_le List.length l (j + 1)
      have hcell : wr.cell? ⟨g, o + j, none⟩ = some u0 := by
        have := hc 0 (by simp)
        rw [cell_at_block hg]
        simpa using this
      have HO := Lib.hid hO
      have HG := Lib.hid hg
      have HC := Lib.hid hc
      have HP := Lib.hid hput
      have HPP := Lib.hid hpp
      have HGN := Lib.hid hgn
      have HS := Lib.hid hs0
      have HS1 := Lib.hid hs1
      obtain ⟨a0, c0, rfl, _⟩ := rd_list (Rep.own_rd hO)
      clear hO hg hc hput hs0 hs1 hv2
      go_wp2_with fail
      refine (markInt64S_h l[j] _ p q _ HO.out (by omega) (by have := HS.out; have := HS1.out; omega)).mono ?_
      rintro e1 w1 ⟨y, m, rfl, m0, m1, hy, hh1, _, hb1⟩
      have HY := Lib.hid hy
      have HH1 := Lib.hid hh1
      clear hy hh1
      go_wp2_with fail
      go_roundw
      case rel =>
        refine ⟨j + 1, ys ++ [y], m, by omega, by go_num, rfl, by omega, by have := HS.out; omega, ?_, ?_, ?_, ?_⟩
        · simp [Hid, hyl.out]
        · exact heldL_snoc hh.out HH1.out m0
        · exact hbut.out.trans (hb1.mono HPP.out)
        · show OwnSl _ _ _ _
          rw [← set_mid hyl.out hlt]
          have hgl : g < wr.heap.size := (Array.getElem?_eq_some_iff.1 HG.out).1
          refine HP.out w1 _ y ?_ HY.out (fun z hz hzp _ => ?_)
          · rw [hb1.block g hgl HGN.out, HG.out, putArr_same _ (by simpa using HC.out 0 (by simp))]
            rfl
          · by_cases hzl : z < wr.heap.size
            · exact hb1.block z hzl hzp
            · have hO2 : Own ps wr [v] (ys ++ l.drop j) := ⟨v, rfl, hown.out⟩
              have := Rep.own_lt hO2 z hz
              omega
      case measure => simp [intOf]; omega
    · obtain rfl : j = l.length := by omega
      have hs := sumTo_all List.length l
      go_wp2_with fail
      go_ret
      have hfin := hown.out
      rw [List.drop_length, List.append_nil] at hfin
      rw [← HV.out]
      exact ⟨ys, q, rfl, q0, by rw [← hs]; exact q1, ⟨_, rfl, hfin⟩, hh.out, hyl.out, hbut.out⟩

end Go.Proofs.YtllenfkbfeanmaaGreat

/-
  CONTRACTS of the laws' functions on types: open: what the row lays down is read. (Printed by wip/gentypes.py.)
-/
namespace Go.Proofs.YtllenfkbfeanmaaGreat
open Go.RowKit Go.ChangeShapes Go.WideShapes Go.Deep Go.Joins
open Rep (Rd Own sz)
set_option linter.unusedSimpArgs false
set_option linter.unusedVariables false


def Opens (P : Program) (t : TypeId) (α : Type) [Rep α] : Prop :=
  ∀ {H : Type} {enc : TypeId × Value → H} {w : World} {base : Nat} {spare : Nat → Bool} {held : Bool} {fuel : Nat} {cs : List Value} {x : DataW H × List MemPlace},
    DataW.trod enc P w base spare held fuel t cs = some x → ∃ a : α, Rd w cs a
variable {P : Program} {t : TypeId}
theorem choose_list {α : Type} {p : Nat → α → Prop} : ∀ n, (∀ i, i < n → ∃ y, p i y) → ∃ l : List α, l.length = n ∧ ∀ i (h : i < l.length), p i l[i]
  | 0, _ => ⟨[], rfl, fun i h => absurd h (Nat.not_lt_zero _)⟩
  | n + 1, h => by
    obtain ⟨l, hl, hp⟩ := choose_list n (fun i hi => h i (by omega))
    obtain ⟨y, hy⟩ := h n (by omega)
    refine ⟨l ++ [y], by simp [hl], fun i hi => ?_⟩
    by_cases hlt : i < l.length
    · rw [List.getElem_append_left hlt]; exact hp i hlt
    · have : i = l.length := by simp at hi; omega
      subst this
      rw [List.getElem_append_right (by omega)]
      simp only [Nat.sub_self, List.getElem_cons_zero]
      rw [hl]; exact hy
theorem opens_int (ht : P.underlying t = some (.int .i64)) : Opens P t Int := by
  intro H enc w base spare held fuel cs x h
  obtain ⟨n, rfl, _, hw⟩ := DataW.trod_int ht h
  refine ⟨n, rfl, ?_⟩
  simp [Lit.wf, IntKind.min, IntKind.max, IntKind.signed, IntKind.bits] at hw
  exact ⟨by omega, by omega⟩
theorem opens_list {α : Type} [Rep α] {e : TypeId} (ht : P.underlying t = some (.slice e)) (hC : P.cellsOf e = sz α) (hz : 0 < sz α) (he : Opens P e α) : Opens P t (List α) := by
  intro H enc w base spare held fuel cs x h
  rcases open_slice ht h with ⟨rfl, _⟩ | ⟨a, len, cap, m, n, D, Pl, rfl, hb, hl, hm, hmm, _, hi⟩
  · exact ⟨[], none, 0, rfl, Nat.zero_le _, Nat.zero_le _, fun i hi => absurd hi (Nat.not_lt_zero _)⟩
  · have hlm : len ≤ m := by rw [hmm]; split <;> omega
    obtain ⟨l, hll, hp⟩ := choose_list (p := fun i (y : α) => ∃ cs', Rd w cs' y ∧ w.cells? base (a.add (i * P.cellsOf e)) (P.cellsOf e) = some cs') len (fun i hlt => by
      obtain ⟨cs', h1, h2⟩ := hi i (by omega)
      obtain ⟨y, hy⟩ := he h2
      exact ⟨y, cs', hy, h1⟩)
    subst hll
    refine ⟨l, some a, cap, rfl, hl, hm, fun i hil => ?_⟩
    obtain ⟨cs', hy, hc⟩ := hp i hil
    obtain ⟨_, hcl, hat⟩ := World.cells?_some hc
    obtain ⟨b, off, spot⟩ := a
    have hspot : spot = none := by
      obtain ⟨cs0, _, hc0⟩ := hp 0 (by omega)
      obtain ⟨_, hcl0, hat0⟩ := World.cells?_some hc0
      have h0 := hat0 0 (by omega)
      rw [List.getElem?_eq_getElem (by omega)] at h0
      simpa [Addr.add] using World.cell?_spot h0
    subst hspot
    refine ⟨b, off, cs', rfl, hy, fun k hk => ?_⟩
    have := hat k (by omega)
    rw [hC] at this
    rw [← this, add_add]
    unfold Addr.add
    split
    · rename_i hz; rw [Nat.add_assoc, hz]; rfl
    · simp [Nat.add_assoc]

theorem opens_struct2 {α0 α1 : Type} [Rep α0] [Rep α1] {f0 f1 : Field} (hs : P.underlying t = some (.struct #[f0, f1])) (hone : oneCellFields P #[f0, f1] = true) (hC : P.cellsOf t = 2) (h0 : Opens P f0.type α0) (h1 : Opens P f1.type α1) (z0 : sz α0 = 1) : Opens P t (α0 × α1) := by
  intro H enc w base spare held fuel cs x h
  obtain ⟨xs, n, _, _, hcl, hlen, hg⟩ := DataW.trod_struct hs h
  rw [hC] at hcl
  match cs, hcl with
  | [c0, c1], _ =>
    match xs, hlen with
    | [y0, y1], _ =>
      obtain ⟨o0, k0⟩ := hone_of hone 0 f0 rfl
      have g0 := hg 0 f0 rfl
      rw [o0, k0] at g0
      obtain ⟨a0, r0⟩ := h0 (cs := [c0]) (x := y0) (by simpa using g0)
      obtain ⟨o1, k1⟩ := hone_of hone 1 f1 rfl
      have g1 := hg 1 f1 rfl
      rw [o1, k1] at g1
      obtain ⟨a1, r1⟩ := h1 (cs := [c1]) (x := y1) (by simpa using g1)
      exact ⟨(a0, a1), mk_cons r0 (r1)⟩
theorem opens_int64 : Opens Tryz.prog 2 Int := opens_int Tryz.underlying2
theorem opens_Int64S : Opens Tryz.prog 32 (List Int) := opens_list Tryz.underlying32 (by kernel_rfl) (by decide) opens_int64
theorem opens_Int64SS : Opens Tryz.prog 37 (List (List Int)) := opens_list Tryz.underlying37 (by kernel_rfl) (by decide) opens_Int64S
theorem opens_Rel : Opens Tryz.prog 144 RelT := opens_struct2 Tryz.underlying144 (by kernel_rfl) (by kernel_rfl) opens_int64 opens_Int64SS rfl
theorem opens_RelS : Opens Tryz.prog 51 (List (RelT)) := opens_list Tryz.underlying51 (by kernel_rfl) (by decide) opens_Rel
theorem opens_Template : Opens Tryz.prog 53 Tmpl := opens_struct2 Tryz.underlying53 (by kernel_rfl) (by kernel_rfl) opens_int64 opens_RelS rfl
theorem len_2 {α : Type} {l : List α} (h : l.length = 2) : ∃ a0 a1, l = [a0, a1] := by
  match l, h with
  | [a0, a1], _ => exact ⟨a0, a1, rfl⟩
end Go.Proofs.YtllenfkbfeanmaaGreat

/-
  CONTRACTS: mark and held on slices of equations.
-/
namespace Go.Proofs.YtllenfkbfeanmaaGreat
open Go.RowKit
open Rep (Rd Own sz)
set_option linter.unusedSimpArgs false
set_option linter.unusedVariables false


end Go.Proofs.YtllenfkbfeanmaaGreat

/-
  CONTRACTS: mark and held, all in one shape.
-/
namespace Go.Proofs.YtllenfkbfeanmaaGreat
open Go.RowKit
open Rep (Rd Own sz)
set_option linter.unusedSimpArgs false
set_option linter.unusedVariables false

end Go.Proofs.YtllenfkbfeanmaaGreat

