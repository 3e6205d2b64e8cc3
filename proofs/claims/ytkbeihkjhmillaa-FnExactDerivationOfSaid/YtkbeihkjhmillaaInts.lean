/-
  CONTRACTS of the functions on slices of ints.
-/
import Derived.Test.YtkbeihkjhmillaaNum
import Derived.Test.YtkbeihkjhmillaaTyp
import Derived.Deep.QuietTactic
import Derived.BigQuiet
namespace Go.Proofs.Ytkbeihkjhmillaa
open Go.RowKit
open Rep (Rd Own sz)
set_option linter.unusedSimpArgs false
set_option linter.unusedVariables false

theorem take_eq_succ {l1 l2 : List Int} {k n : Nat} (h1 : l1.length = n) (h2 : l2.length = n) (hk : k < n) (h : l1.take k = l2.take k) (e : l1.getD k 0 = l2.getD k 0) : l1.take (k + 1) = l2.take (k + 1) := by
  rw [List.take_succ_eq_append_getElem (by omega), List.take_succ_eq_append_getElem (by omega), h]
  have : l1[k]'(by omega) = l2[k]'(by omega) := by simpa [List.getD, h1, h2, hk] using e
  rw [this]
theorem drewN_below (w : World) (n : Nat) : Below w.heap.size w (w.drewN n) := ⟨rfl, rfl, rfl, Nat.le_refl _, fun _ _ => rfl⟩


set_option maxHeartbeats 400000 in
theorem eqInt64S_c (l1 l2 : List Int) (v1 v2 : Value) (w : World) (r1 : Rd w [v1] l1) (r2 : Rd w [v2] l2) :
    Calls Try.prog 21 #[v1, v2] w fun e w' => e = .returned (.bool (decide (l1 = l2))) ∧ ∃ n, w' = w.drewN n := by
  obtain ⟨a1, c1, rfl, h1⟩ := rd_list r1
  obtain ⟨a2, c2, rfl, h2⟩ := rd_list r2
  clear r1 r2
  have b1 := (rdSl_len h1).2
  have b2 := (rdSl_len h2).2
  unfold maxLen at b1 b2
  by_cases hl : l1.length = l2.length
  · generalize hn1 : l1.length = n1 at *
    generalize hn2 : l2.length = n2 at *
    have H1 := Lib.hid hn1
    have H2 := Lib.hid hn2
    clear hn1 hn2
    subst hl
    have hl' : ((n1 : Int) != n1) = false := by simp
    go_enter Try.func21, Try.ntmps21
    go_wp2
    go_loopw [5] (fun i wr => ∃ k n : Nat, k ≤ n1 ∧ i = .int .i64 k ∧ wr = w.drewN n ∧ l1.take k = l2.take k) (fun i _ => n1 - (intOf i).toNat)
    case atStart => exact ⟨0, 0, Nat.zero_le _, rfl, rfl, by simp⟩
    case round =>
      obtain ⟨k, n, hk, rfl, rfl, hr⟩ := hrel
      by_cases hlt : k < n1
      · obtain ⟨b1, o1, rfl, hc1, _⟩ := rdSl_int h1 k (by rw [H1.out]; exact hlt)
        obtain ⟨b2, o2, rfl, hc2, _⟩ := rdSl_int h2 k (by rw [H2.out]; exact hlt)
        clear h1 h2
        have HR := Lib.hid hr
        clear hr
        go_wp2
        go_quiet (fail)
        go_wp2
        · rename_i hne
          go_ret
          refine ⟨ret_bool ?_, _, by simp; rfl⟩
          simp only [bne_iff_ne, ne_eq] at hne
          symm
          simp only [decide_eq_false_iff_not]
          rintro rfl
          exact hne rfl
        · rename_i he
          go_roundw
          case rel => exact ⟨k + 1, n + _, by omega, by go_num, rfl, take_eq_succ H1.out H2.out hlt HR.out (by simpa using he)⟩
          case measure => simp [intOf]; omega
      · obtain rfl : k = n1 := by omega
        have HR := Lib.hid hr
        clear hr
        go_wp2
        go_ret
        refine ⟨ret_bool ?_, n, rfl⟩
        have := HR.out
        rw [List.take_of_length_le (by rw [H1.out]; exact Nat.le_refl _), List.take_of_length_le (by rw [H2.out]; exact Nat.le_refl _)] at this
        simp [this]
  · have hl' : ((l1.length : Int) != l2.length) = true := by simp; omega
    have HL := Lib.hid hl
    clear hl
    go_enter Try.func21, Try.ntmps21
    go_wp2
    go_ret
    refine ⟨ret_bool ?_, 0, rfl⟩
    symm
    simp only [decide_eq_false_iff_not]
    rintro rfl
    exact HL.out rfl
set_option maxHeartbeats 400000 in
theorem l00Same_c (l1 l2 : List Int) (v1 v2 : Value) (w : World) (r1 : Rd w [v1] l1) (r2 : Rd w [v2] l2) :
    Calls Try.prog 103 #[v1, v2] w fun e w' => e = .returned (.bool (decide (l1 = l2))) ∧ ∃ n, w' = w.drewN n := by
  obtain ⟨a1, c1, rfl, h1⟩ := rd_list r1
  obtain ⟨a2, c2, rfl, h2⟩ := rd_list r2
  clear r1 r2
  have b1 := (rdSl_len h1).2
  have b2 := (rdSl_len h2).2
  unfold maxLen at b1 b2
  by_cases hl : l1.length = l2.length
  · generalize hn1 : l1.length = n1 at *
    generalize hn2 : l2.length = n2 at *
    have H1 := Lib.hid hn1
    have H2 := Lib.hid hn2
    clear hn1 hn2
    subst hl
    have hl' : ((n1 : Int) != n1) = false := by simp
    go_enter Try.func103, Try.ntmps103
    go_wp2
    go_loopw [5] (fun i wr => ∃ k n : Nat, k ≤ n1 ∧ i = .int .i64 k ∧ wr = w.drewN n ∧ l1.take k = l2.take k) (fun i _ => n1 - (intOf i).toNat)
    case atStart => exact ⟨0, 0, Nat.zero_le _, rfl, rfl, by simp⟩
    case round =>
      obtain ⟨k, n, hk, rfl, rfl, hr⟩ := hrel
      by_cases hlt : k < n1
      · obtain ⟨b1, o1, rfl, hc1, _⟩ := rdSl_int h1 k (by rw [H1.out]; exact hlt)
        obtain ⟨b2, o2, rfl, hc2, _⟩ := rdSl_int h2 k (by rw [H2.out]; exact hlt)
        clear h1 h2
        have HR := Lib.hid hr
        clear hr
        go_wp2
        go_quiet (fail)
        go_wp2
        · rename_i hne
          go_ret
          refine ⟨ret_bool ?_, _, by simp; rfl⟩
          simp only [bne_iff_ne, ne_eq] at hne
          symm
          simp only [decide_eq_false_iff_not]
          rintro rfl
          exact hne rfl
        · rename_i he
          go_roundw
          case rel => exact ⟨k + 1, n + _, by omega, by go_num, rfl, take_eq_succ H1.out H2.out hlt HR.out (by simpa using he)⟩
          case measure => simp [intOf]; omega
      · obtain rfl : k = n1 := by omega
        have HR := Lib.hid hr
        clear hr
        go_wp2
        go_ret
        refine ⟨ret_bool ?_, n, rfl⟩
        have := HR.out
        rw [List.take_of_length_le (by rw [H1.out]; exact Nat.le_refl _), List.take_of_length_le (by rw [H2.out]; exact Nat.le_refl _)] at this
        simp [this]
  · have hl' : ((l1.length : Int) != l2.length) = true := by simp; omega
    have HL := Lib.hid hl
    clear hl
    go_enter Try.func103, Try.ntmps103
    go_wp2
    go_ret
    refine ⟨ret_bool ?_, 0, rfl⟩
    symm
    simp only [decide_eq_false_iff_not]
    rintro rfl
    exact HL.out rfl

/-- The numbers that 'mark' writes. -/
def marks (k : Int) : Nat → List Int
  | 0 => []
  | n + 1 => k :: marks (k + 1) n
@[simp] theorem marks_length (k : Int) (n : Nat) : (marks k n).length = n := by induction n generalizing k with
  | zero => rfl
  | succ n ih => simp [marks, ih]
theorem marks_get (k : Int) (n i : Nat) (h : i < n) : (marks k n)[i]? = some (k + i) := by
  induction n generalizing k i with
  | zero => omega
  | succ n ih =>
    cases i with
    | zero => simp [marks]
    | succ i => simp only [marks, List.getElem?_cons_succ]; rw [ih (k + 1) i (by omega)]; congr 1; omega
/-- Behind i rounds of 'mark'. -/
def markedTo (k : Int) (l : List Int) (i : Nat) : List Int := marks k i ++ l.drop i
theorem markedTo_length (k : Int) (l : List Int) (i : Nat) (h : i ≤ l.length) : (markedTo k l i).length = l.length := by simp [markedTo]; omega
theorem markedTo_zero (k : Int) (l : List Int) : markedTo k l 0 = l := by simp [markedTo, marks]
theorem markedTo_all (k : Int) (l : List Int) : markedTo k l l.length = marks k l.length := by simp [markedTo]
theorem markedTo_succ (k : Int) (l : List Int) (i : Nat) (h : i < l.length) : (markedTo k l i).set i (k + i) = markedTo k l (i + 1) := by
  have hl := markedTo_length k l i (by omega)
  have hl' := markedTo_length k l (i + 1) (by omega)
  apply List.ext_getElem?
  intro j
  rw [List.getElem?_set]
  by_cases hj : j < l.length
  · by_cases hij : i = j
    · subst hij
      rw [if_pos rfl, if_pos (by omega)]
      simp only [markedTo]
      rw [List.getElem?_append_left (by simp), marks_get _ _ _ (by omega)]
    · rw [if_neg hij]
      simp only [markedTo]
      by_cases hji : j < i
      · rw [List.getElem?_append_left (by simpa using hji), List.getElem?_append_left (by simp; omega), marks_get _ _ _ hji, marks_get _ _ _ (by omega)]
      · rw [List.getElem?_append_right (by simp; omega), List.getElem?_append_right (by simp; omega)]
        simp only [marks_length, List.getElem?_drop]
        congr 1; omega
  · rw [List.getElem?_eq_none (by omega : (markedTo k l (i + 1)).length ≤ j)]
    split
    · omega
    · rw [List.getElem?_eq_none (by omega)]
theorem i64_of (n : Int) (h1 : 0 ≤ n) (h2 : n ≤ 1000000000000) : I64 n := ⟨by omega, by omega⟩
set_option maxHeartbeats 400000 in
theorem markInt64S_c (l : List Int) (v : Value) (ps : List Nat) (k : Int) (w : World) (r : OwnSl ps w v l) (k0 : 0 ≤ k) (k1 : k + l.length ≤ 1000000000) :
    Calls Try.prog 29 #[v, .int .i64 k] w fun e w' => e = .returned (.int .i64 (k + l.length)) ∧ OnlyAt ps w w' ∧ OwnSl ps w' v (marks k l.length) := by
  obtain ⟨a, c, hv, hb⟩ := ownSl_len r
  unfold maxLen at hb
  have HV := Lib.hid hv
  rw [hv]
  clear hv
  generalize hn : l.length = n at *
  have HN := Lib.hid hn
  clear hn
  have R := Lib.hid r
  clear r
  go_enter Try.func29, Try.ntmps29
  go_wp2
  go_loopw [1, 5] (fun kk i wr => ∃ j : Nat, j ≤ n ∧ i = .int .i64 j ∧ kk = .int .i64 (k + j) ∧ OnlyAt ps w wr ∧ OwnSl ps wr v (markedTo k l j)) (fun _ i _ => n - (intOf i).toNat)
  case atStart => exact ⟨0, Nat.zero_le _, rfl, by simp, OnlyAt.refl _ _, by rw [markedTo_zero]; exact R.out⟩
  case round =>
    obtain ⟨j, hj, rfl, rfl, ho, hw⟩ := hrel
    have HO := Lib.hid ho
    clear ho
    by_cases hlt : j < n
    · obtain ⟨g, o, c', hv, hps, hc, hf, hset⟩ := ownSl_int hw j (by rw [markedTo_length _ _ _ (by rw [HN.out]; omega), HN.out]; exact hlt)
      have hv2 := HV.out
      rw [hv] at hv2
      simp only [Value.slice.injEq] at hv2
      obtain ⟨rfl, _, rfl⟩ := hv2
      have HS := Lib.hid (hset (k + j) (i64_of _ (by omega) (by omega)))
      rw [markedTo_succ _ _ _ (by rw [HN.out]; exact hlt)] at HS
      clear hset hw
      have HP := Lib.hid hps
      clear hps hv
      go_wp2
      go_roundw
      case rel => exact ⟨j + 1, by omega, by go_num, by go_num, HO.out.setCell (by rw [HP.out]; simp) _, HS.out⟩
      case measure => simp [intOf]; omega
    · obtain rfl : j = n := by omega
      have HW := Lib.hid hw
      clear hw
      go_wp2
      go_ret
      refine ⟨rfl, HO.out, ?_⟩
      have := HW.out
      rw [← HN.out, markedTo_all, HN.out] at this
      rw [← HV.out]
      exact this

theorem marks_getD (k : Int) (n i : Nat) (h : i < n) : (marks k n).getD i 0 = k + i := by simp [List.getD, marks_get k n i h]
set_option maxHeartbeats 400000 in
theorem heldInt64S_c (n : Nat) (v : Value) (k : Int) (w : World) (r : Rd w [v] (marks k n)) (k0 : 0 ≤ k) (k1 : k + n ≤ 1000000000) :
    Calls Try.prog 30 #[v, .int .i64 k] w fun e w' => e = .returned (.int .i64 (k + n)) ∧ w = w' := by
  obtain ⟨a, c, rfl, h⟩ := rd_list r
  clear r
  have hb := (rdSl_len h).2
  rw [marks_length] at hb ⊢
  unfold maxLen at hb
  go_enter Try.func30, Try.ntmps30
  go_wp2
  go_loop [1, 5] (fun kk i => ∃ j : Nat, j ≤ n ∧ i = .int .i64 j ∧ kk = .int .i64 (k + j)) (fun _ i => n - (intOf i).toNat)
  case atStart => exact ⟨0, Nat.zero_le _, rfl, by simp⟩
  case round =>
    obtain ⟨j, hj, rfl, rfl⟩ := hrel
    by_cases hlt : j < n
    · obtain ⟨b, o, rfl, hc, _⟩ := rdSl_int h j (by simpa using hlt)
      rw [marks_getD _ _ _ hlt] at hc
      have hne : (k + (j : Int) != k + j) = false := by simp
      clear h
      go_wp2
      go_round
      case rel => exact ⟨j + 1, by omega, by go_num, by go_num⟩
      case measure => simp [intOf]; omega
    · obtain rfl : j = n := by omega
      clear h
      go_wp2
      go_ret
      exact ⟨rfl, rfl⟩
/-- What is left of a budget. -/
def less (left n : Int) : Int := if left - n < 0 then -1 else left - n
set_option maxHeartbeats 400000 in
theorem szInt64S_c (l : List Int) (v : Value) (left : Int) (w : World) (r : Rd w [v] l) (h0 : 0 ≤ left) (h1 : left ≤ 1048576) :
    Calls Try.prog 90 #[v, .int .i64 left] w fun e w' => e = .returned (.int .i64 (less left l.length)) ∧ w = w' := by
  obtain ⟨a, c, rfl, h⟩ := rd_list r
  have hb := (rdSl_len h).2
  unfold maxLen at hb
  clear r h
  by_cases hl : left - l.length < 0
  all_goals
    go_enter Try.func90, Try.ntmps90
    go_wp2
    go_ret
    exact ⟨ret_int (by unfold less; split <;> omega), rfl⟩
/-- Behind i rounds of a copy into a slice of zeros. -/
def filled (l : List Int) (i : Nat) : List Int := l.take i ++ List.replicate (l.length - i) 0
theorem filled_length (l : List Int) (i : Nat) (h : i ≤ l.length) : (filled l i).length = l.length := by simp [filled]; omega
theorem filled_zero (l : List Int) : filled l 0 = List.replicate l.length 0 := by simp [filled]
theorem filled_all (l : List Int) : filled l l.length = l := by simp [filled]
theorem filled_succ (l : List Int) (i : Nat) (h : i < l.length) : (filled l i).set i (l.getD i 0) = filled l (i + 1) := by
  have hl := filled_length l i (by omega)
  have hl' := filled_length l (i + 1) (by omega)
  apply List.ext_getElem?
  intro j
  rw [List.getElem?_set]
  by_cases hj : j < l.length
  · by_cases hij : i = j
    · subst hij
      rw [if_pos rfl, if_pos (by omega)]
      simp only [filled]
      rw [List.getElem?_append_left (by simp; omega)]
      simp [List.getElem?_take, List.getD, h]
    · rw [if_neg hij]
      simp only [filled]
      by_cases hji : j < i
      · rw [List.getElem?_append_left (by simp; omega), List.getElem?_append_left (by simp; omega)]
        simp [List.getElem?_take, hji, show j < i + 1 by omega]
      · rw [List.getElem?_append_right (by simp; omega), List.getElem?_append_right (by simp; omega)]
        simp only [List.length_take, List.getElem?_replicate]
        rw [if_pos (by omega), if_pos (by omega)]
  · rw [List.getElem?_eq_none (by omega : (filled l (i + 1)).length ≤ j)]
    split
    · omega
    · rw [List.getElem?_eq_none (by omega)]
theorem rd_i64 {w : World} {v : Value} {l : List Int} (r : Rd w [v] l) : ∀ i, i < l.length → I64 (l.getD i 0) := fun i hi => by
  obtain ⟨a, c, _, h⟩ := rd_list r
  obtain ⟨_, _, _, _, hI⟩ := rdSl_int h i hi
  exact hI
set_option maxHeartbeats 400000 in
theorem toInt64S_c (l : List Int) (v : Value) (w : World) (r : Rd w [v] l) (hl : l.length ≤ 1073741824) :
    Calls Try.prog 18 #[v] w fun e w' => ∃ v', e = .returned v' ∧ Fresh w.heap.size w' [v'] l ∧ Below w.heap.size w w' := by
  have RI := Lib.hid (rd_i64 r)
  obtain ⟨a, c, rfl, h⟩ := rd_list r
  clear r
  generalize hn : l.length = n at *
  have HN := Lib.hid hn
  clear hn
  go_enter Try.func18, Try.ntmps18
  go_wp2_with (at_make; refine wpList_make_rep w rfl _ _ 25 rfl E_ints (0 : Int) own0_int n hl rfl rfl ?_)
  intro w1 hown hb1 hs1
  have HO := Lib.hid hown
  have HB := Lib.hid hb1
  have HH := Lib.hid h
  clear hown h hb1
  go_wp2
  go_loopw [4] (fun i wr => ∃ j : Nat, j ≤ n ∧ i = .int .i64 j ∧ OnlyAt [w.heap.size] w1 wr ∧ OwnSl [w.heap.size] wr (.slice (some ⟨w.heap.size, 0, none⟩) n n) (filled l j)) (fun i _ => n - (intOf i).toNat)
  case atStart => exact ⟨0, Nat.zero_le _, rfl, OnlyAt.refl _ _, by rw [filled_zero, HN.out]; exact HO.out⟩
  case round =>
    obtain ⟨j, hj, rfl, ho, hw⟩ := hrel
    have HOn := Lib.hid ho
    clear ho
    by_cases hlt : j < n
    · have hbr : Below w.heap.size w wr := HB.out.trans (HOn.out.below (by simp))
      obtain ⟨b, o, rfl, hc, _⟩ := rdSl_int (rdSl_mono hbr HH.out) j (by rw [HN.out]; exact hlt)
      have hlen := filled_length l j (by rw [HN.out]; omega)
      obtain ⟨g, o', c', hv, hps, hcd, hf, hset⟩ := ownSl_int hw j (by rw [hlen, HN.out]; exact hlt)
      simp only [Value.slice.injEq, Option.some.injEq, Addr.mk.injEq] at hv
      obtain ⟨⟨rfl, rfl, _⟩, _, rfl⟩ := hv
      have HS := Lib.hid (hset _ (RI.out j hlt))
      rw [filled_succ _ _ (by rw [HN.out]; exact hlt)] at HS
      rw [Nat.zero_add] at hcd hf HS
      clear hset hw hps hbr hlen
      go_wp2
      go_roundw
      case rel => exact ⟨j + 1, by omega, by go_num, HOn.out.setCell (by simp) _, HS.out⟩
      case measure => simp [intOf]; omega
    · obtain rfl : j = n := by omega
      have HW := Lib.hid hw
      clear hw
      go_wp2
      go_ret
      refine ⟨_, rfl, ⟨[w.heap.size], ⟨_, rfl, ?_⟩, by simp, by simp⟩, HB.out.trans (HOn.out.below (by simp))⟩
      have := HW.out
      rw [← HN.out, filled_all] at this
      rw [HN.out] at this
      exact this

/-- What 'mark' from k to m has left, so that 'held' finds it. -/
def heldInts (l : List Int) (k m : Int) : Prop := l = marks k l.length ∧ m = k + l.length
theorem markInt64S_h (l : List Int) (v : Value) (ps : List Nat) (k : Int) (w : World) (r : Own ps w [v] l) (k0 : 0 ≤ k) (k1 : k + l.length ≤ 1000000000) :
    Calls Try.prog 29 #[v, .int .i64 k] w fun e w' => ∃ y m, e = .returned (.int .i64 m) ∧ k ≤ m ∧ m ≤ k + l.length ∧ Own ps w' [v] y ∧ heldInts y k m ∧ y.length = l.length ∧ But ps w w' :=
  (markInt64S_c l v ps k w (own_list r) k0 k1).mono fun e w' ⟨he, ho, hw⟩ =>
    ⟨marks k l.length, k + l.length, he, by omega, by omega, ⟨v, rfl, hw⟩, ⟨by simp, by simp⟩, by simp, ho.but⟩
theorem heldInt64S_h (l : List Int) (v : Value) (k m : Int) (w : World) (r : Rd w [v] l) (h : heldInts l k m) (k0 : 0 ≤ k) (k1 : m ≤ 1000000000) :
    Calls Try.prog 30 #[v, .int .i64 k] w fun e w' => e = .returned (.int .i64 m) ∧ w = w' := by
  have r' : Rd w [v] (marks k l.length) := by rw [← h.1]; exact r
  rw [h.2]
  exact heldInt64S_c l.length v k w r' k0 (by have := h.2; omega)

end Go.Proofs.Ytkbeihkjhmillaa
