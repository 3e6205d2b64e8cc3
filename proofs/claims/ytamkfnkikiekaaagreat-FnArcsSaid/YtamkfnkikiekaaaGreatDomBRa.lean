/-
  SEVERAL TEXTS IN ONE.
-/
import Derived.Test.YtamkfnkikiekaaaGreatTmplBRa
import Derived.Lib.SlicesCompact
import Derived.Lib.OwnBridge
import Derived.Test.YtamkfnkikiekaaaGreatRowsBRa
import Derived.Test.YtamkfnkikiekaaaGreatShelf
import Derived.Sort.OwnSortedInts

/-
  PLAIN LAW: a list's numbers in rising order, each once; lists that rise.
-/
namespace Go.Proofs.YtamkfnkikiekaaaGreat
open Go.RowKit
set_option linter.unusedSimpArgs false
set_option linter.unusedVariables false

def srtL (l : List Int) : List Int := l.mergeSort (fun x y => decide (x ≤ y))
def riseL (l : List Int) : List Int := Go.Lib.compactUpTo (srtL l).toArray (srtL l).toArray.size
theorem srt_pair (l : List Int) : (srtL l).Pairwise (fun a b => a ≤ b) := by
  have h := List.pairwise_mergeSort (le := fun x y : Int => decide (x ≤ y)) (fun a b c h1 h2 => by simp only [decide_eq_true_eq] at *; omega) (fun a b => by simp only [Bool.or_eq_true, decide_eq_true_eq]; omega) l
  exact h.imp (fun h => by simpa using h)
theorem srt_mem {l : List Int} {x : Int} : x ∈ srtL l ↔ x ∈ l := List.mem_mergeSort
theorem srt_len (l : List Int) : (srtL l).length = l.length := (List.mergeSort_perm l _).length_eq
theorem cmpt_mem {d : Array Int} {x : Int} : ∀ m, x ∈ Go.Lib.compactUpTo d m → ∃ j, j < m ∧ x = d[j]!
  | 0, h => by simp [Go.Lib.compactUpTo] at h
  | m + 1, h => by
    rw [Go.Lib.compactUpTo_succ, List.mem_append] at h
    rcases h with h | h
    · obtain ⟨j, hj, e⟩ := cmpt_mem m h
      exact ⟨j, by omega, e⟩
    · split at h
      · simp only [List.mem_singleton] at h
        exact ⟨m, by omega, h⟩
      · cases h
theorem cmpt_has {d : Array Int} : ∀ m j, j < m → d[j]! ∈ Go.Lib.compactUpTo d m
  | 0, _, h => absurd h (Nat.not_lt_zero _)
  | m + 1, j, h => by
    rw [Go.Lib.compactUpTo_succ, List.mem_append]
    rcases Nat.lt_or_ge j m with h1 | h1
    · exact .inl (cmpt_has m j h1)
    · obtain rfl : j = m := by omega
      by_cases hk : Go.Lib.keeps d j = true
      · right; rw [if_pos hk]; simp
      · left
        have h2 : ¬ (j = 0 ∨ d[j]! ≠ d[j - 1]!) := by simpa [Go.Lib.keeps] using hk
        have h3 : j ≠ 0 ∧ d[j]! = d[j - 1]! := by
          constructor
          · exact fun h => h2 (.inl h)
          · exact Classical.byContradiction fun h => h2 (.inr h)
        rw [h3.2]
        exact cmpt_has j (j - 1) (by omega)
theorem cmpt_pair {d : Array Int} (hd : ∀ i j, i ≤ j → j < d.size → d[i]! ≤ d[j]!) : ∀ m, m ≤ d.size → (Go.Lib.compactUpTo d m).Pairwise (fun a b => a < b)
  | 0, _ => by simp [Go.Lib.compactUpTo]
  | m + 1, hm => by
    rw [Go.Lib.compactUpTo_succ, List.pairwise_append]
    refine ⟨cmpt_pair hd m (by omega), ?_, fun a ha b hb => ?_⟩
    · split <;> simp
    · split at hb
      · rename_i hk
        simp only [List.mem_singleton] at hb
        subst hb
        obtain ⟨j, hj, rfl⟩ := cmpt_mem m ha
        have h2 : m = 0 ∨ d[m]! ≠ d[m - 1]! := by simpa [Go.Lib.keeps] using hk
        have h3 : d[m]! ≠ d[m - 1]! := by
          rcases h2 with h | h
          · omega
          · exact h
        have h4 := hd j (m - 1) (by omega) (by omega)
        have h5 := hd (m - 1) m (by omega) (by omega)
        omega
      · cases hb
theorem arr_get (l : List Int) (i : Nat) : l.toArray[i]! = l.getD i 0 := by
  by_cases h : i < l.length
  · simp [List.getD, h]
  · simp [List.getD, h]
theorem pair_getD {R : Int → Int → Prop} {l : List Int} (h : l.Pairwise R) {i j : Nat} (hij : i < j) (hj : j < l.length) : R (l.getD i 0) (l.getD j 0) := by
  have h1 := (List.pairwise_iff_getElem.1 h) i j (by omega) hj hij
  simpa [List.getD, hj, show i < l.length by omega] using h1
theorem rise_pair (l : List Int) : (riseL l).Pairwise (fun a b => a < b) := by
  refine cmpt_pair (fun i j hij hj => ?_) _ (Nat.le_refl _)
  rw [arr_get, arr_get]
  rcases Nat.lt_or_ge i j with h | h
  · exact pair_getD (srt_pair l) h (by simpa using hj)
  · obtain rfl : i = j := by omega
    exact Int.le_refl _
theorem rise_mem {l : List Int} {x : Int} : x ∈ riseL l ↔ x ∈ l := by
  constructor
  · intro h
    obtain ⟨j, hj, rfl⟩ := cmpt_mem _ h
    rw [arr_get]
    have hj' : j < (srtL l).length := by simpa using hj
    rw [show (srtL l).getD j 0 = (srtL l)[j] by simp [List.getD, hj']]
    exact srt_mem.1 (List.getElem_mem hj')
  · intro h
    obtain ⟨j, hj, e⟩ := List.getElem_of_mem (srt_mem.2 h)
    have := cmpt_has (d := (srtL l).toArray) (srtL l).toArray.size j (by simpa using hj)
    rw [arr_get, show (srtL l).getD j 0 = (srtL l)[j] by simp [List.getD, hj], e] at this
    exact this
theorem rise_of {l : List Int} (h : l.Pairwise (fun a b => a < b)) : riseL l = l := by
  have h1 : srtL l = l := List.mergeSort_of_pairwise (h.imp (fun h => by simp only [decide_eq_true_eq]; omega))
  unfold riseL
  rw [h1, Go.Lib.compactUpTo_all]
  · apply List.ext_getElem (by simp)
    intro i h1 h2
    have h3 : i < l.length := by simpa using h2
    simp only [List.getElem_map, List.getElem_range]
    rw [arr_get]; simp [List.getD, h3]
  · intro j hj
    have hj' : j < l.length := by simpa using hj
    rcases Nat.eq_zero_or_pos j with h0 | h0
    · simp [Go.Lib.keeps, h0]
    · have h2 := pair_getD h (show j - 1 < j by omega) hj'
      simp only [Go.Lib.keeps, arr_get, decide_eq_true_eq]
      exact .inr (by omega)
theorem rise_iff (l : List Int) : l = riseL l ↔ l.Pairwise (fun a b => a < b) :=
  ⟨fun h => by rw [h]; exact rise_pair l, fun h => (rise_of h).symm⟩
theorem rise_len (l : List Int) : (riseL l).length ≤ l.length := by
  have : ∀ m, (Go.Lib.compactUpTo (srtL l).toArray m).length ≤ m := by
    intro m
    unfold Go.Lib.compactUpTo
    rw [List.length_map]
    exact Nat.le_trans (List.length_filter_le _ _) (by simp)
  have h := this (srtL l).toArray.size
  unfold riseL
  simpa [srt_len] using h
/-- The number at place i is in its bounds, and above the one before. -/
def risAt (lo hi : Int) (l : List Int) (i : Nat) : Bool := inB (l.getD i 0) lo hi && (decide (i = 0) || decide (l.getD (i - 1) 0 < l.getD i 0))
def risesB (lo hi : Int) (l : List Int) : Bool := (List.range l.length).all (risAt lo hi l)
theorem adj_lt {f : Nat → Int} {n : Nat} (h : ∀ i, 0 < i → i < n → f (i - 1) < f i) (i : Nat) : ∀ j, i < j → j < n → f i < f j
  | 0, h1, _ => absurd h1 (Nat.not_lt_zero _)
  | j + 1, h1, h2 => by
    have h3 := h (j + 1) (by omega) h2
    simp only [Nat.add_sub_cancel] at h3
    rcases Nat.lt_or_ge i j with h4 | h4
    · have := adj_lt h i j h4 (by omega)
      omega
    · obtain rfl : i = j := by omega
      exact h3
theorem rises_eq (lo hi : Int) (l : List Int) : risesB lo hi l = (l.all (fun a => inB a lo hi) && decide (l = riseL l)) := by
  rw [Bool.eq_iff_iff]
  unfold risesB
  rw [List.all_eq_true, Bool.and_eq_true, decide_eq_true_eq, rise_iff, List.all_eq_true]
  constructor
  · intro h
    have h' : ∀ i, i < l.length → risAt lo hi l i = true := fun i hi => h i (List.mem_range.2 hi)
    refine ⟨fun a ha => ?_, ?_⟩
    · obtain ⟨i, hi, rfl⟩ := List.getElem_of_mem ha
      have := h' i hi
      simp only [risAt, Bool.and_eq_true] at this
      rw [show l.getD i 0 = l[i] by simp [List.getD, hi]] at this
      exact this.1
    · rw [List.pairwise_iff_getElem]
      intro i j hi hj hij
      have := adj_lt (f := fun i => l.getD i 0) (n := l.length) (fun i h0 hi => by
        have := h' i hi
        simp only [risAt, Bool.and_eq_true, Bool.or_eq_true, decide_eq_true_eq] at this
        rcases this.2 with h | h
        · omega
        · exact h) i j hij hj
      simpa [List.getD, hi, hj] using this
  · rintro ⟨h1, h2⟩ i hi
    have hi := List.mem_range.1 hi
    simp only [risAt, Bool.and_eq_true, Bool.or_eq_true, decide_eq_true_eq]
    refine ⟨?_, ?_⟩
    · rw [show l.getD i 0 = l[i] by simp [List.getD, hi]]; exact h1 _ (List.getElem_mem hi)
    · rcases Nat.eq_zero_or_pos i with h | h
      · exact .inl h
      · exact .inr (pair_getD h2 (by omega) hi)

end Go.Proofs.YtamkfnkikiekaaaGreat

/-
  CONTRACTS: lists that rise; the domains of an instance: the reference's side.
-/
namespace Go.Proofs.YtamkfnkikiekaaaGreat
open Go.RowKit Go.Shelf Go.IntWalk
open Rep (Rd Own sz)
set_option linter.unusedSimpArgs false
set_option linter.unusedVariables false

theorem risesB_of {lo hi : Int} {l : List Int} (h : ∀ j, j < l.length → risAt lo hi l j = true) : risesB lo hi l = true := by
  unfold risesB
  rw [List.all_eq_true]
  exact fun j hj => h j (List.mem_range.1 hj)
theorem risesB_not {lo hi : Int} {l : List Int} (j : Nat) (hj : j < l.length) (h : risAt lo hi l j = false) : risesB lo hi l = false := by
  unfold risesB
  rw [List.all_eq_false]
  exact ⟨j, List.mem_range.2 hj, by rw [h]; decide⟩
set_option maxRecDepth 100000 in
set_option maxHeartbeats 4000000 in
theorem l00Rises_c (l : List Int) (lo hi : Int) (v : Value) (w : World) (r : Rd w [v] l) :
    Calls Tryz.prog 82 #[v, .int .i64 lo, .int .i64 hi] w fun e w' => e = .returned (.bool (risesB lo hi l)) ∧ Below w.heap.size w w' := by
  obtain ⟨a, c, rfl, h0⟩ := rd_list r
  have hb0 := (rdSl_len h0).2
  unfold maxLen at hb0
  have HR := Lib.hid r
  clear r h0
  go_enter Tryz.func82, Tryz.ntmps82
  go_wp2_with fail
  go_loopw [7] (fun i wl => ∃ k : Nat, k ≤ l.length ∧ i = .int .i64 k ∧ Hid (Below w.heap.size w wl) ∧ Hid (∀ j, j < k → risAt lo hi l j = true)) (fun i _ => l.length - (intOf i).toNat)
  case atStart => exact ⟨0, Nat.zero_le _, rfl, Below.refl _ _, fun j hj => absurd hj (Nat.not_lt_zero _)⟩
  case round =>
    obtain ⟨k, hk, rfl, hbl, ht⟩ := hrel
    have hsr := (St.start w).step hbl.out
    clear hbl
    by_cases hlt : k < l.length
    · obtain ⟨b, o, rfl, q0, _⟩ := rd_int_at HR.out k hlt
      have hkl : (k : Int) < l.length := by omega
      have HRA := Lib.hid (show risAt lo hi l k = (inB l[k] lo hi && (decide (k = 0) || decide (l.getD (k - 1) 0 < l[k]))) by unfold risAt; rw [show l.getD k 0 = l[k] by simp [List.getD, hlt]])
      have HNO := Lib.hid (fun h => risesB_not (lo := lo) (hi := hi) (l := l) k hlt h)
      have HNX := Lib.hid (fun (h : risAt lo hi l k = true) => show ∀ j, j < k + 1 → risAt lo hi l j = true from fun j hj => by
        rcases Nat.lt_or_ge j k with h1 | h1
        · exact ht.out j h1
        · obtain rfl : j = k := by omega
          exact h)
      have HG1 := Lib.hid (fun (j : Nat) (hj : k = j + 1) => show l.getD (k - 1) 0 = l[j] by subst hj; simp [List.getD, show j < l.length by omega])
      generalize hA : l[k] = A at *
      have q0_ := cellL hsr.bel q0
      cases h4 : inB A lo hi with
      | false =>
        have H4 := Lib.hid (HNO.out (by rw [HRA.out, h4]; rfl))
        go_upto_region 4 with fail
        refine wp_region_noPanic (wp_region_tree4 (fun w' => w'.cell? ⟨b, o + k, none⟩ = some (.int .i64 A)) (.float 0 (.float 1 (.float 2 (.float 3 (.float 4 (.float 5 (.hard 6 (.float 7 (.float 8 (.float 9 (.float 10 (.float 11 (.float 12 (.float 13 (.float 14 (.float 15 (.float 16 (.float 17 (.float 18 (.float 19 (.float 20 (.float 21 (.float 22 (.float 23 .nil)))))))))))))))))))))))) (by kernel_rfl) (by kernel_rfl) (by kernel_rfl) rfl ?_ (fun _ _ _ _ _ h => h) ?_)
        · exact (cellL (hsr.drew).bel q0)
        have hs1 := hsr.drew
        clear q0_
        have hz_wd2 : wr.heap.size ≤ (wr.drew).heap.size := by simp
        generalize hgen_wd2 : wr.drew = wd2 at *
        have HG_wd2 := Lib.hid hgen_wd2
        clear hgen_wd2
        (repeat (first | (apply t4_skip rfl (by rfl); try simp only [Act.put, List.setIfInBounds_toArray, List.set_cons_zero, List.set_cons_succ]) | (apply t4_float rfl (by rfl); (· (intro w' hS; go_simp <;> with_reducible rfl)); (try simp only [Act.put, List.setIfInBounds_toArray, List.set_cons_zero, List.set_cons_succ]))))
        refine t4_hard rfl (by rfl) (fun K hK => ?_)
        go_wp2_with (go_at_call 43; refine (l00In_c A lo hi _).mono ?_; rintro e w3 ⟨rfl, rfl⟩)
        clear h4
        refine ⟨(cellL hs1.bel q0), ?_⟩
        (repeat (first | (apply t4_skip rfl (by rfl); try simp only [Act.put, List.setIfInBounds_toArray, List.set_cons_zero, List.set_cons_succ]) | (apply t4_float rfl (by rfl); (· (intro w' hS; go_simp <;> with_reducible rfl)); (try simp only [Act.put, List.setIfInBounds_toArray, List.set_cons_zero, List.set_cons_succ]))))
        have q0_ := cellL hs1.bel q0
        refine t4_nil (NoPanic.normal ?_)
        go_wp2_with fail
        go_ret
        exact ⟨ret_bool H4.out.symm, hs1.bel⟩
      | true =>
        have H4 := Lib.hid h4
        clear h4
        by_cases hk0 : k = 0
        · have HD := Lib.hid (show decide (0 < k) = false by simp [hk0])
          have H5 := Lib.hid (HNX.out (by rw [HRA.out, H4.out, decide_eq_true hk0]; rfl))
          clear hk0
          go_upto_region 4 with fail
          refine wp_region_noPanic (wp_region_tree4 (fun w' => w'.cell? ⟨b, o + k, none⟩ = some (.int .i64 A)) (.float 0 (.float 1 (.float 2 (.float 3 (.float 4 (.float 5 (.hard 6 (.float 7 (.float 8 (.float 9 (.float 10 (.float 11 (.float 12 (.float 13 (.float 14 (.float 15 (.float 16 (.float 17 (.float 18 (.float 19 (.float 20 (.float 21 (.float 22 (.float 23 .nil)))))))))))))))))))))))) (by kernel_rfl) (by kernel_rfl) (by kernel_rfl) rfl ?_ (fun _ _ _ _ _ h => h) ?_)
          · exact (cellL (hsr.drew).bel q0)
          have hs4 := hsr.drew
          clear q0_
          have hz_wd5 : wr.heap.size ≤ (wr.drew).heap.size := by simp
          generalize hgen_wd5 : wr.drew = wd5 at *
          have HG_wd5 := Lib.hid hgen_wd5
          clear hgen_wd5
          (repeat (first | (apply t4_skip rfl (by rfl); try simp only [Act.put, List.setIfInBounds_toArray, List.set_cons_zero, List.set_cons_succ]) | (apply t4_float rfl (by rfl); (· (intro w' hS; go_simp <;> with_reducible rfl)); (try simp only [Act.put, List.setIfInBounds_toArray, List.set_cons_zero, List.set_cons_succ]))))
          (try (rw [HD.out]; (repeat (first | (apply t4_skip rfl (by rfl); try simp only [Act.put, List.setIfInBounds_toArray, List.set_cons_zero, List.set_cons_succ]) | (apply t4_float rfl (by rfl); (· (intro w' hS; go_simp <;> with_reducible rfl)); (try simp only [Act.put, List.setIfInBounds_toArray, List.set_cons_zero, List.set_cons_succ]))))))
          refine t4_hard rfl (by rfl) (fun K hK => ?_)
          go_wp2_with (go_at_call 43; refine (l00In_c A lo hi _).mono ?_; rintro e w6 ⟨rfl, rfl⟩)
          rw [H4.out]
          refine ⟨(cellL hs4.bel q0), ?_⟩
          (repeat (first | (apply t4_skip rfl (by rfl); try simp only [Act.put, List.setIfInBounds_toArray, List.set_cons_zero, List.set_cons_succ]) | (apply t4_float rfl (by rfl); (· (intro w' hS; go_simp <;> with_reducible rfl)); (try simp only [Act.put, List.setIfInBounds_toArray, List.set_cons_zero, List.set_cons_succ]))))
          (try (rw [HD.out]; (repeat (first | (apply t4_skip rfl (by rfl); try simp only [Act.put, List.setIfInBounds_toArray, List.set_cons_zero, List.set_cons_succ]) | (apply t4_float rfl (by rfl); (· (intro w' hS; go_simp <;> with_reducible rfl)); (try simp only [Act.put, List.setIfInBounds_toArray, List.set_cons_zero, List.set_cons_succ]))))))
          have q0_ := cellL hs4.bel q0
          refine t4_nil (NoPanic.normal ?_)
          go_wp2_with fail
          go_roundw
          case rel => exact ⟨k + 1, by omega, by go_num, hs4.bel, H5.out⟩
          case measure => simp [intOf]; omega
        · obtain ⟨j, hkj⟩ : ∃ j, k = j + 1 := ⟨k - 1, by omega⟩
          have HD := Lib.hid (show decide (0 < k) = true by simp [hkj])
          have hjl : j < l.length := by omega
          have hGJ := HG1.out j hkj
          obtain ⟨b', o', e1, q1, _⟩ := rd_int_at HR.out j hjl
          simp only [Option.some.injEq, Addr.mk.injEq, and_true] at e1
          obtain ⟨rfl, rfl⟩ := e1
          rw [hGJ, decide_eq_false hk0, Bool.false_or, H4.out, Bool.true_and] at HRA
          clear hGJ
          generalize hB : l[j] = B at *
          clear q0_
          have q0_ := cellL hsr.bel q0
          have q1_ := cellL hsr.bel q1
          have ej : (k : Int) - 1 = (j : Int) := by omega
          have ejw : IntKind.i64.wrap (j : Int) = (j : Int) := i64_in _ (by omega)
          have hjI : (j : Int) < l.length := by omega
          clear hkj hk0
          by_cases hlt2 : B < A
          · have h6 : ¬ (A ≤ B) := by omega
            have H5 := Lib.hid (HNX.out (by rw [HRA.out]; exact decide_eq_true hlt2))
            clear hlt2
            go_upto_region 4 with fail
            refine wp_region_noPanic (wp_region_tree4 (fun w' => w'.cell? ⟨b, o + k, none⟩ = some (.int .i64 A) ∧ w'.cell? ⟨b, o + j, none⟩ = some (.int .i64 B)) (.float 0 (.float 1 (.float 2 (.float 3 (.float 4 (.float 5 (.hard 6 (.float 7 (.float 8 (.float 9 (.float 10 (.float 11 (.float 12 (.float 13 (.float 14 (.float 15 (.float 16 (.float 17 (.float 18 (.float 19 (.float 20 (.float 21 (.float 22 (.float 23 .nil)))))))))))))))))))))))) (by kernel_rfl) (by kernel_rfl) (by kernel_rfl) rfl ?_ (fun _ _ _ _ _ h => h) ?_)
            · exact ⟨cellL (hsr.drew).bel q0, cellL (hsr.drew).bel q1⟩
            have hs7 := hsr.drew
            clear q0_ q1_
            have hz_wd8 : wr.heap.size ≤ (wr.drew).heap.size := by simp
            generalize hgen_wd8 : wr.drew = wd8 at *
            have HG_wd8 := Lib.hid hgen_wd8
            clear hgen_wd8
            (repeat (first | (apply t4_skip rfl (by rfl); try simp only [Act.put, List.setIfInBounds_toArray, List.set_cons_zero, List.set_cons_succ]) | (apply t4_float rfl (by rfl); (· (intro w' hS; go_simp <;> with_reducible rfl)); (try simp only [Act.put, List.setIfInBounds_toArray, List.set_cons_zero, List.set_cons_succ]))))
            (try (rw [HD.out]; (repeat (first | (apply t4_skip rfl (by rfl); try simp only [Act.put, List.setIfInBounds_toArray, List.set_cons_zero, List.set_cons_succ]) | (apply t4_float rfl (by rfl); (· (intro w' hS; go_simp <;> with_reducible rfl)); (try simp only [Act.put, List.setIfInBounds_toArray, List.set_cons_zero, List.set_cons_succ]))))))
            refine t4_hard rfl (by rfl) (fun K hK => ?_)
            go_wp2_with (go_at_call 43; refine (l00In_c A lo hi _).mono ?_; rintro e w9 ⟨rfl, rfl⟩)
            rw [H4.out]
            refine ⟨⟨cellL hs7.bel q0, cellL hs7.bel q1⟩, ?_⟩
            (repeat (first | (apply t4_skip rfl (by rfl); try simp only [Act.put, List.setIfInBounds_toArray, List.set_cons_zero, List.set_cons_succ]) | (apply t4_float rfl (by rfl); (· (intro w' hS; go_simp <;> with_reducible rfl)); (try simp only [Act.put, List.setIfInBounds_toArray, List.set_cons_zero, List.set_cons_succ]))))
            (try (rw [HD.out]; (repeat (first | (apply t4_skip rfl (by rfl); try simp only [Act.put, List.setIfInBounds_toArray, List.set_cons_zero, List.set_cons_succ]) | (apply t4_float rfl (by rfl); (· (intro w' hS; go_simp <;> with_reducible rfl)); (try simp only [Act.put, List.setIfInBounds_toArray, List.set_cons_zero, List.set_cons_succ]))))))
            have q0_ := cellL hs7.bel q0
            have q1_ := cellL hs7.bel q1
            refine t4_nil (NoPanic.normal ?_)
            go_wp2_with fail
            go_roundw
            case rel => exact ⟨k + 1, by omega, by go_num, hs7.bel, H5.out⟩
            case measure => simp [intOf]; omega
          · have h6 : A ≤ B := by omega
            have H5 := Lib.hid (HNO.out (by rw [HRA.out]; exact decide_eq_false hlt2))
            clear hlt2
            go_upto_region 4 with fail
            refine wp_region_noPanic (wp_region_tree4 (fun w' => w'.cell? ⟨b, o + k, none⟩ = some (.int .i64 A) ∧ w'.cell? ⟨b, o + j, none⟩ = some (.int .i64 B)) (.float 0 (.float 1 (.float 2 (.float 3 (.float 4 (.float 5 (.hard 6 (.float 7 (.float 8 (.float 9 (.float 10 (.float 11 (.float 12 (.float 13 (.float 14 (.float 15 (.float 16 (.float 17 (.float 18 (.float 19 (.float 20 (.float 21 (.float 22 (.float 23 .nil)))))))))))))))))))))))) (by kernel_rfl) (by kernel_rfl) (by kernel_rfl) rfl ?_ (fun _ _ _ _ _ h => h) ?_)
            · exact ⟨cellL (hsr.drew).bel q0, cellL (hsr.drew).bel q1⟩
            have hs10 := hsr.drew
            clear q0_ q1_
            have hz_wd11 : wr.heap.size ≤ (wr.drew).heap.size := by simp
            generalize hgen_wd11 : wr.drew = wd11 at *
            have HG_wd11 := Lib.hid hgen_wd11
            clear hgen_wd11
            (repeat (first | (apply t4_skip rfl (by rfl); try simp only [Act.put, List.setIfInBounds_toArray, List.set_cons_zero, List.set_cons_succ]) | (apply t4_float rfl (by rfl); (· (intro w' hS; go_simp <;> with_reducible rfl)); (try simp only [Act.put, List.setIfInBounds_toArray, List.set_cons_zero, List.set_cons_succ]))))
            (try (rw [HD.out]; (repeat (first | (apply t4_skip rfl (by rfl); try simp only [Act.put, List.setIfInBounds_toArray, List.set_cons_zero, List.set_cons_succ]) | (apply t4_float rfl (by rfl); (· (intro w' hS; go_simp <;> with_reducible rfl)); (try simp only [Act.put, List.setIfInBounds_toArray, List.set_cons_zero, List.set_cons_succ]))))))
            refine t4_hard rfl (by rfl) (fun K hK => ?_)
            go_wp2_with (go_at_call 43; refine (l00In_c A lo hi _).mono ?_; rintro e w12 ⟨rfl, rfl⟩)
            rw [H4.out]
            refine ⟨⟨cellL hs10.bel q0, cellL hs10.bel q1⟩, ?_⟩
            (repeat (first | (apply t4_skip rfl (by rfl); try simp only [Act.put, List.setIfInBounds_toArray, List.set_cons_zero, List.set_cons_succ]) | (apply t4_float rfl (by rfl); (· (intro w' hS; go_simp <;> with_reducible rfl)); (try simp only [Act.put, List.setIfInBounds_toArray, List.set_cons_zero, List.set_cons_succ]))))
            (try (rw [HD.out]; (repeat (first | (apply t4_skip rfl (by rfl); try simp only [Act.put, List.setIfInBounds_toArray, List.set_cons_zero, List.set_cons_succ]) | (apply t4_float rfl (by rfl); (· (intro w' hS; go_simp <;> with_reducible rfl)); (try simp only [Act.put, List.setIfInBounds_toArray, List.set_cons_zero, List.set_cons_succ]))))))
            have q0_ := cellL hs10.bel q0
            have q1_ := cellL hs10.bel q1
            refine t4_nil (NoPanic.normal ?_)
            go_wp2_with fail
            go_ret
            exact ⟨ret_bool H5.out.symm, hs10.bel⟩
    · obtain rfl : k = l.length := by omega
      have HT := Lib.hid (risesB_of ht.out)
      have hkl : ¬ ((l.length : Int) < l.length) := by omega
      go_wp2_with fail
      go_ret
      exact ⟨ret_bool HT.out.symm, hsr.bel⟩
set_option maxRecDepth 100000 in
set_option maxHeartbeats 4000000 in
theorem l05Domains_c (size vars : Int) (ds : List (List Int)) (pb po qb qo : Nat) (v : Value) (w : World) (hp : w.cell? ⟨pb, po, none⟩ = some (.int .i64 size)) (hq : w.cell? ⟨qb, qo, none⟩ = some (.int .i64 vars)) (r : Rd w [v] ds) (hs : 1 ≤ size ∧ size ≤ 4) :
    Calls Tryz.prog 53 #[.pointer (some ⟨pb, po, none⟩), .pointer (some ⟨qb, qo, none⟩), v] w fun e w' => e = .returned (.bool (decide ((ds.length : Int) = vars) && ds.all (risesB 0 (size - 1)))) ∧ Below w.heap.size w w' := by
  obtain ⟨a, c, rfl, h0⟩ := rd_list r
  have hb0 := (rdSl_len h0).2
  unfold maxLen at hb0
  have HR := Lib.hid h0
  clear r h0
  have hp_ := cellL (St.start w).bel hp
  clear hp_
  have hp_ := cellL (St.start w).bel hp
  have hq_ := cellL (St.start w).bel hq
  go_enter Tryz.func53, Tryz.ntmps53
  go_wp2_with fail
  go_loopw [7] (fun i wl => ∃ k : Nat, k ≤ ds.length ∧ i = .int .i64 k ∧ Hid (Below w.heap.size w wl) ∧ Hid (∀ j (hj : j < ds.length), j < k → risesB 0 (size - 1) ds[j] = true)) (fun i _ => ds.length - (intOf i).toNat)
  case atStart => exact ⟨0, Nat.zero_le _, rfl, Below.refl _ _, fun j _ hj => absurd hj (Nat.not_lt_zero _)⟩
  case round =>
    obtain ⟨k, hk, rfl, hbl, ht⟩ := hrel
    have hsr := (St.start w).step hbl.out
    have hp_ := cellL hsr.bel hp
    have hq_ := cellL hsr.bel hq
    clear hbl
    by_cases hlt : k < ds.length
    · obtain ⟨b, o, u0, rfl, q0, hx⟩ := rdSl_one rfl HR.out k hlt
      have HX := Lib.hid hx
      obtain ⟨a0, c0, rfl, _⟩ := rd_list hx
      have hkl : (k : Int) < ds.length := by omega
      have HG := Lib.hid (show ∀ q, risesB 0 (size - 1) ds[k] = q → (q = true → ∀ j (hj : j < ds.length), j < k + 1 → risesB 0 (size - 1) ds[j] = true) ∧ (q = false → ds.all (risesB 0 (size - 1)) = false) from fun q hq => ⟨fun h j hj hjk => by
        rcases Nat.lt_or_ge j k with h1 | h1
        · exact ht.out j hj h1
        · obtain rfl : j = k := by omega
          rw [hq, h], fun h => by
        rw [List.all_eq_false]
        exact ⟨ds[k], List.getElem_mem hlt, by rw [hq, h]; decide⟩⟩)
      clear hx
      generalize hD : ds[k] = D at *
      clear hD
      clear hp_ hq_
      have hp_ := cellL hsr.bel hp
      have hq_ := cellL hsr.bel hq
      have q0_ := cellL hsr.bel q0
      clear hp_ hq_ q0_
      have hp_ := cellL hsr.bel hp
      have hq_ := cellL hsr.bel hq
      have q0_ := cellL hsr.bel q0
      have esw : IntKind.i64.wrap (size - 1) = size - 1 := i64_in _ (by omega)
      cases h1 : risesB 0 (size - 1) D with
      | true =>
        have H1 := Lib.hid ((HG.out _ h1).1 rfl)
        have HE := Lib.hid h1
        clear h1
        go_upto_region 4 with fail
        refine wp_region_noPanic (wp_region_tree4 (fun w' => w'.cell? ⟨pb, po, none⟩ = some (.int .i64 size) ∧ w'.cell? ⟨qb, qo, none⟩ = some (.int .i64 vars) ∧ w'.cell? ⟨b, o + k, none⟩ = some (.slice a0 D.length c0)) (.float 0 (.float 1 (.float 2 (.float 3 (.float 4 (.float 5 (.float 6 (.float 7 (.float 8 (.hard 9 (.float 10 .nil))))))))))) (by kernel_rfl) (by kernel_rfl) (by kernel_rfl) rfl ?_ (fun _ _ _ _ _ h => h) ?_)
        · exact ⟨cellL (hsr.drew).bel hp, cellL (hsr.drew).bel hq, cellL (hsr.drew).bel q0⟩
        have hs13 := hsr.drew
        clear hp_ hq_ q0_
        have hz_wd14 : wr.heap.size ≤ (wr.drew).heap.size := by simp
        generalize hgen_wd14 : wr.drew = wd14 at *
        have HG_wd14 := Lib.hid hgen_wd14
        clear hgen_wd14
        (repeat (first | (apply t4_skip rfl (by rfl); try simp only [Act.put, List.setIfInBounds_toArray, List.set_cons_zero, List.set_cons_succ]) | (apply t4_float rfl (by rfl); (· (intro w' hS; go_simp <;> with_reducible rfl)); (try simp only [Act.put, List.setIfInBounds_toArray, List.set_cons_zero, List.set_cons_succ]))))
        refine t4_hard rfl (by rfl) (fun K hK => ?_)
        go_wp2_with (go_at_call 82; refine (l00Rises_c D 0 (size - 1) _ _ (Rd.mono HX.out hs13.bel)).mono ?_; rintro e w15 ⟨rfl, hbw15⟩)
        have hz_w15 : wd14.heap.size ≤ w15.heap.size := by have h9 := hbw15.size; (try simp at h9); omega
        have hs16 := hs13.step hbw15
        rw [HE.out]
        refine ⟨⟨cellL hs16.bel hp, cellL hs16.bel hq, cellL hs16.bel q0⟩, ?_⟩
        (repeat (first | (apply t4_skip rfl (by rfl); try simp only [Act.put, List.setIfInBounds_toArray, List.set_cons_zero, List.set_cons_succ]) | (apply t4_float rfl (by rfl); (· (intro w' hS; go_simp <;> with_reducible rfl)); (try simp only [Act.put, List.setIfInBounds_toArray, List.set_cons_zero, List.set_cons_succ]))))
        have hp_ := cellL hs16.bel hp
        have hq_ := cellL hs16.bel hq
        have q0_ := cellL hs16.bel q0
        refine t4_nil (NoPanic.normal ?_)
        go_wp2_with fail
        go_roundw
        case rel => exact ⟨k + 1, by omega, by go_num, hs16.bel, H1.out⟩
        case measure => simp [intOf]; omega
      | false =>
        have H1 := Lib.hid ((HG.out _ h1).2 rfl)
        have HE := Lib.hid h1
        clear h1
        go_upto_region 4 with fail
        refine wp_region_noPanic (wp_region_tree4 (fun w' => w'.cell? ⟨pb, po, none⟩ = some (.int .i64 size) ∧ w'.cell? ⟨qb, qo, none⟩ = some (.int .i64 vars) ∧ w'.cell? ⟨b, o + k, none⟩ = some (.slice a0 D.length c0)) (.float 0 (.float 1 (.float 2 (.float 3 (.float 4 (.float 5 (.float 6 (.float 7 (.float 8 (.hard 9 (.float 10 .nil))))))))))) (by kernel_rfl) (by kernel_rfl) (by kernel_rfl) rfl ?_ (fun _ _ _ _ _ h => h) ?_)
        · exact ⟨cellL (hsr.drew).bel hp, cellL (hsr.drew).bel hq, cellL (hsr.drew).bel q0⟩
        have hs17 := hsr.drew
        clear hp_ hq_ q0_
        have hz_wd18 : wr.heap.size ≤ (wr.drew).heap.size := by simp
        generalize hgen_wd18 : wr.drew = wd18 at *
        have HG_wd18 := Lib.hid hgen_wd18
        clear hgen_wd18
        (repeat (first | (apply t4_skip rfl (by rfl); try simp only [Act.put, List.setIfInBounds_toArray, List.set_cons_zero, List.set_cons_succ]) | (apply t4_float rfl (by rfl); (· (intro w' hS; go_simp <;> with_reducible rfl)); (try simp only [Act.put, List.setIfInBounds_toArray, List.set_cons_zero, List.set_cons_succ]))))
        refine t4_hard rfl (by rfl) (fun K hK => ?_)
        go_wp2_with (go_at_call 82; refine (l00Rises_c D 0 (size - 1) _ _ (Rd.mono HX.out hs17.bel)).mono ?_; rintro e w19 ⟨rfl, hbw19⟩)
        have hz_w19 : wd18.heap.size ≤ w19.heap.size := by have h9 := hbw19.size; (try simp at h9); omega
        have hs20 := hs17.step hbw19
        rw [HE.out]
        refine ⟨⟨cellL hs20.bel hp, cellL hs20.bel hq, cellL hs20.bel q0⟩, ?_⟩
        (repeat (first | (apply t4_skip rfl (by rfl); try simp only [Act.put, List.setIfInBounds_toArray, List.set_cons_zero, List.set_cons_succ]) | (apply t4_float rfl (by rfl); (· (intro w' hS; go_simp <;> with_reducible rfl)); (try simp only [Act.put, List.setIfInBounds_toArray, List.set_cons_zero, List.set_cons_succ]))))
        have hp_ := cellL hs20.bel hp
        have hq_ := cellL hs20.bel hq
        have q0_ := cellL hs20.bel q0
        refine t4_nil (NoPanic.normal ?_)
        go_wp2_with fail
        go_ret
        exact ⟨ret_bool (by rw [H1.out, Bool.and_false]), hs20.bel⟩
    · obtain rfl : k = ds.length := by omega
      have HT := Lib.hid (show ds.all (risesB 0 (size - 1)) = true by
        rw [List.all_eq_true]
        intro d hd
        obtain ⟨j, hj, rfl⟩ := List.getElem_of_mem hd
        exact ht.out j hj hj)
      have hkl : ¬ ((ds.length : Int) < ds.length) := by omega
      go_wp2_with fail
      go_ret
      exact ⟨ret_bool (by rw [HT.out, Bool.and_true]; first | rfl | (rw [Bool.eq_iff_iff]; simp)), hsr.bel⟩
/-- Are these domains for the variables of the instance? -/
def domsOk (t : Tmpl) (x : Inst) (ds : List (List Int)) : Bool := instOk t x && (decide ((ds.length : Int) = x.1) && ds.all (risesB 0 (t.1 - 1)))
set_option maxRecDepth 100000 in
set_option maxHeartbeats 4000000 in
theorem l05Both_c (t : Tmpl) (x : Inst) (ds : List (List Int)) (pb qb : Nat) (t0 t1 x0 x1 v : Value) (w : World) (ht : Rd w [t0, t1] t) (hx : Rd w [x0, x1] x) (hp0 : w.cell? ⟨pb, 0, none⟩ = some t0) (hp1 : w.cell? ⟨pb, 1, none⟩ = some t1) (hq0 : w.cell? ⟨qb, 0, none⟩ = some x0) (hq1 : w.cell? ⟨qb, 1, none⟩ = some x1) (r : Rd w [v] ds) :
    Calls Tryz.prog 25 #[.pointer (some ⟨pb, 0, none⟩), .pointer (some ⟨qb, 0, none⟩), v] w fun e w' => e = .returned (.bool (domsOk t x ds)) ∧ Below w.heap.size w w' := by
  obtain ⟨a, c, rfl, _⟩ := rd_list r
  have HT := Lib.hid ht
  have HX := Lib.hid hx
  have HD := Lib.hid r
  have HP0 := Lib.hid hp0
  have HQ0 := Lib.hid hq0
  have zt := rd_cons rfl ht
  obtain ⟨rfl, _⟩ := rd_i1 zt.1
  have zx := rd_cons rfl hx
  obtain ⟨rfl, _⟩ := rd_i1 zx.1
  have HP1 := Lib.hid hp1
  have HQ1 := Lib.hid hq1
  clear ht hx r hp0 hp1 hq0 hq1 zt zx
  go_enter Tryz.func25, Tryz.ntmps25
  go_wp2_with fail
  refine (l05Ok_c t x pb qb _ _ _ _ _ (Rd.mono HT.out (St.start w).bel) (Rd.mono HX.out (St.start w).bel) (cellL (St.start w).bel HP0.out) (cellL (St.start w).bel HP1.out) (cellL (St.start w).bel HQ0.out) (cellL (St.start w).bel HQ1.out)).mono ?_
  rintro e w21 ⟨rfl, hbw21⟩
  have hz_w21 : w.heap.size ≤ w21.heap.size := by have h9 := hbw21.size; (try simp at h9); omega
  have hs22 := (St.start w).step hbw21
  cases h1 : instOk t x with
  | false =>
    have H1 := Lib.hid (show domsOk t x ds = false by unfold domsOk; rw [h1]; rfl)
    clear h1
    go_wp2_with fail
    go_ret
    exact ⟨ret_bool H1.out.symm, hs22.bel⟩
  | true =>
    have hs := (tmplOk_get (instOk_get h1).1).1
    have H1 := Lib.hid (show domsOk t x ds = (decide ((ds.length : Int) = x.1) && ds.all (risesB 0 (t.1 - 1))) by unfold domsOk; rw [h1]; rfl)
    clear h1
    go_wp2_with fail
    refine (l05Domains_c t.1 x.1 ds pb 0 qb 0 _ _ (cellL hs22.bel HP0.out) (cellL hs22.bel HQ0.out) (Rd.mono HD.out hs22.bel) hs).mono ?_
    rintro e w23 ⟨rfl, hbw23⟩
    have hz_w23 : w21.heap.size ≤ w23.heap.size := by have h9 := hbw23.size; (try simp at h9); omega
    have hs24 := hs22.step hbw23
    go_wp2_with fail
    go_ret
    exact ⟨ret_bool H1.out.symm, hs24.bel⟩

end Go.Proofs.YtamkfnkikiekaaaGreat

/-
  CONTRACTS: slices.Sort, slices.Compact of numbers that are the call's own (out of the shelf); a list's numbers in rising order.
-/
namespace Go.Proofs.YtamkfnkikiekaaaGreat
open Go.RowKit Go.Shelf
open Rep (Rd Own sz)
set_option linter.unusedSimpArgs false
set_option linter.unusedVariables false

theorem compact_rise (l : List Int) : Go.Lib.compact (srtL l) = riseL l := rfl
theorem sortInts_c (B g cap : Nat) (l : List Int) (w : World) (hrow : w.ownsRow B 2 1 (.slice (some ⟨g, 0, none⟩) l.length cap) l.length (ivals l)) (hl : l.length ≤ 1073741824) :
    Calls Tryz.prog 60 #[.slice (some ⟨g, 0, none⟩) l.length cap] w fun e w' => e = .returned (.tuple #[]) ∧ w'.ownsRow B 2 1 (.slice (some ⟨g, 0, none⟩) (srtL l).length cap) (srtL l).length (ivals (srtL l)) ∧ But [g] w w' := by
  obtain ⟨g', cap', e, hg1, hg2, hc1, hc2, _, hH⟩ := Go.Lib.holds_of_ownsRow hrow (by simp)
  simp only [Value.slice.injEq, Option.some.injEq, Addr.mk.injEq, and_true, true_and] at e
  obtain ⟨rfl, rfl⟩ := e
  refine (AnyM.slices_Sort_int Tryz.laysSlM5 g 0 cap l w hH hg2 (by omega)).mono ?_
  rintro e w' ⟨rfl, n, os, rfl⟩
  refine ⟨rfl, ?_, ?_⟩
  · rcases hrow.2 with ⟨e0, _⟩ | ⟨g', cap', cur, e0, hb, hg, hn, hm, hs, ht⟩
    · cases e0
    simp only [Value.slice.injEq, Option.some.injEq, Addr.mk.injEq, and_true, true_and] at e0
    obtain ⟨rfl, rfl⟩ := e0
    have h := ownsRow_sortedI (w := w) (base := B) (os := os) (n := n) (ss := l) (ts := srtL l) (srt_len l) hb hg hn hm hs
    rw [srt_len l]
    exact h
  · obtain ⟨h1, h2, h3, h4, h5⟩ := grownBy_sortedI (w := w) (g := g) (n := n) (os := os) (srtL l).toArray
    exact ⟨by first | exact h1 | exact h2 | exact h3, by first | exact h1 | exact h2 | exact h3, by first | exact h1 | exact h2 | exact h3, h4, fun k hk hn => h5 k hk (fun h => hn (by simp only [Option.some.injEq] at h; simp [h]))⟩
theorem compactInts_c (B g cap : Nat) (l : List Int) (w : World) (hrow : w.ownsRow B 2 1 (.slice (some ⟨g, 0, none⟩) l.length cap) l.length (ivals l)) (hcl : (Go.Lib.compact l).length ≤ l.length) :
    Calls Tryz.prog 61 #[.slice (some ⟨g, 0, none⟩) l.length cap] w fun e w' => e = .returned (.slice (some ⟨g, 0, none⟩) (Go.Lib.compact l).length cap) ∧ w'.ownsRow B 2 1 (.slice (some ⟨g, 0, none⟩) (Go.Lib.compact l).length cap) (Go.Lib.compact l).length (ivals (Go.Lib.compact l)) ∧ But [g] w w' := by
  obtain ⟨g', cap', e, hg1, hg2, hc1, hc2, _, hH⟩ := Go.Lib.holds_of_ownsRow hrow (by simp)
  simp only [Value.slice.injEq, Option.some.injEq, Addr.mk.injEq, and_true, true_and] at e
  obtain ⟨rfl, rfl⟩ := e
  unfold maxLen at hc2
  refine (AnyG.slices_Compact_int Tryz.laysSlN43 g 0 cap l w hH (by omega) (by omega)).mono ?_
  rintro e w' ⟨rfl, q, rfl⟩
  refine ⟨rfl, ?_, ?_⟩
  · have h := Go.Lib.ownsRow_putRow (q := q) (k := (Go.Lib.compact l).length) (ys := Go.Lib.compact l ++ List.replicate (l.length - (Go.Lib.compact l).length) 0) hrow (by simp; omega) hcl
    rw [List.take_left] at h
    exact h
  · exact ⟨rfl, rfl, rfl, by simp [Go.Sort.putRow, Go.Sort.mapBlock, Go.Sort.ahead], fun k hk hn => by
      have : g ≠ k := fun e => hn (by simp [e])
      simp [Go.Sort.putRow, Go.Sort.mapBlock, Go.Sort.ahead, Array.getElem?_modify, this]⟩
set_option maxHeartbeats 1000000 in
theorem rising_c (l : List Int) (v : Value) (w : World) (r : Rd w [v] l) (hl : l.length ≤ 1073741824) :
    Calls Tryz.prog 33 #[v] w fun e w' => ∃ v', e = .returned v' ∧ Acc w.heap.size w'.heap.size 2 w' v' (riseL l) ∧ Below w.heap.size w w' := by
  have HR := Lib.hid r
  obtain ⟨a, c, rfl, _⟩ := rd_list r
  clear r
  go_enter Tryz.func33, Tryz.ntmps33
  go_wp2_with fail
  refine (cloneIntsA_c l _ _ HR.out hl).mono ?_
  rintro e w1 ⟨v1, rfl, hA1, hb1⟩
  obtain ⟨hrow, hbk, hI⟩ := acc_ints_get hA1
  by_cases hn : v1 = .slice none 0 0
  · subst hn
    have h0 : l.length = 0 := by
      rcases hrow.2 with ⟨_, h⟩ | ⟨g, cap, cur, e0, _⟩
      · exact h
      · cases e0
    have HB := Lib.hid hb1
    have HE := Lib.hid (show riseL l = [] by
      obtain rfl : l = [] := List.length_eq_zero_iff.1 h0
      exact rise_of List.Pairwise.nil)
    clear hA1 hrow hbk hI hb1 h0
    go_wp2_with fail
    refine (AnyM.slices_Sort_int_none Tryz.laysSlM5 none 0 w1).mono ?_
    rintro e w2 ⟨rfl, rfl⟩
    go_wp2_with fail
    refine (AnyG.slices_Compact_int_empty Tryz.laysSlN43 none 0 w2).mono ?_
    rintro e w3 ⟨rfl, rfl⟩
    go_wp2_with fail
    go_ret
    refine ⟨_, rfl, ?_, HB.out⟩
    rw [HE.out]
    exact Acc.nil _ _ _ _
  · rcases hrow.2 with ⟨e0, _⟩ | ⟨g, cap, cur, rfl, hb, hg, hn2, hm, hs, ht⟩
    · exact absurd e0 hn
    have hgs : g < w1.heap.size := (Array.getElem?_eq_some_iff.1 hg).1
    have HROW := Lib.hid hrow
    have HI := Lib.hid hI
    have HB := Lib.hid hb1
    clear hA1 hrow hbk hI hb1 hn hg hs ht
    go_wp2_with fail
    refine (sortInts_c w.heap.size g cap l w1 HROW.out hl).mono ?_
    rintro e w2 ⟨rfl, hrow2, hbut2⟩
    have HR2 := Lib.hid hrow2
    have HB2 := Lib.hid hbut2
    have HCE := Lib.hid (compact_rise l)
    have hcl : (Go.Lib.compact (srtL l)).length ≤ (srtL l).length := by rw [compact_rise, srt_len]; exact rise_len l
    have hsl : (srtL l).length = l.length := srt_len l
    have HCM := Lib.hid (fun W H => compactInts_c w.heap.size g cap (srtL l) W H hcl)
    rw [hsl] at HCM HR2
    clear hrow2 hbut2 hcl hsl
    go_wp2_with fail
    refine (HCM.out w2 HR2.out).mono ?_
    rintro e w3 ⟨rfl, hrow3, hbut3⟩
    rw [HCE.out] at hrow3 ⊢
    have HR3 := Lib.hid hrow3
    have HB3 := Lib.hid (HB.out.trans (((HB2.out.trans hbut3).below (B := w.heap.size) (by simp; exact hb) HB.out.size)))
    have hs3 : g < w3.heap.size := by have h1 := HB2.out.size; have h2 := hbut3.size; omega
    have HA := Lib.hid (acc_ints_mk (H := w3.heap.size) HR3.out (fun k hk => by
      simp only [Value.ownBlock, Option.some.injEq] at hk
      subst hk
      exact ⟨hb, hs3⟩) (fun a ha => HI.out a (rise_mem.1 ha)))
    clear hrow3 hbut3
    go_wp2_with fail
    go_ret
    exact ⟨_, rfl, HA.out, HB3.out⟩

end Go.Proofs.YtamkfnkikiekaaaGreat

/-
  CONTRACTS: ValidDomains, both sides.
-/
namespace Go.Proofs.YtamkfnkikiekaaaGreat
open Go.RowKit Go.Shelf Go.IntWalk
open Rep (Rd Own sz)
set_option linter.unusedSimpArgs false
set_option linter.unusedVariables false

theorem rises_vals (size : Int) (d : List Int) : risesB 0 (size - 1) d = (valsOk size d d.length && decide (d = riseL d)) := by
  rw [rises_eq]; simp [valsOk]
set_option maxRecDepth 100000 in
set_option maxHeartbeats 2000000 in
theorem validDomains1_by (size : Int) (b : Nat) (w : World) (l : List (List Int)) (hc0 : w.cell? ⟨b, 0, none⟩ = some (.int .i64 size)) (hs : 1 ≤ size ∧ size ≤ 4) (hl : ∀ d, d ∈ l → d.length ≤ 1048576) :
    PredL 30 #[.pointer (some ⟨b, 0, none⟩)] w l (fun d => !risesB 0 (size - 1) d) := by
  intro W x u0 hb hx hmem
  have g0 := cellL hb hc0
  have hxl := hl x hmem
  show Calls Tryz.prog 30 #[u0, .pointer (some ⟨b, 0, none⟩)] W _
  have HX := Lib.hid hx
  obtain ⟨a, c, rfl, _⟩ := rd_list hx
  clear hx hb hc0 hl hmem
  have HE := Lib.hid (rises_vals size x)
  have g0_ := cellL (St.start W).bel g0
  go_enter Tryz.func30, Tryz.ntmps30
  go_wp2_with fail
  refine (areValues_c size x _ (x.length : Int) _ (Rd.mono HX.out (St.start W).bel) (by omega) (by omega)).mono ?_
  rintro e w25 ⟨rfl, hbw25⟩
  have hz_w25 : W.heap.size ≤ w25.heap.size := by have h9 := hbw25.size; (try simp at h9); omega
  have hs26 := (St.start W).step hbw25
  clear g0_
  have g0_ := cellL hs26.bel g0
  cases h1 : valsOk size x x.length with
  | false =>
    have H1 := Lib.hid (show risesB 0 (size - 1) x = false by rw [HE.out, h1]; rfl)
    clear h1
    go_wp2_with fail
    go_ret
    exact ⟨ret_bool (by rw [H1.out]; rfl), hs26.bel⟩
  | true =>
    have H1 := Lib.hid (show risesB 0 (size - 1) x = decide (x = riseL x) by rw [HE.out, h1]; rfl)
    clear h1
    go_wp2_with fail
    refine (rising_c x _ _ (Rd.mono HX.out hs26.bel) (by omega)).mono ?_
    rintro e w27 ⟨v2, rfl, hac, hbw27⟩
    have hz_w27 : w25.heap.size ≤ w27.heap.size := by have h9 := hbw27.size; (try simp at h9); omega
    have hs28 := hs26.step hbw27
    clear g0_
    have g0_ := cellL hs28.bel g0
    obtain ⟨a2, c2, rfl, _⟩ := rd_list hac.rd
    have HRI := Lib.hid hac.rd
    clear hac
    go_wp2_with fail
    refine (equalInts_c x (riseL x) _ _ _ (Rd.mono HX.out hs28.bel) HRI.out).mono ?_
    rintro e w29 ⟨rfl, hbw29⟩
    have hz_w29 : w27.heap.size ≤ w29.heap.size := by have h9 := hbw29.size; (try simp at h9); omega
    have hs30 := hs28.step hbw29
    have HRI_31 := Lib.hid (Rd.mono HRI.out hbw29)
    clear HRI
    clear g0_
    have g0_ := cellL hs30.bel g0
    go_wp2_with fail
    go_ret
    exact ⟨ret_bool (by rw [H1.out]), hs30.bel⟩
set_option maxRecDepth 100000 in
set_option maxHeartbeats 4000000 in
theorem ValidDomains_c (t : Tmpl) (t0 t1 : Value) (x : Inst) (x0 x1 : Value) (ds : List (List Int)) (vp : Value) (w : World) (ht : Rd w [t0, t1] t) (hx : Rd w [x0, x1] x) (hp : Rd w [vp] ds) (hz : ∀ d, d ∈ ds → d.length ≤ 1048576) :
    Calls Tryz.prog 10 #[.agg #[t0, t1], .agg #[x0, x1], vp] w fun e w' => e = .returned (.bool (domsOk t x ds)) ∧ Below w.heap.size w w' := by
  obtain ⟨size, rs⟩ := t
  obtain ⟨vars, cs⟩ := x
  have HT := Lib.hid ht
  have HX := Lib.hid hx
  have HP := Lib.hid hp
  have HZ := Lib.hid hz
  have zt := rd_cons rfl ht
  obtain ⟨rfl, _⟩ := rd_i1 zt.1
  obtain ⟨at0, ct0, rfl, _⟩ := rd_list zt.2
  have zx := rd_cons rfl hx
  obtain ⟨rfl, _⟩ := rd_i1 zx.1
  obtain ⟨ax, cx, rfl, _⟩ := rd_list zx.2
  obtain ⟨a, c, rfl, hpr⟩ := rd_list hp
  have hb0 := (rdSl_len hpr).2
  unfold maxLen at hb0
  clear ht hx hp zt zx hpr hz
  have eg : ∀ args w, (callFunc 30 args).run Tryz.prog w = .ok (.enter 30 args) w := enters_of Tryz.func30 (by kernel_rfl) rfl
  have hs32 := (St.start w).alloc #[.int .i64 size, .slice at0 rs.length ct0] 26 (n := w.heap.size) (by simp)
  have k0_0 := hs32.cellAt 0 rfl 0 rfl
  have k0_1 := hs32.cellAt 0 rfl 1 rfl
  have hs33 := hs32.alloc #[.int .i64 vars, .slice ax cs.length cx] 29 (n := w.heap.size + 1) (by simp)
  clear k0_0 k0_1
  have k0_0 := hs33.cellAt 0 rfl 0 rfl
  have k0_1 := hs33.cellAt 0 rfl 1 rfl
  have k1_0 := hs33.cellAt 1 rfl 0 rfl
  have k1_1 := hs33.cellAt 1 rfl 1 rfl
  go_enter Tryz.func10, Tryz.ntmps10
  go_wp2_with fail
  refine (ValidInstance_c (size, rs) (vars, cs) _ _ _ _ _ (Rd.mono HT.out hs33.bel) (Rd.mono HX.out hs33.bel)).mono ?_
  rintro e w34 ⟨rfl, hbw34⟩
  have hz_w34 : w.heap.size + 1 + 1 ≤ w34.heap.size := by have h9 := hbw34.size; (try simp at h9); omega
  have hs35 := hs33.step hbw34
  clear k0_0 k0_1 k1_0 k1_1
  have k0_0 := hs35.cellAt 0 rfl 0 rfl
  have k0_1 := hs35.cellAt 0 rfl 1 rfl
  have k1_0 := hs35.cellAt 1 rfl 0 rfl
  have k1_1 := hs35.cellAt 1 rfl 1 rfl
  cases h1 : instOk (size, rs) (vars, cs) with
  | false =>
    have H1 := Lib.hid (show domsOk (size, rs) (vars, cs) ds = false by unfold domsOk; rw [h1]; rfl)
    clear h1
    go_wp2_with fail
    go_ret
    exact ⟨ret_bool H1.out.symm, hs35.bel⟩
  | true =>
    have hs := (tmplOk_get (instOk_get h1).1).1
    have H0 := Lib.hid (show domsOk (size, rs) (vars, cs) ds = (decide ((ds.length : Int) = vars) && ds.all (risesB 0 (size - 1))) by unfold domsOk; rw [h1]; rfl)
    clear h1
    by_cases hl : (ds.length : Int) = vars
    · have hlb : ((ds.length : Int) != vars) = false := by simp [hl]
      have H1 := Lib.hid (show domsOk (size, rs) (vars, cs) ds = ds.all (risesB 0 (size - 1)) by rw [H0.out, decide_eq_true hl, Bool.true_and])
      have HVV := Lib.hid hl
      clear hl
      go_wp2_with fail
      refine (containsLists_c ds _ 30 _ _ _ (Rd.mono HP.out hs35.bel) eg (validDomains1_by size _ _ ds (hs35.cellAt 0 rfl 0 rfl) hs HZ.out)).mono ?_
      rintro e w36 ⟨rfl, hbw36⟩
      have hz_w36 : w34.heap.size ≤ w36.heap.size := by have h9 := hbw36.size; (try simp at h9); omega
      have hs37 := hs35.step hbw36
      clear k0_0 k0_1 k1_0 k1_1
      have k0_0 := hs37.cellAt 0 rfl 0 rfl
      have k0_1 := hs37.cellAt 0 rfl 1 rfl
      have k1_0 := hs37.cellAt 1 rfl 0 rfl
      have k1_1 := hs37.cellAt 1 rfl 1 rfl
      have hall := Lib.hid (all_of_any ds (risesB 0 (size - 1)))
      go_wp2_with fail
      go_ret
      exact ⟨ret_bool (by rw [H1.out, ← hall.out]), hs37.bel⟩
    · have hlb : ((ds.length : Int) != vars) = true := by simp [hl]
      have H1 := Lib.hid (show domsOk (size, rs) (vars, cs) ds = false by rw [H0.out, decide_eq_false hl, Bool.false_and])
      clear hl
      go_wp2_with fail
      go_ret
      exact ⟨ret_bool H1.out.symm, hs35.bel⟩

end Go.Proofs.YtamkfnkikiekaaaGreat

