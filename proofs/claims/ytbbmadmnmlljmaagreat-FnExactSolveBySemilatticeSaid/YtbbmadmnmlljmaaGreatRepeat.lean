/-
  CONTRACT: slices.Repeat of one number.
-/
import Derived.Test.YtbbmadmnmlljmaaGreatKeepS
import Derived.Laws.CopyOwn
namespace Go.Proofs.YtbbmadmnmlljmaaGreat
open Go.RowKit Go.Shelf Go.IntWalk
open Rep (Rd Own sz)
set_option linter.unusedSimpArgs false
set_option linter.unusedVariables false

theorem mul64_c (n : Nat) (h1 : 1 ≤ n) (h2 : n ≤ 10) (w : World) : Calls Tryz.prog 199 #[.int .u64 1, .int .u64 n] w fun e w' => e = .returned (.tuple #[.int .u64 0, .int .u64 n]) ∧ w = w' := by
  obtain rfl | rfl | rfl | rfl | rfl | rfl | rfl | rfl | rfl | rfl : n = 1 ∨ n = 2 ∨ n = 3 ∨ n = 4 ∨ n = 5 ∨ n = 6 ∨ n = 7 ∨ n = 8 ∨ n = 9 ∨ n = 10 := by omega
  all_goals
    go_enter Tryz.func199, Tryz.ntmps199
    go_wp2_with fail
  · refine bodyPost_ret (v := .tuple #[.int .u64 0, .int .u64 1]) (by simp [results, Tryz.results199, go_sem] <;> decide) rfl ⟨rfl, rfl⟩
  · refine bodyPost_ret (v := .tuple #[.int .u64 0, .int .u64 2]) (by simp [results, Tryz.results199, go_sem] <;> decide) rfl ⟨rfl, rfl⟩
  · refine bodyPost_ret (v := .tuple #[.int .u64 0, .int .u64 3]) (by simp [results, Tryz.results199, go_sem] <;> decide) rfl ⟨rfl, rfl⟩
  · refine bodyPost_ret (v := .tuple #[.int .u64 0, .int .u64 4]) (by simp [results, Tryz.results199, go_sem] <;> decide) rfl ⟨rfl, rfl⟩
  · refine bodyPost_ret (v := .tuple #[.int .u64 0, .int .u64 5]) (by simp [results, Tryz.results199, go_sem] <;> decide) rfl ⟨rfl, rfl⟩
  · refine bodyPost_ret (v := .tuple #[.int .u64 0, .int .u64 6]) (by simp [results, Tryz.results199, go_sem] <;> decide) rfl ⟨rfl, rfl⟩
  · refine bodyPost_ret (v := .tuple #[.int .u64 0, .int .u64 7]) (by simp [results, Tryz.results199, go_sem] <;> decide) rfl ⟨rfl, rfl⟩
  · refine bodyPost_ret (v := .tuple #[.int .u64 0, .int .u64 8]) (by simp [results, Tryz.results199, go_sem] <;> decide) rfl ⟨rfl, rfl⟩
  · refine bodyPost_ret (v := .tuple #[.int .u64 0, .int .u64 9]) (by simp [results, Tryz.results199, go_sem] <;> decide) rfl ⟨rfl, rfl⟩
  · refine bodyPost_ret (v := .tuple #[.int .u64 0, .int .u64 10]) (by simp [results, Tryz.results199, go_sem] <;> decide) rfl ⟨rfl, rfl⟩
theorem mul_c (n : Nat) (h1 : 1 ≤ n) (h2 : n ≤ 10) (w : World) : Calls Tryz.prog 178 #[.int .u64 1, .int .u64 n] w fun e w' => e = .returned (.tuple #[.int .u64 0, .int .u64 n]) ∧ w = w' := by
  go_enter Tryz.func178, Tryz.ntmps178
  go_wp2_with fail
  refine (mul64_c n h1 h2 _).mono ?_
  rintro e w1 ⟨rfl, rfl⟩
  have eu : IntKind.u64.wrap (n : Int) = (n : Int) := by
    obtain rfl | rfl | rfl | rfl | rfl | rfl | rfl | rfl | rfl | rfl : n = 1 ∨ n = 2 ∨ n = 3 ∨ n = 4 ∨ n = 5 ∨ n = 6 ∨ n = 7 ∨ n = 8 ∨ n = 9 ∨ n = 10 := by omega
    all_goals decide
  go_wp2_with fail
  refine bodyPost_ret (v := .tuple #[.int .u64 0, .int .u64 n]) (by simp [results, Tryz.results178, go_sem]) rfl ⟨rfl, rfl⟩
/-- The row holds a's up to k. -/
structure RepR (g n k : Nat) (a : Int) (w : World) : Prop where
  get : ∃ (cur : Array Value) (e : TypeId), w.heap[g]? = some (.cells cur e (0, 0)) ∧ n ≤ cur.size ∧ ∀ i, i < k → cur[i]? = some (.int .i64 a)
theorem RepR.mono {g n k : Nat} {a : Int} {w w' : World} (h : RepR g n k a w) (hb : Below w.heap.size w w') : RepR g n k a w' := by
  obtain ⟨cur, e, h1, h2⟩ := h.get
  exact ⟨cur, e, by rw [hb.block g (Array.getElem?_eq_some_iff.1 h1).1]; exact h1, h2⟩
theorem RepR.fresh {g n c : Nat} {a : Int} {w : World} (h : RepR g n n a w) (hI : I64 a) (hn : n ≤ c) (hc : c ≤ maxLen) {lo : Nat} (hg : lo ≤ g) : Fresh lo w [.slice (some ⟨g, 0, none⟩) n c] (List.replicate n a) := by
  obtain ⟨cur, e, h1, h2, h3⟩ := h.get
  refine ⟨[g], ⟨_, rfl, .inr ⟨g, 0, c, cur, e, List.replicate n [], by simp, by simpa using hn, hc, h1, by simp, by simp, fun i hi => ?_⟩⟩, by simp, fun k hk => by simp at hk; omega⟩
  have hin : i < n := by simpa using hi
  refine ⟨[], [.int .i64 a], by simp [hin], ⟨rfl, by simp, by simpa using hI⟩, fun k hk => ?_⟩
  obtain rfl : k = 0 := by simp at hk; omega
  simpa [sz] using h3 i hin
theorem copy_rep {P : Program} {dT ty elem : TypeId} (hu : P.underlying dT = some (.slice elem)) (hs : (P.info? elem).map (·.size) = some 1) {g n k m dLen dCap sLen sCap : Nat} {a : Int} {w : World} (h : RepR g n k a w) (ad : Addr)
    (hm : m = Nat.min sLen dLen) (hkm : k + m ≤ n) (hsrc : ∀ j, j < m → w.cell? (ad.add j) = some (.int .i64 a)) :
    ∃ w2, (Builtin.copy_ #[dT, dT] ty #[.slice (some ⟨g, k, none⟩) dLen dCap, .slice (some ad) sLen sCap]).run P w = .ok (.int .i64 (m : Int)) w2 ∧ RepR g n (k + m) a w2 ∧ ∀ B w0, Below B w0 w → B ≤ g → Below B w0 w2 := by
  obtain ⟨cur, e, hg, hn, hk⟩ := h.get
  have hrun := run_copy_row (P := P) w dT dT ty elem g k dLen dCap ad sLen sCap cur e (List.replicate m (Value.int .i64 a)) hu hs hg (by simpa using hm) (fun j v hj => by
    rw [List.getElem?_replicate] at hj
    by_cases hjm : j < m
    · rw [if_pos hjm] at hj
      cases hj
      exact hsrc j hjm
    · rw [if_neg hjm] at hj
      cases hj) (by simp; omega) (fun v hv => by
    obtain ⟨_, rfl⟩ := List.mem_replicate.1 hv
    rfl)
  rw [List.length_replicate] at hrun
  refine ⟨_, hrun, ?_, fun B w0 hb hB => below_setRow hb hB _⟩
  refine ⟨_, e, setRow_heap w g cur _ e _ hg, by simp; omega, fun i hi => ?_⟩
  rw [List.getElem?_toArray]
  have hl : (cur.toList.take k).length = k := by simp; omega
  by_cases h1 : i < k
  · rw [List.append_assoc, List.getElem?_append_left (by omega), List.getElem?_take, if_pos h1, Array.getElem?_toList]
    exact hk i h1
  · rw [List.append_assoc, List.getElem?_append_right (by omega), hl, List.getElem?_append_left (by simp; omega)]
    rw [List.getElem?_replicate, if_pos (by omega)]
set_option maxHeartbeats 4000000 in
set_option maxRecDepth 100000 in
theorem repeatInts_c (a : Int) (n : Nat) (vx : Value) (w : World) (r : Rd w [vx] [a]) (h1 : 1 ≤ n) (h10 : n ≤ 10) :
    Calls Tryz.prog 133 #[vx, .int .i64 n] w fun e w' => ∃ v', e = .returned v' ∧ Fresh w.heap.size w' [v'] (List.replicate n a) ∧ Below w.heap.size w w' := by
  obtain ⟨b, o, c, rfl, qx, hI⟩ : ∃ b o c, vx = .slice (some ⟨b, o, none⟩) 1 c ∧ w.cell? ⟨b, o, none⟩ = some (.int .i64 a) ∧ I64 a := by
    obtain ⟨ad, c, rfl, h⟩ := rd_list r
    obtain ⟨b, o, u, rfl, q, hu⟩ := rdSl_one rfl h 0 (by simp)
    obtain ⟨rfl, hI⟩ := rd_i1 hu
    exact ⟨b, o, c, rfl, by simpa using q, hI⟩
  have HI := Lib.hid hI
  clear r hI
  have eu : IntKind.u64.wrap (n : Int) = (n : Int) := by
    obtain rfl | rfl | rfl | rfl | rfl | rfl | rfl | rfl | rfl | rfl : n = 1 ∨ n = 2 ∨ n = 3 ∨ n = 4 ∨ n = 5 ∨ n = 6 ∨ n = 7 ∨ n = 8 ∨ n = 9 ∨ n = 10 := by omega
    all_goals decide
  have ei : IntKind.i64.wrap (n : Int) = (n : Int) := i64_in _ (by omega)
  have hbig : ¬ ((9223372036854775807 : Int) < n) := by omega
  have hn0 : ¬ ((n : Int) < 0) := by omega
  go_enter Tryz.func133, Tryz.ntmps133
  go_wp2_with fail
  refine (mul_c n h1 h10 _).mono ?_
  rintro e w1 ⟨rfl, rfl⟩
  go_wp2_with (at_make; refine wpList_make_rep _ rfl _ _ 28 rfl E_ints 0 own0_int n (by omega) rfl rfl ?_; intro w1 hown hb1 hs1)
  obtain ⟨cur, e, hg, hsz⟩ : ∃ (cur : Array Value) (e : TypeId), w1.heap[w.heap.size]? = some (.cells cur e (0, 0)) ∧ n ≤ cur.size := by
    rcases hown with ⟨h, _⟩ | ⟨g, o, c, cur, e, pss, hv, _, _, h3, _, h5, h6⟩
    · have := congrArg List.length h
      simp at this
      omega
    · simp only [Value.slice.injEq, Option.some.injEq, Addr.mk.injEq] at hv
      obtain ⟨⟨rfl, rfl, -⟩, -, -⟩ := hv
      refine ⟨cur, e, h3, ?_⟩
      obtain ⟨p, vs, _, hO, hc⟩ := h6 (n - 1) (by simp; omega)
      have hl := Rep.rd_len (Rep.own_rd hO)
      have h9 := hc 0 (by rw [hl]; decide)
      have hv0 : 0 < vs.length := by rw [hl]; decide
      rw [List.getElem?_eq_getElem hv0] at h9
      have := (Array.getElem?_eq_some_iff.1 h9).1
      simp [sz] at this
      omega
  obtain ⟨w2, hrun, hrep, hbel⟩ := copy_rep (P := Tryz.prog) (dT := 28) (ty := 3) (dLen := n) (dCap := n) (sLen := 1) (sCap := c) (m := 1) Tryz.underlying28 (by kernel_rfl) (show RepR w.heap.size n 0 a w1 from ⟨cur, e, hg, hsz, fun i hi => absurd hi (Nat.not_lt_zero _)⟩) ⟨b, o, none⟩ (by simp [Nat.min_def]; omega) (by omega) (fun j hj => by
    obtain rfl : j = 0 := by omega
    exact cellL hb1 qx)
  have HREP := Lib.hid hrep
  have HB2 := Lib.hid (hbel _ _ hb1 (Nat.le_refl _))
  clear hown hg hsz hb1 hrep hbel
  rw [hrun]
  clear hrun
  go_wp2_with fail
  go_loopw [8] (fun i wl => ∃ k : Nat, 1 ≤ k ∧ k ≤ n ∧ i = .int .i64 k ∧ Hid (Below w.heap.size w wl) ∧ Hid (RepR w.heap.size n k a wl)) (fun i _ => n - (intOf i).toNat)
  case atStart => exact ⟨1, Nat.le_refl _, h1, rfl, HB2.out, HREP.out⟩
  case round =>
    clear HREP HB2
    obtain ⟨k, hk1, hk, rfl, hbl, hrep⟩ := hrel
    have hs1 := (St.start w).step hbl.out
    have qx_ := cellL hs1.bel qx
    clear qx_
    have qx_ := cellL hs1.bel qx
    by_cases hlt : k < n
    · have hkl : (k : Int) < n := by omega
      have hle : (k : Int) ≤ n := by omega
      have HB := hbl
      obtain ⟨m, hm⟩ : ∃ m, m = Nat.min k (n - k) := ⟨_, rfl⟩
      have hm1 : 1 ≤ m := by have h9 : Nat.min k (n - k) = if k ≤ n - k then k else n - k := Nat.min_def; rw [h9] at hm; split at hm <;> omega
      have hm2 : k + m ≤ n := by have h9 : Nat.min k (n - k) = if k ≤ n - k then k else n - k := Nat.min_def; rw [h9] at hm; split at hm <;> omega
      have hm3 : m ≤ k := by have h9 : Nat.min k (n - k) = if k ≤ n - k then k else n - k := Nat.min_def; rw [h9] at hm; split at hm <;> omega
      have HM := Lib.hid hm
      clear hm
      have ew : IntKind.i64.wrap ((k : Int) + (m : Int)) = (k : Int) + (m : Int) := i64_in _ (by omega)
      have HRD := Lib.hid (hrep.out.mono (belowD wr))
      go_upto_region 9 with fail
      refine wp_region_noPanic (wp_region_tree4 (fun w' => w'.cell? ⟨b, o, none⟩ = some (.int .i64 a)) (.float 0 (.float 1 (.float 2 (.float 3 (.float 4 (.float 5 (.float 6 (.hard 7 (.float 8 (.float 9 .nil)))))))))) (by kernel_rfl) (by kernel_rfl) (by kernel_rfl) rfl ?_ (fun _ _ _ _ _ h => h) ?_)
      · exact (cellL (hs1.drew).bel qx)
      have hs1 := hs1.drew
      have HB_2 := Lib.hid (HB.out.trans (((belowD _)).mono HB.out.size))
      clear HB
      clear qx_
      have hz_wd3 : wr.heap.size ≤ (wr.drew).heap.size := by simp
      generalize hgen_wd3 : wr.drew = wd3 at *
      have HG_wd3 := Lib.hid hgen_wd3
      clear hgen_wd3
      (repeat (first | (apply t4_skip rfl (by rfl); try simp only [Act.put, List.setIfInBounds_toArray, List.set_cons_zero, List.set_cons_succ]) | (apply t4_float rfl (by rfl); (· (intro w' hS; go_simp <;> with_reducible rfl)); (try simp only [Act.put, List.setIfInBounds_toArray, List.set_cons_zero, List.set_cons_succ]))))
      refine t4_hard rfl (by rfl) (fun K hK => ?_)
      go_wp2_with fail
      obtain ⟨w9, hrun9, hrep9, hbel9⟩ := copy_rep (P := Tryz.prog) (dT := 28) (ty := 3) (dLen := n - k) (dCap := n - k) (sLen := k) (sCap := n) (m := m) Tryz.underlying28 (by kernel_rfl) HRD.out ⟨w.heap.size, 0, none⟩ HM.out hm2 (fun j hj => by
        obtain ⟨cur, e, hg, hsz, hget⟩ := HRD.out.get
        rw [Addr.add_lit]
        refine (cell_at_block (o := 0 + j) hg).trans ?_
        rw [Nat.zero_add]
        exact hget j (by omega))
      have hs9 := (St.start w).step (hbel9 _ _ HB_2.out (Nat.le_refl _))
      have HB9 := Lib.hid (hbel9 _ _ HB_2.out (Nat.le_refl _))
      have HR9 := Lib.hid hrep9
      rw [hrun9]
      clear hrun9 hrep9 hbel9
      go_wp2_with fail
      refine ⟨(cellL hs9.bel qx), ?_⟩
      (repeat (first | (apply t4_skip rfl (by rfl); try simp only [Act.put, List.setIfInBounds_toArray, List.set_cons_zero, List.set_cons_succ]) | (apply t4_float rfl (by rfl); (· (intro w' hS; go_simp <;> with_reducible rfl)); (try simp only [Act.put, List.setIfInBounds_toArray, List.set_cons_zero, List.set_cons_succ]))))
      have qx_ := cellL hs9.bel qx
      refine t4_nil (NoPanic.normal ?_)
      go_wp2_with fail
      go_roundw
      case rel => exact ⟨k + m, by omega, hm2, by go_num, HB9.out, HR9.out⟩
      case measure => simp [intOf]; omega
    · obtain rfl : k = n := by omega
      have hnl : ¬ ((k : Int) < k) := by omega
      have HF := Lib.hid (hrep.out.fresh HI.out (Nat.le_refl _) (by unfold maxLen; omega) (lo := w.heap.size) (Nat.le_refl _))
      have HBF := Lib.hid hbl.out
      go_wp2_with fail
      go_ret
      exact ⟨_, rfl, HF.out, HBF.out⟩

end Go.Proofs.YtbbmadmnmlljmaaGreat
