/-
  SEVERAL TEXTS IN ONE.
-/
import Derived.Test.YtllenfkbfeanmaaGreatTmplBSa
import Derived.Test.YtllenfkbfeanmaaGreatArcMBSa
import Derived.Test.YtllenfkbfeanmaaGreatKeepBSa
import Derived.Test.YtllenfkbfeanmaaGreatRowBSa
import Derived.Test.YtllenfkbfeanmaaGreatChosenSa
import Derived.Laws.CopyOwn

/-
  CONTRACTS: whether a relation has a tuple; both sides.
-/
namespace Go.Proofs.YtllenfkbfeanmaaGreat
open Go.RowKit Go.Shelf Go.IntWalk
open Rep (Rd Own sz)
set_option linter.unusedSimpArgs false
set_option linter.unusedVariables false

end Go.Proofs.YtllenfkbfeanmaaGreat

/-
  CONTRACTS: values at places; the first constraint that fails; the first relation that an operation breaks. Both sides.
-/
namespace Go.Proofs.YtllenfkbfeanmaaGreat
open Go.RowKit Go.Shelf Go.IntWalk
open Rep (Rd Own sz)
set_option linter.unusedSimpArgs false
set_option linter.unusedVariables false

/-- What a right instance says of a constraint, its relation too. -/
structure ConF (t : Tmpl) (vars : Int) (c : OpT) (n : Nat) : Prop where
  rel : c.1 = (n : Int)
  lt : n < t.2.length
  inc : Inc (t.2.getD n (0, [])).2
  cnt : (t.2.getD n (0, [])).2.length ≤ 256
  sc : ∀ v, v ∈ c.2 → 0 ≤ v ∧ v < vars
  four : c.2.length ≤ 4
end Go.Proofs.YtllenfkbfeanmaaGreat

/-
  CONTRACT: slices.Repeat of one number.
-/
namespace Go.Proofs.YtllenfkbfeanmaaGreat
open Go.RowKit Go.Shelf Go.IntWalk
open Rep (Rd Own sz)
set_option linter.unusedSimpArgs false
set_option linter.unusedVariables false

theorem mul64_c (n : Nat) (h1 : 1 ≤ n) (h2 : n ≤ 10 ∨ n = 16 ∨ n = 27 ∨ n = 64) (w : World) : Calls Tryz.prog 199 #[.int .u64 1, .int .u64 n] w fun e w' => e = .returned (.tuple #[.int .u64 0, .int .u64 n]) ∧ w = w' := by
  obtain rfl | rfl | rfl | rfl | rfl | rfl | rfl | rfl | rfl | rfl | rfl | rfl | rfl : n = 1 ∨ n = 2 ∨ n = 3 ∨ n = 4 ∨ n = 5 ∨ n = 6 ∨ n = 7 ∨ n = 8 ∨ n = 9 ∨ n = 10 ∨ n = 16 ∨ n = 27 ∨ n = 64 := by omega
  all_goals
    go_enter Tryz.func199, Tryz.ntmps199
    go_wp2_with fail
  · refine bodyPost_ret (v := .tuple #[.int .u64 0, .int .u64 1]) (by simp [results, Tryz.results199, go_sem] <;> decide) rfl ⟨rfl, rfl⟩
  · refine bodyPost_ret (v := .tuple #[.int .u64 0, .int .u64 2]) (by simp [results, Tryz.results199, go_sem] <;> decide) rfl ⟨rfl, rfl⟩
  · refine bodyPost_ret (v := .tuple #[.int .u64 0, .int .u64 3]) (by simp [results, Tryz.results199, go_sem] <;> decide) rfl ⟨rfl, rfl⟩
  · refine bodyPost_ret (v := .tuple #[.int .u64 0, .int .u64 4]) (by simp [results, Tryz.results199, go_sem] <;> decide) rfl ⟨rfl, rfl⟩
  · refine bodyPost_ret (v := .tuple #[.int .u64 0, .int .u64 5]) (by simp [results, Tryz.results199, go_sem] <;> decide) rfl ⟨rfl, rfl⟩
  · refine bodyPost_ret (v := .tuple #[.int .u64 0, .int .u64 6]) (by simp [results, Tryz.results199, go_sem] <;> decide) rfl ⟨rfl, rfl⟩
  · refine bodyPost_ret (v := .tuple #[.int .u64 0, .int .u64 7]) (by simp [results, Tryz.results199, go_sem] <;> decide) rfl ⟨rfl, rfl⟩
  · refine bodyPost_ret (v := .tuple #[.int .u64 0, .int .u64 8]) (by simp [results, Tryz.results199, go_sem] <;> decide) rfl ⟨rfl, rfl⟩
  · refine bodyPost_ret (v := .tuple #[.int .u64 0, .int .u64 9]) (by simp [results, Tryz.results199, go_sem] <;> decide) rfl ⟨rfl, rfl⟩
  · refine bodyPost_ret (v := .tuple #[.int .u64 0, .int .u64 10]) (by simp [results, Tryz.results199, go_sem] <;> decide) rfl ⟨rfl, rfl⟩
  · refine bodyPost_ret (v := .tuple #[.int .u64 0, .int .u64 16]) (by simp [results, Tryz.results199, go_sem] <;> decide) rfl ⟨rfl, rfl⟩
  · refine bodyPost_ret (v := .tuple #[.int .u64 0, .int .u64 27]) (by simp [results, Tryz.results199, go_sem] <;> decide) rfl ⟨rfl, rfl⟩
  · refine bodyPost_ret (v := .tuple #[.int .u64 0, .int .u64 64]) (by simp [results, Tryz.results199, go_sem] <;> decide) rfl ⟨rfl, rfl⟩
theorem mul_c (n : Nat) (h1 : 1 ≤ n) (h2 : n ≤ 10 ∨ n = 16 ∨ n = 27 ∨ n = 64) (w : World) : Calls Tryz.prog 185 #[.int .u64 1, .int .u64 n] w fun e w' => e = .returned (.tuple #[.int .u64 0, .int .u64 n]) ∧ w = w' := by
  go_enter Tryz.func185, Tryz.ntmps185
  go_wp2_with fail
  refine (mul64_c n h1 h2 _).mono ?_
  rintro e w1 ⟨rfl, rfl⟩
  have eu : IntKind.u64.wrap (n : Int) = (n : Int) := by
    obtain rfl | rfl | rfl | rfl | rfl | rfl | rfl | rfl | rfl | rfl | rfl | rfl | rfl : n = 1 ∨ n = 2 ∨ n = 3 ∨ n = 4 ∨ n = 5 ∨ n = 6 ∨ n = 7 ∨ n = 8 ∨ n = 9 ∨ n = 10 ∨ n = 16 ∨ n = 27 ∨ n = 64 := by omega
    all_goals decide
  go_wp2_with fail
  refine bodyPost_ret (v := .tuple #[.int .u64 0, .int .u64 n]) (by simp [results, Tryz.results185, go_sem]) rfl ⟨rfl, rfl⟩
/-- The row holds a's up to k. -/
structure RepR (g n k : Nat) (a : Int) (w : World) : Prop where
  get : ∃ (cur : Array Value) (e : TypeId), w.heap[g]? = some (.cells cur e (0, 0)) ∧ n ≤ cur.size ∧ ∀ i, i < k → cur[i]? = some (.int .i64 a)
theorem RepR.mono {g n k : Nat} {a : Int} {w w' : World} (h : RepR g n k a w) (hb : Below w.heap.size w w') : RepR g n k a w' := by
  obtain ⟨cur, e, h1, h2⟩ := h.get
  exact ⟨cur, e, by rw [hb.block g (Array.getElem?_eq_some_iff.1 h1).1]; exact h1, h2⟩
theorem RepR.fresh {g n c : Nat} {a : Int} {w : World} (h : RepR g n n a w) (hI : I64 a) (hn : n ≤ c) (hc : c ≤ maxLen) {lo : Nat} (hg : lo ≤ g) : Fresh lo w [.slice (some ⟨g, 0, none⟩) n c] (List.replicate n a) := by
  obtain ⟨cur, e, h1, h2, h3⟩ := h.get
  refine ⟨[g], ⟨_, rfl, .inr ⟨g, 0, c, cur, e, List.replicate n [], by simp, by simpa using hn, hc, h1, by simp, by simp, fun i hi => ?_⟩⟩, by simp, fun k hk => by simp at hk; omega⟩
  have hin : i < n := by simpa using hi
  refine ⟨[], [.int .i64 a], by simp [hin], ⟨rfl, by simp, by simpa using hI⟩, fun k hk => ?_⟩
  obtain rfl : k = 0 := by simp at hk; omega
  simpa [sz] using h3 i hin
theorem copy_rep {P : Program} {dT ty elem : TypeId} (hu : P.underlying dT = some (.slice elem)) (hs : (P.info? elem).map (·.size) = some 1) {g n k m dLen dCap sLen sCap : Nat} {a : Int} {w : World} (h : RepR g n k a w) (ad : Addr)
    (hm : m = Nat.min sLen dLen) (hkm : k + m ≤ n) (hsrc : ∀ j, j < m → w.cell? (ad.add j) = some (.int .i64 a)) :
    ∃ w2, (Builtin.copy_ #[dT, dT] ty #[.slice (some ⟨g, k, none⟩) dLen dCap, .slice (some ad) sLen sCap]).run P w = .ok (.int .i64 (m : Int)) w2 ∧ RepR g n (k + m) a w2 ∧ ∀ B w0, Below B w0 w → B ≤ g → Below B w0 w2 := by
  obtain ⟨cur, e, hg, hn, hk⟩ := h.get
  have hrun := run_copy_row (P := P) w dT dT ty elem g k dLen dCap ad sLen sCap cur e (List.replicate m (Value.int .i64 a)) hu hs hg (by simpa using hm) (fun j v hj => by
    rw [List.getElem?_replicate] at hj
    by_cases hjm : j < m
    · rw [if_pos hjm] at hj
      cases hj
      exact hsrc j hjm
    · rw [if_neg hjm] at hj
      cases hj) (by simp; omega) (fun v hv => by
    obtain ⟨_, rfl⟩ := List.mem_replicate.1 hv
    rfl)
  rw [List.length_replicate] at hrun
  refine ⟨_, hrun, ?_, fun B w0 hb hB => below_setRow hb hB _⟩
  refine ⟨_, e, setRow_heap w g cur _ e _ hg, by simp; omega, fun i hi => ?_⟩
  rw [List.getElem?_toArray]
  have hl : (cur.toList.take k).length = k := by simp; omega
  by_cases h1 : i < k
  · rw [List.append_assoc, List.getElem?_append_left (by omega), List.getElem?_take, if_pos h1, Array.getElem?_toList]
    exact hk i h1
  · rw [List.append_assoc, List.getElem?_append_right (by omega), hl, List.getElem?_append_left (by simp; omega)]
    rw [List.getElem?_replicate, if_pos (by omega)]
set_option maxHeartbeats 4000000 in
set_option maxRecDepth 100000 in
theorem repeatInts_c (a : Int) (n : Nat) (vx : Value) (w : World) (r : Rd w [vx] [a]) (h1 : 1 ≤ n) (h10 : n ≤ 10 ∨ n = 16 ∨ n = 27 ∨ n = 64) :
    Calls Tryz.prog 158 #[vx, .int .i64 n] w fun e w' => ∃ v', e = .returned v' ∧ Fresh w.heap.size w' [v'] (List.replicate n a) ∧ Below w.heap.size w w' := by
  obtain ⟨b, o, c, rfl, qx, hI⟩ : ∃ b o c, vx = .slice (some ⟨b, o, none⟩) 1 c ∧ w.cell? ⟨b, o, none⟩ = some (.int .i64 a) ∧ I64 a := by
    obtain ⟨ad, c, rfl, h⟩ := rd_list r
    obtain ⟨b, o, u, rfl, q, hu⟩ := rdSl_one rfl h 0 (by simp)
    obtain ⟨rfl, hI⟩ := rd_i1 hu
    exact ⟨b, o, c, rfl, by simpa using q, hI⟩
  have HI := Lib.hid hI
  clear r hI
  have eu : IntKind.u64.wrap (n : Int) = (n : Int) := by
    obtain rfl | rfl | rfl | rfl | rfl | rfl | rfl | rfl | rfl | rfl | rfl | rfl | rfl : n = 1 ∨ n = 2 ∨ n = 3 ∨ n = 4 ∨ n = 5 ∨ n = 6 ∨ n = 7 ∨ n = 8 ∨ n = 9 ∨ n = 10 ∨ n = 16 ∨ n = 27 ∨ n = 64 := by omega
    all_goals decide
  have h64 : n ≤ 64 := by omega
  have H10 := Lib.hid h10
  clear h10
  have ei : IntKind.i64.wrap (n : Int) = (n : Int) := i64_in _ (by omega)
  have hbig : ¬ ((9223372036854775807 : Int) < n) := by omega
  have hn0 : ¬ ((n : Int) < 0) := by omega
  go_enter Tryz.func158, Tryz.ntmps158
  go_wp2_with fail
  refine (mul_c n h1 H10.out _).mono ?_
  rintro e w1 ⟨rfl, rfl⟩
  go_wp2_with (at_make; refine wpList_make_rep _ rfl _ _ 32 rfl E_ints 0 own0_int n (by omega) rfl rfl ?_; intro w1 hown hb1 hs1)
  obtain ⟨cur, e, hg, hsz⟩ : ∃ (cur : Array Value) (e : TypeId), w1.heap[w.heap.size]? = some (.cells cur e (0, 0)) ∧ n ≤ cur.size := by
    rcases hown with ⟨h, _⟩ | ⟨g, o, c, cur, e, pss, hv, _, _, h3, _, h5, h6⟩
    · have := congrArg List.length h
      simp at this
      omega
    · simp only [Value.slice.injEq, Option.some.injEq, Addr.mk.injEq] at hv
      obtain ⟨⟨rfl, rfl, -⟩, -, -⟩ := hv
      refine ⟨cur, e, h3, ?_⟩
      obtain ⟨p, vs, _, hO, hc⟩ := h6 (n - 1) (by simp; omega)
      have hl := Rep.rd_len (Rep.own_rd hO)
      have h9 := hc 0 (by rw [hl]; decide)
      have hv0 : 0 < vs.length := by rw [hl]; decide
      rw [List.getElem?_eq_getElem hv0] at h9
      have := (Array.getElem?_eq_some_iff.1 h9).1
      simp [sz] at this
      omega
  obtain ⟨w2, hrun, hrep, hbel⟩ := copy_rep (P := Tryz.prog) (dT := 32) (ty := 3) (dLen := n) (dCap := n) (sLen := 1) (sCap := c) (m := 1) Tryz.underlying32 (by kernel_rfl) (show RepR w.heap.size n 0 a w1 from ⟨cur, e, hg, hsz, fun i hi => absurd hi (Nat.not_lt_zero _)⟩) ⟨b, o, none⟩ (by simp [Nat.min_def]; omega) (by omega) (fun j hj => by
    obtain rfl : j = 0 := by omega
    exact cellL hb1 qx)
  have HREP := Lib.hid hrep
  have HB2 := Lib.hid (hbel _ _ hb1 (Nat.le_refl _))
  clear hown hg hsz hb1 hrep hbel
  rw [hrun]
  clear hrun
  go_wp2_with fail
  go_loopw [8] (fun i wl => ∃ k : Nat, 1 ≤ k ∧ k ≤ n ∧ i = .int .i64 k ∧ Hid (Below w.heap.size w wl) ∧ Hid (RepR w.heap.size n k a wl)) (fun i _ => n - (intOf i).toNat)
  case atStart => exact ⟨1, Nat.le_refl _, h1, rfl, HB2.out, HREP.out⟩
  case round =>
    clear HREP HB2
    obtain ⟨k, hk1, hk, rfl, hbl, hrep⟩ := hrel
    have hs1 := (St.start w).step hbl.out
    have qx_ := cellL hs1.bel qx
    clear qx_
    have qx_ := cellL hs1.bel qx
    by_cases hlt : k < n
    · have hkl : (k : Int) < n := by omega
      have hle : (k : Int) ≤ n := by omega
      have HB := hbl
      obtain ⟨m, hm⟩ : ∃ m, m = Nat.min k (n - k) := ⟨_, rfl⟩
      have hm1 : 1 ≤ m := by have h9 : Nat.min k (n - k) = if k ≤ n - k then k else n - k := Nat.min_def; rw [h9] at hm; split at hm <;> omega
      have hm2 : k + m ≤ n := by have h9 : Nat.min k (n - k) = if k ≤ n - k then k else n - k := Nat.min_def; rw [h9] at hm; split at hm <;> omega
      have hm3 : m ≤ k := by have h9 : Nat.min k (n - k) = if k ≤ n - k then k else n - k := Nat.min_def; rw [h9] at hm; split at hm <;> omega
      have HM := Lib.hid hm
      clear hm
      have ew : IntKind.i64.wrap ((k : Int) + (m : Int)) = (k : Int) + (m : Int) := i64_in _ (by omega)
      have HRD := Lib.hid (hrep.out.mono (belowD wr))
      go_upto_region 9 with fail
      refine wp_region_noPanic (wp_region_tree4 (fun w' => w'.cell? ⟨b, o, none⟩ = some (.int .i64 a)) (.float 0 (.float 1 (.float 2 (.float 3 (.float 4 (.float 5 (.float 6 (.hard 7 (.float 8 (.float 9 .nil)))))))))) (by kernel_rfl) (by kernel_rfl) (by kernel_rfl) rfl ?_ (fun _ _ _ _ _ h => h) ?_)
      · exact (cellL (hs1.drew).bel qx)
      have hs2 := hs1.drew
      have HB_3 := Lib.hid (HB.out.trans (((belowD _)).mono HB.out.size))
      clear HB
      clear qx_
      have hz_wd4 : wr.heap.size ≤ (wr.drew).heap.size := by simp
      generalize hgen_wd4 : wr.drew = wd4 at *
      have HG_wd4 := Lib.hid hgen_wd4
      clear hgen_wd4
      (repeat (first | (apply t4_skip rfl (by rfl); try simp only [Act.put, List.setIfInBounds_toArray, List.set_cons_zero, List.set_cons_succ]) | (apply t4_float rfl (by rfl); (· (intro w' hS; go_simp <;> with_reducible rfl)); (try simp only [Act.put, List.setIfInBounds_toArray, List.set_cons_zero, List.set_cons_succ]))))
      refine t4_hard rfl (by rfl) (fun K hK => ?_)
      go_wp2_with fail
      obtain ⟨w9, hrun9, hrep9, hbel9⟩ := copy_rep (P := Tryz.prog) (dT := 32) (ty := 3) (dLen := n - k) (dCap := n - k) (sLen := k) (sCap := n) (m := m) Tryz.underlying32 (by kernel_rfl) HRD.out ⟨w.heap.size, 0, none⟩ HM.out hm2 (fun j hj => by
        obtain ⟨cur, e, hg, hsz, hget⟩ := HRD.out.get
        rw [Addr.add_lit]
        refine (cell_at_block (o := 0 + j) hg).trans ?_
        rw [Nat.zero_add]
        exact hget j (by omega))
      have hs9 := (St.start w).step (hbel9 _ _ HB_3.out (Nat.le_refl _))
      have HB9 := Lib.hid (hbel9 _ _ HB_3.out (Nat.le_refl _))
      have HR9 := Lib.hid hrep9
      rw [hrun9]
      clear hrun9 hrep9 hbel9
      go_wp2_with fail
      refine ⟨(cellL hs9.bel qx), ?_⟩
      (repeat (first | (apply t4_skip rfl (by rfl); try simp only [Act.put, List.setIfInBounds_toArray, List.set_cons_zero, List.set_cons_succ]) | (apply t4_float rfl (by rfl); (· (intro w' hS; go_simp <;> with_reducible rfl)); (try simp only [Act.put, List.setIfInBounds_toArray, List.set_cons_zero, List.set_cons_succ]))))
      have qx_ := cellL hs9.bel qx
      refine t4_nil (NoPanic.normal ?_)
      go_wp2_with fail
      go_roundw
      case rel => exact ⟨k + m, by omega, hm2, by go_num, HB9.out, HR9.out⟩
      case measure => simp [intOf]; omega
    · obtain rfl : k = n := by omega
      have hnl : ¬ ((k : Int) < k) := by omega
      have HF := Lib.hid (hrep.out.fresh HI.out (Nat.le_refl _) (by unfold maxLen; omega) (lo := w.heap.size) (Nat.le_refl _))
      have HBF := Lib.hid hbl.out
      go_wp2_with fail
      go_ret
      exact ⟨_, rfl, HF.out, HBF.out⟩

end Go.Proofs.YtllenfkbfeanmaaGreat

/-
  CONTRACTS: SolveByConstant, both sides. (Printed by wip/gensolve.py.)
-/
namespace Go.Proofs.YtllenfkbfeanmaaGreat
open Go.RowKit Go.Shelf Go.IntWalk
open Rep (Rd Own sz)
set_option linter.unusedSimpArgs false
set_option linter.unusedVariables false

theorem rd_single {w : World} {b : Nat} {a : Int} (hI : I64 a) (h : w.cell? ⟨b, 0, none⟩ = some (.int .i64 a)) : Rd w [.slice (some ⟨b, 0, none⟩) 1 1] [a] := by
  refine mk_rd (l := [a]) ⟨Nat.le_refl _, by decide, fun i hi => ?_⟩
  obtain rfl : i = 0 := by simp at hi; omega
  refine ⟨b, 0, [.int .i64 a], rfl, ⟨rfl, hI⟩, fun k hk => ?_⟩
  obtain rfl : k = 0 := by simp at hk; omega
  simpa using h
def constOp (size a : Int) : OpT := (1, List.replicate size.toNat a)
def brokenF (t : Tmpl) (f : OpT) : Int := firstI (fun r => !keepsP t.1 f r) t.2
theorem pow_one0 (z : Int) : z ^ (1 : Int).toNat = z := by show z ^ 1 = z; simp [Int.pow_succ]
theorem const_ok {size a : Int} (hs : 1 ≤ size ∧ size ≤ 4) (ha : 0 ≤ a ∧ a ≤ size - 1) : opOk size (constOp size a) = true := by
  obtain ⟨n, rfl⟩ : ∃ n : Nat, size = (n : Int) := ⟨size.toNat, by omega⟩
  simp only [opOk, constOp, Bool.and_eq_true, valsOk, decide_eq_true_eq, List.all_eq_true, Int.toNat_natCast]
  refine ⟨⟨inB_mk hs, inB_mk (by omega)⟩, ?_, fun b hb => ?_⟩
  · simp
    exact (pow_one0 (n : Int)).symm
  · obtain ⟨_, rfl⟩ := List.mem_replicate.1 hb
    exact inB_mk ha
theorem constant1_by (size : Int) (m : Nat) (a : Int) (b : Nat) (w : World) (hI : I64 a) (hc : w.cell? ⟨b, 0, none⟩ = some (.int .i64 a)) : ByC 124 #[.pointer (some ⟨b, 0, none⟩)] w size m (fun _ => a) := by
  intro W l v hb _ _ _
  have g := cellL hb hc
  show Calls Tryz.prog 124 #[v, .pointer (some ⟨b, 0, none⟩)] W _
  go_enter Tryz.func124, Tryz.ntmps124
  go_wp2_with fail
  go_ret
  exact ⟨rfl, hI, Below.refl _ _⟩
theorem table_const (a size : Int) (m k : Nat) : tableTo (fun _ => a) size m k = List.replicate k a := by
  unfold tableTo
  induction k with
  | zero => rfl
  | succ k ih => rw [List.range_succ, List.map_append, ih, List.replicate_succ']; rfl
set_option maxRecDepth 100000 in
set_option maxHeartbeats 2000000 in
theorem constant_c (size a : Int) (w : World) (hs : 1 ≤ size ∧ size ≤ 4) (hI : I64 a) : Calls Tryz.prog 60 #[.int .i64 size, .int .i64 1, .int .i64 a] w fun e w' => ∃ v, e = .returned (.agg #[.int .i64 1, v]) ∧ Fresh w.heap.size w' [v] (constOp size a).2 ∧ Below w.heap.size w w' := by
  have eg : ∀ args w, (callFunc 124 args).run Tryz.prog w = .ok (.enter 124 args) w := enters_of Tryz.func124 (by kernel_rfl) rfl
  have HI := Lib.hid hI
  clear hI
  have HTC := Lib.hid (show tableTo (fun _ => a) size (1 : Int).toNat (size ^ (1 : Int).toNat).toNat = (constOp size a).2 by rw [table_const, pow_one0]; rfl)
  have hs5 := (St.start w).alloc #[.int .i64 a] 2 (n := w.heap.size) (by simp)
  have k0_0 := hs5.cellAt 0 rfl 0 rfl
  have hs6 := hs5.alloc #[.int .i64 0, .slice none 0 0] 34 (n := w.heap.size + 1) (by simp)
  clear k0_0
  have k0_0 := hs6.cellAt 0 rfl 0 rfl
  have k1_0 := hs6.cellAt 1 rfl 0 rfl
  have k1_1 := hs6.cellAt 1 rfl 1 rfl
  go_enter Tryz.func60, Tryz.ntmps60
  go_wp2_with fail
  refine (opOf_c size 1 124 _ (fun _ => a) _ (by omega) (by omega) (by omega) (by omega) (by rw [pow_one0]; omega) eg (constant1_by _ _ _ _ _ HI.out (hs6.cellAt 0 rfl 0 rfl))).mono ?_
  rintro e w7 ⟨v9, rfl, fr9, hbw7⟩
  have hz_w7 : w.heap.size + 1 + 1 ≤ w7.heap.size := by have h9 := hbw7.size; (try simp at h9); omega
  have hs8 := hs6.step hbw7
  clear k0_0 k1_0 k1_1
  have k0_0 := hs8.cellAt 0 rfl 0 rfl
  have k1_0 := hs8.cellAt 1 rfl 0 rfl
  have k1_1 := hs8.cellAt 1 rfl 1 rfl
  rw [HTC.out] at fr9
  obtain ⟨a9, c9, rfl, _⟩ := rd_list fr9.rd
  have g0 := (hs8.freeAt 1 rfl 0)
  have g1 := (hs8.freeAt 1 rfl 1)
  have hz9 := hbw7.size
  have hs9 := ((hs8.set (p := [_]) (by simp <;> omega) 0 (.int .i64 1)).set (p := [_]) (by simp <;> omega) 1 (.slice a9 (constOp size a).2.length c9))
  have HF := Lib.hid (show Fresh w.heap.size ((w7.setCell ⟨w.heap.size + 1, 0, none⟩ (.int .i64 1)).setCell ⟨w.heap.size + 1, 1, none⟩ (.slice a9 (constOp size a).2.length c9)) [.slice a9 (constOp size a).2.length c9] (constOp size a).2 from
    ((fr9.setCell (a := ⟨w.heap.size + 1, 0, none⟩) (by simp <;> omega) (.int .i64 1)).setCell (a := ⟨w.heap.size + 1, 1, none⟩) (by simp <;> omega) (.slice a9 (constOp size a).2.length c9)).lower (by (try simp); omega))
  have HB9 := Lib.hid hs9.bel
  have y0 := hs9.cellAt 1 rfl 0 rfl
  have y1 := hs9.cellAt 1 rfl 1 rfl
  clear hs9 fr9
  go_wp2_with fail
  refine bodyPost_ret (v := .agg #[.int .i64 1, .slice a9 (constOp size a).2.length c9]) (by simp [results, Tryz.results60, go_sem, y0, y1]) rfl ⟨_, rfl, HF.out, HB9.out⟩
set_option maxHeartbeats 2000000 in
theorem firstBroken1_by (size : Int) (f : OpT) (tb fb : Nat) (f0 f1 : Value) (rs : List RelT) (w : World) (hok : opOk size f = true) (hrs : ∀ r, r ∈ rs → relOk size r = true) (hf : Rd w [f0, f1] f) (hc0 : w.cell? ⟨tb, 0, none⟩ = some (.int .i64 size)) (d0 : w.cell? ⟨fb, 0, none⟩ = some f0) (d1 : w.cell? ⟨fb, 1, none⟩ = some f1) :
    PredRl 157 #[.pointer (some ⟨tb, 0, none⟩), .pointer (some ⟨fb, 0, none⟩)] w rs (fun r => !keepsP size f r) := by
  intro W r u0 u1 hb hr hmem
  have g0 := cellL hb hc0
  have e0 := cellL hb d0
  have e1 := cellL hb d1
  have HF := Lib.hid (Rd.mono hf hb)
  have HR := Lib.hid hr
  have HRK := Lib.hid (hrs r hmem)
  have HOK := Lib.hid hok
  obtain ⟨fa, ft⟩ := f
  obtain ⟨ra, rt⟩ := r
  have zf := rd_cons rfl hf
  obtain ⟨rfl, _⟩ := rd_i1 zf.1
  obtain ⟨af, cf, rfl, _⟩ := rd_list zf.2
  have zr := rd_cons rfl hr
  obtain ⟨rfl, _⟩ := rd_i1 zr.1
  obtain ⟨ar, cr, rfl, _⟩ := rd_list zr.2
  clear hf hr zf zr hc0 d0 d1 hb hmem hrs hok
  show Calls Tryz.prog 157 #[_, .pointer (some ⟨tb, 0, none⟩), .pointer (some ⟨fb, 0, none⟩)] W _
  have g0_ := cellL (St.start W).bel g0
  clear g0_
  have g0_ := cellL (St.start W).bel g0
  have e0_ := cellL (St.start W).bel e0
  clear g0_ e0_
  have g0_ := cellL (St.start W).bel g0
  have e0_ := cellL (St.start W).bel e0
  have e1_ := cellL (St.start W).bel e1
  have hs9 := (St.start W).alloc #[.int .i64 ra, .slice ar rt.length cr] 50 (n := W.heap.size) (by simp)
  clear g0_ e0_ e1_
  have k0_0 := hs9.cellAt 0 rfl 0 rfl
  have k0_1 := hs9.cellAt 0 rfl 1 rfl
  have g0_ := cellL hs9.bel g0
  have e0_ := cellL hs9.bel e0
  have e1_ := cellL hs9.bel e1
  go_enter Tryz.func157, Tryz.ntmps157
  go_wp2_with fail
  refine (keeps_c size (fa, ft) (ra, rt) _ _ _ _ _ (Rd.mono HF.out hs9.bel) (Rd.mono HR.out hs9.bel) HOK.out HRK.out).mono ?_
  rintro e w10 ⟨rfl, hbw10⟩
  have hz_w10 : W.heap.size + 1 ≤ w10.heap.size := by have h9 := hbw10.size; (try simp at h9); omega
  have hs11 := hs9.step hbw10
  clear k0_0 k0_1 g0_ e0_ e1_
  have k0_0 := hs11.cellAt 0 rfl 0 rfl
  have k0_1 := hs11.cellAt 0 rfl 1 rfl
  have g0_ := cellL hs11.bel g0
  have e0_ := cellL hs11.bel e0
  have e1_ := cellL hs11.bel e1
  go_wp2_with fail
  go_ret
  exact ⟨rfl, hs11.bel⟩
set_option maxHeartbeats 2000000 in
theorem isKept_c (t : Tmpl) (f : OpT) (t0 t1 f0 f1 : Value) (w : World) (ht : Rd w [t0, t1] t) (hf : Rd w [f0, f1] f) (hok : opOk t.1 f = true) (hrs : ∀ r, r ∈ t.2 → relOk t.1 r = true) :
    Calls Tryz.prog 61 #[.agg #[t0, t1], .agg #[f0, f1]] w fun e w' => e = .returned (.bool (decide (brokenF t f < 0))) ∧ Below w.heap.size w w' := by
  obtain ⟨size, rs⟩ := t
  obtain ⟨fa, ft⟩ := f
  have zt := rd_cons rfl ht
  obtain ⟨rfl, _⟩ := rd_i1 zt.1
  obtain ⟨at0, ct0, rfl, _⟩ := rd_list zt.2
  have zf := rd_cons rfl hf
  obtain ⟨rfl, _⟩ := rd_i1 zf.1
  obtain ⟨af, cf, rfl, _⟩ := rd_list zf.2
  have HR := Lib.hid zt.2
  have HF := Lib.hid hf
  have HOK := Lib.hid hok
  have HRS := Lib.hid hrs
  clear ht hf zt zf hok hrs
  have eg : ∀ args w, (callFunc 157 args).run Tryz.prog w = .ok (.enter 157 args) w := enters_of Tryz.func157 (by kernel_rfl) rfl
  have inner : ∀ (W : World), Rd W [.slice at0 rs.length ct0] rs → Rd W [.int .i64 fa, .slice af ft.length cf] (fa, ft) → Calls Tryz.prog 125 #[.agg #[.int .i64 size, .slice at0 rs.length ct0], .agg #[.int .i64 fa, .slice af ft.length cf]] W fun e w' => e = .returned (.int .i64 (brokenF (size, rs) (fa, ft))) ∧ Below W.heap.size W w' := by
    intro W h1 h2
    have HR1 := Lib.hid h1
    have HF1 := Lib.hid h2
    clear h1 h2
    have hs12 := (St.start W).alloc #[.int .i64 size, .slice at0 rs.length ct0] 26 (n := W.heap.size) (by simp)
    have k0_0 := hs12.cellAt 0 rfl 0 rfl
    have k0_1 := hs12.cellAt 0 rfl 1 rfl
    have hs13 := hs12.alloc #[.int .i64 fa, .slice af ft.length cf] 34 (n := W.heap.size + 1) (by simp)
    clear k0_0 k0_1
    have k0_0 := hs13.cellAt 0 rfl 0 rfl
    have k0_1 := hs13.cellAt 0 rfl 1 rfl
    have k1_0 := hs13.cellAt 1 rfl 0 rfl
    have k1_1 := hs13.cellAt 1 rfl 1 rfl
    go_enter Tryz.func125, Tryz.ntmps125
    go_wp2_with fail
    refine (indexRels_c rs _ 157 _ _ _ (Rd.mono HR1.out hs13.bel) eg (firstBroken1_by size (fa, ft) (W.heap.size) (W.heap.size + 1) _ _ rs _ HOK.out HRS.out (Rd.mono HF1.out hs13.bel) (hs13.cellAt 0 rfl 0 rfl) (hs13.cellAt 1 rfl 0 rfl) (hs13.cellAt 1 rfl 1 rfl))).mono ?_
    rintro e w14 ⟨rfl, hbw14⟩
    have hz_w14 : W.heap.size + 1 + 1 ≤ w14.heap.size := by have h9 := hbw14.size; (try simp at h9); omega
    have hs15 := hs13.step hbw14
    clear k0_0 k0_1 k1_0 k1_1
    have k0_0 := hs15.cellAt 0 rfl 0 rfl
    have k0_1 := hs15.cellAt 0 rfl 1 rfl
    have k1_0 := hs15.cellAt 1 rfl 0 rfl
    have k1_1 := hs15.cellAt 1 rfl 1 rfl
    go_wp2_with fail
    go_ret
    exact ⟨rfl, hs15.bel⟩
  have hs16 := (St.start w).alloc #[.int .i64 size, .slice at0 rs.length ct0] 26 (n := w.heap.size) (by simp)
  have k0_0 := hs16.cellAt 0 rfl 0 rfl
  have k0_1 := hs16.cellAt 0 rfl 1 rfl
  have hs17 := hs16.alloc #[.int .i64 fa, .slice af ft.length cf] 34 (n := w.heap.size + 1) (by simp)
  clear k0_0 k0_1
  have k0_0 := hs17.cellAt 0 rfl 0 rfl
  have k0_1 := hs17.cellAt 0 rfl 1 rfl
  have k1_0 := hs17.cellAt 1 rfl 0 rfl
  have k1_1 := hs17.cellAt 1 rfl 1 rfl
  go_enter Tryz.func61, Tryz.ntmps61
  go_wp2_with fail
  refine (inner _ (Rd.mono HR.out hs17.bel) (Rd.mono HF.out hs17.bel)).mono ?_
  rintro e w18 ⟨rfl, hbw18⟩
  have hz_w18 : w.heap.size + 1 + 1 ≤ w18.heap.size := by have h9 := hbw18.size; (try simp at h9); omega
  have hs19 := hs17.step hbw18
  clear k0_0 k0_1 k1_0 k1_1
  have k0_0 := hs19.cellAt 0 rfl 0 rfl
  have k0_1 := hs19.cellAt 0 rfl 1 rfl
  have k1_0 := hs19.cellAt 1 rfl 0 rfl
  have k1_1 := hs19.cellAt 1 rfl 1 rfl
  go_wp2_with fail
  go_ret
  exact ⟨rfl, hs19.bel⟩

end Go.Proofs.YtllenfkbfeanmaaGreat

/-
  CONTRACTS: SolveByConstant, the reference's side. (Printed by wip/gensolve.py.)
-/
namespace Go.Proofs.YtllenfkbfeanmaaGreat
open Go.RowKit Go.Shelf Go.IntWalk
open Rep (Rd Own sz)
set_option linter.unusedSimpArgs false
set_option linter.unusedVariables false

set_option maxRecDepth 100000 in
set_option maxHeartbeats 4000000 in
theorem constantOp_c (size a : Int) (w : World) (hs : 1 ≤ size ∧ size ≤ 4) (ha : 0 ≤ a ∧ a ≤ size - 1) : Calls Tryz.prog 117 #[.int .i64 size, .int .i64 1, .int .i64 a] w fun e w' => ∃ v, e = .returned (.tuple #[.agg #[.int .i64 1, v], .int .i64 0]) ∧ Fresh w.heap.size w' [v] (constOp size a).2 ∧ Below w.heap.size w w' := by
  obtain ⟨N, rfl⟩ : ∃ N : Nat, size = (N : Int) := ⟨size.toNat, by omega⟩
  have HC := Lib.hid (show (constOp (N : Int) a).2 = List.replicate N a by simp [constOp])
  rw [HC.out]
  have hI : I64 a := i64_of _ (by omega) (by omega)
  have HI := Lib.hid hI
  have H1 := inB_mk hs
  have H2 : inB 1 1 3 = true := by decide
  have H3 := inB_mk ha
  have ew : IntKind.i64.wrap ((N : Int) - 1) = (N : Int) - 1 := i64_in _ (by omega)
  clear hI HC
  have hs20 := (St.start w).alloc #[.int .i64 0, .slice none 0 0] 34 (n := w.heap.size) (by simp)
  have k0_0 := hs20.cellAt 0 rfl 0 rfl
  have k0_1 := hs20.cellAt 0 rfl 1 rfl
  go_enter Tryz.func117, Tryz.ntmps117
  go_wp2_with fail
  refine (l01Size_c (N : Int) _).mono ?_
  rintro e wa ⟨rfl, rfl⟩
  rw [H1]
  go_wp2_with fail
  refine (l02Arity_c 1 _).mono ?_
  rintro e wa ⟨rfl, rfl⟩
  rw [H2]
  go_wp2_with fail
  refine (l00In_c a 0 ((N : Int) - 1) _).mono ?_
  rintro e wa ⟨rfl, rfl⟩
  rw [H3]
  have hs21 := hs20.alloc #[.int .i64 1, .slice none 0 0] 34 (n := w.heap.size + 1) (by simp)
  clear k0_0 k0_1
  have k0_0 := hs21.cellAt 0 rfl 0 rfl
  have k0_1 := hs21.cellAt 0 rfl 1 rfl
  have k1_0 := hs21.cellAt 1 rfl 0 rfl
  have k1_1 := hs21.cellAt 1 rfl 1 rfl
  go_wp2_with fail
  refine (l01Power_c (N : Int) 1 _ (by omega) (by omega) (by omega) (by rw [pow_one0]; omega)).mono ?_
  rintro e wa ⟨rfl, rfl⟩
  rw [pow_one0]
  obtain ⟨wq, hwq⟩ : ∃ x, x = ((w.alloc (.cells #[.int .i64 0, .slice none 0 0] 34)).alloc (.cells #[.int .i64 1, .slice none 0 0] 34)) := ⟨_, rfl⟩
  have HWQ := Lib.hid (show wq.heap.size = w.heap.size + 1 + 1 by rw [hwq]; simp)
  have HBQ := Lib.hid (show Below w.heap.size w wq by rw [hwq]; exact hs21.bel)
  have HR := Lib.hid (show wq.heap[w.heap.size]? = some (.cells #[.int .i64 0, .slice none 0 0] 34 (0, 0)) by rw [hwq]; exact (hs21.box (w.heap.size, #[.int .i64 0, .slice none 0 0], 34) (by simp)).2.2)
  have HF := Lib.hid (show wq.heap[w.heap.size + 1]? = some (.cells #[.int .i64 1, .slice none 0 0] 34 (0, 0)) by rw [hwq]; exact (hs21.box (w.heap.size + 1, #[.int .i64 1, .slice none 0 0], 34) (by simp)).2.2)
  rw [← hwq]
  clear hwq
  go_wp2_with fail
  go_loopw [9] (fun i wr => ∃ (k j c : Nat) (ao : Option Addr), i = .int .i64 j ∧ Hid (k + j = N) ∧ Hid (Below w.heap.size w wr) ∧ Hid (w.heap.size + 2 ≤ wr.heap.size) ∧ Hid (wr.heap[w.heap.size]? = some (.cells #[.int .i64 0, .slice none 0 0] 34 (0, 0))) ∧ Hid (wr.heap[w.heap.size + 1]? = some (.cells #[.int .i64 1, .slice ao k c] 34 (0, 0))) ∧
      Hid (Acc (w.heap.size + 2) wr.heap.size 2 wr (.slice ao k c) (List.replicate k a))) (fun i _ => (intOf i).toNat)
  case atStart => exact ⟨0, N, 0, none, rfl, by simp [Hid], HBQ.out, (by have := HWQ.out; simp [Hid]; omega), HR.out, HF.out, Acc.nil (α := Int) _ _ _ _⟩
  case round =>
    clear HR HF HBQ HWQ
    obtain ⟨k, j, c, ao, rfl, hkj, hbl, hsz, hres, hbox, hacc⟩ := hrel
    have hc0 : wr.cell? ⟨w.heap.size + 1, 0, none⟩ = some (.int .i64 1) := by rw [cell_at_block hbox.out]; rfl
    have hc1 : wr.cell? ⟨w.heap.size + 1, 1, none⟩ = some (.slice ao k c) := by rw [cell_at_block hbox.out]; rfl
    have hf1 : wr.frozen? ⟨w.heap.size + 1, 1, none⟩ = false := free_at_block hbox.out
    by_cases hj : 0 < j
    · obtain ⟨j', rfl⟩ : ∃ j', j = j' + 1 := ⟨j - 1, by omega⟩
      have hjI : (0 : Int) < ((j' : Int) + 1) := by omega
      have hkN : k ≤ 4 := by have := hkj.out; omega
      have hj4 : j' ≤ 4 := by have := hkj.out; omega
      have hBH := hsz.out
      go_wp2_with (at_builtin; go_loud (refine wpList_append_ints _ rfl _ _ _ rfl E_ints rfl (Acc.mono hacc.out (belowA _ (.cells #[.int .i64 a] 2))) hBH (by simp) ⟨wr.heap.size, 0, none⟩ 1 rfl (ns := [a]) (news1 (cell_at_block (heap_alloc_new _ _))) (fun b hb => by simp at hb; subst hb; exact HI.out) (by simp; omega) ?_); simp only [List.length_replicate, List.length_cons, List.length_nil, Nat.zero_add]; intro a9 c9 w9 hA9 hB9 hK9; have hk9 : ∀ b, b < w.heap.size + 2 → w9.heap[b]? = wr.heap[b]? := (fun b hb => by rw [hB9.block b hb, Below.heap_alloc _ _ _ (by omega)]); have hbx9 := (hk9 (w.heap.size + 1) (by omega)).trans hbox.out; have hf9 : w9.frozen? ⟨w.heap.size + 1, 1, none⟩ = false := free_at_block hbx9; have hc9 : w9.cell? ⟨w.heap.size + 1, 1, none⟩ = some (.slice ao k c) := (cell_at_block hbx9).trans rfl)
      have hs9 := hB9.size
      have HBW := Lib.hid (show Below w.heap.size w w9 from (hbl.out.trans ((belowA wr (.cells #[.int .i64 a] 2)).mono hbl.out.size)).trans (hB9.mono (by omega)))
      have HX := Lib.hid (And.intro (And.intro hA9 (hk9 w.heap.size (by omega))) hbx9)
      have hz9 : wr.heap.size + 1 ≤ w9.heap.size := by simpa using hs9
      clear hA9 hB9 hK9 hk9 hbx9
      go_wp2_with fail
      go_roundw
      case rel =>
        refine ⟨k + 1, j', c9, a9, by go_num, (by have := hkj.out; simp only [Hid]; omega), HBW.out.setCell (by simp) _, (by simp [Hid, World.setCell]; omega), ?_, ?_, ?_⟩
        · show (World.setCell _ _ _).heap[_]? = _
          rw [Below.heap_setCell _ _ _ _ (by simp)]
          exact HX.out.1.2.trans hres.out
        · exact heap_setCell_at w9 (w.heap.size + 1) 1 (.slice a9 (k + 1) c9) _ _ _ HX.out.2
        · have h6 := HX.out.1.1.setCell (a := ⟨w.heap.size + 1, 1, none⟩) (by simp) (.slice a9 (k + 1) c9)
          rw [← List.replicate_succ'] at h6
          exact h6.up (by simp [World.setCell])
      case measure => simp [intOf]
    · obtain rfl : j = 0 := by omega
      have hkN : k = N := by have := hkj.out; omega
      subst hkN
      have r0 : wr.cell? ⟨w.heap.size, 0, none⟩ = some (.int .i64 0) := by rw [cell_at_block hres.out]; rfl
      have r1 : wr.cell? ⟨w.heap.size, 1, none⟩ = some (.slice none 0 0) := by rw [cell_at_block hres.out]; rfl
      have f0 : wr.frozen? ⟨w.heap.size, 0, none⟩ = false := free_at_block hres.out
      have f1 : wr.frozen? ⟨w.heap.size, 1, none⟩ = false := free_at_block hres.out
      have HFR := Lib.hid (((hacc.out.setCell (a := ⟨w.heap.size, 0, none⟩) (by simp) (.int .i64 1)).setCell (a := ⟨w.heap.size, 1, none⟩) (by simp) (.slice ao k c)).fresh.lower (show w.heap.size ≤ w.heap.size + 2 by omega))
      have HBF := Lib.hid ((hbl.out.setCell (by simp) (.int .i64 1) (p := ⟨w.heap.size, 0, none⟩)).setCell (p := ⟨w.heap.size, 1, none⟩) (by simp) (.slice ao k c))
      go_wp2_with fail
      refine bodyPost_ret (v := .tuple #[.agg #[.int .i64 1, .slice ao k c], .int .i64 0]) (by simp [results, Tryz.results117, go_sem, r0, r1, f0, f1]) rfl ⟨_, rfl, HFR.out, HBF.out⟩
set_option maxRecDepth 100000 in
set_option maxHeartbeats 4000000 in
theorem l02First_c (t : Tmpl) (f : OpT) (tb fb : Nat) (t0 t1 f0 f1 : Value) (w : World) (ht : Rd w [t0, t1] t) (hf : Rd w [f0, f1] f) (hok : opOk t.1 f = true) (hrs : ∀ r, r ∈ t.2 → relOk t.1 r = true)
    (tc0 : w.cell? ⟨tb, 0, none⟩ = some t0) (tc1 : w.cell? ⟨tb, 1, none⟩ = some t1) (fc0 : w.cell? ⟨fb, 0, none⟩ = some f0) (fc1 : w.cell? ⟨fb, 1, none⟩ = some f1) :
    Calls Tryz.prog 118 #[.pointer (some ⟨tb, 0, none⟩), .pointer (some ⟨fb, 0, none⟩)] w fun e w' => e = .returned (.int .i64 (brokenF t f)) ∧ Below w.heap.size w w' := by
  obtain ⟨size, rs⟩ := t
  obtain ⟨fa, ft⟩ := f
  have zt := rd_cons rfl ht
  obtain ⟨rfl, _⟩ := rd_i1 zt.1
  obtain ⟨at0, ct0, rfl, hrr⟩ := rd_list zt.2
  have zf := rd_cons rfl hf
  obtain ⟨rfl, _⟩ := rd_i1 zf.1
  obtain ⟨af, cf, rfl, _⟩ := rd_list zf.2
  have hb0 := (rdSl_len hrr).2
  unfold maxLen at hb0
  have HRR := Lib.hid hrr
  have HF := Lib.hid hf
  have HOK := Lib.hid hok
  have HRS := Lib.hid hrs
  have HQ := Lib.hid (show brokenF (size, rs) (fa, ft) = firstI (fun r => !keepsP size (fa, ft) r) rs from rfl)
  clear ht hf zt zf hok hrs hrr
  have tc0_ := cellL (St.start w).bel tc0
  clear tc0_
  have tc0_ := cellL (St.start w).bel tc0
  have tc1_ := cellL (St.start w).bel tc1
  clear tc0_ tc1_
  have tc0_ := cellL (St.start w).bel tc0
  have tc1_ := cellL (St.start w).bel tc1
  have fc0_ := cellL (St.start w).bel fc0
  clear tc0_ tc1_ fc0_
  have tc0_ := cellL (St.start w).bel tc0
  have tc1_ := cellL (St.start w).bel tc1
  have fc0_ := cellL (St.start w).bel fc0
  have fc1_ := cellL (St.start w).bel fc1
  go_enter Tryz.func118, Tryz.ntmps118
  go_wp2_with fail
  go_loopw [5] (fun i wl => ∃ k : Nat, k ≤ rs.length ∧ i = .int .i64 k ∧ Hid (Below w.heap.size w wl) ∧ Hid (∀ j (hj : j < rs.length), j < k → (!keepsP size (fa, ft) rs[j]) = false)) (fun i _ => rs.length - (intOf i).toNat)
  case atStart => exact ⟨0, Nat.zero_le _, rfl, Below.refl _ _, fun j hj h => absurd h (Nat.not_lt_zero _)⟩
  case round =>
    obtain ⟨k, hk, rfl, hbl, hr⟩ := hrel
    have hs1 := (St.start w).step hbl.out
    have tc0_ := cellL hs1.bel tc0
    have tc1_ := cellL hs1.bel tc1
    have fc0_ := cellL hs1.bel fc0
    have fc1_ := cellL hs1.bel fc1
    have HB := hbl
    by_cases hlt : k < rs.length
    · have hkl : (k : Int) < rs.length := by omega
      obtain ⟨b, o, u0, u1, rfl, p0, p1, hy⟩ := rdSl_two rfl HRR.out k hlt
      have HY := Lib.hid hy
      have hyz := rd_cons rfl hy
      obtain ⟨rfl, _⟩ := rd_i1 hyz.1
      obtain ⟨a1, c1, rfl, _⟩ := rd_list hyz.2
      have HRK := Lib.hid (HRS.out _ (List.getElem_mem hlt))
      have HNX := Lib.hid (fun (h : (!keepsP size (fa, ft) rs[k]) = false) => show ∀ j (hj : j < rs.length), j < k + 1 → (!keepsP size (fa, ft) rs[j]) = false from fun j hj hjk => by
        rcases Nat.lt_or_ge j k with h1 | h1
        · exact hr.out j hj h1
        · obtain rfl : j = k := by omega
          exact h)
      have HYS := Lib.hid (fun (h : (!keepsP size (fa, ft) rs[k]) = true) => firstI_at (q := fun r => !keepsP size (fa, ft) r) hlt hr.out h)
      clear hy hyz
      generalize rs[k] = RK at *
      obtain ⟨ra, rt⟩ := RK
      simp only at p0 p1
      clear tc0_ tc1_ fc0_ fc1_
      have tc0_ := cellL hs1.bel tc0
      have tc1_ := cellL hs1.bel tc1
      have fc0_ := cellL hs1.bel fc0
      have fc1_ := cellL hs1.bel fc1
      have p0_ := cellL hs1.bel p0
      clear tc0_ tc1_ fc0_ fc1_ p0_
      have tc0_ := cellL hs1.bel tc0
      have tc1_ := cellL hs1.bel tc1
      have fc0_ := cellL hs1.bel fc0
      have fc1_ := cellL hs1.bel fc1
      have p0_ := cellL hs1.bel p0
      have p1_ := cellL hs1.bel p1
      clear tc0_ tc1_ fc0_ fc1_ p0_ p1_
      have tc0_ := cellL hs1.bel tc0
      have tc1_ := cellL hs1.bel tc1
      have fc0_ := cellL hs1.bel fc0
      have fc1_ := cellL hs1.bel fc1
      have p0_ := cellL hs1.bel p0
      have p1_ := cellL hs1.bel p1
      cases hh : keepsP size (fa, ft) (ra, rt) with
      | true =>
        have H9 := Lib.hid (HNX.out (by rw [hh]; rfl))
        have HE := Lib.hid hh
        clear hh
        go_upto_region 4 with fail
        refine wp_region_noPanic (wp_region_tree4 (fun w' => w'.cell? ⟨tb, 0, none⟩ = some (.int .i64 size) ∧ w'.cell? ⟨tb, 1, none⟩ = some (.slice (some ⟨b, o, none⟩) rs.length ct0) ∧ w'.cell? ⟨fb, 0, none⟩ = some (.int .i64 fa) ∧ w'.cell? ⟨fb, 1, none⟩ = some (.slice af ft.length cf) ∧ w'.cell? ⟨b, o + k * 2, none⟩ = some (.int .i64 ra) ∧ w'.cell? ⟨b, o + k * 2 + 1, none⟩ = some (.slice a1 rt.length c1)) (.float 0 (.float 1 (.float 2 (.float 3 (.float 4 (.float 5 (.float 6 (.float 7 (.float 8 (.float 9 (.float 10 (.hard 11 (.float 12 .nil))))))))))))) (by kernel_rfl) (by kernel_rfl) (by kernel_rfl) rfl ?_ (fun _ _ _ _ _ h => h) ?_)
        · exact ⟨cellL (hs1.drew).bel tc0, cellL (hs1.drew).bel tc1, cellL (hs1.drew).bel fc0, cellL (hs1.drew).bel fc1, cellL (hs1.drew).bel p0, cellL (hs1.drew).bel p1⟩
        have hs22 := hs1.drew
        have HB_23 := Lib.hid (HB.out.trans (((belowD _)).mono HB.out.size))
        clear HB
        clear tc0_ tc1_ fc0_ fc1_ p0_ p1_
        have hz_wd24 : wr.heap.size ≤ (wr.drew).heap.size := by simp
        generalize hgen_wd24 : wr.drew = wd24 at *
        have HG_wd24 := Lib.hid hgen_wd24
        clear hgen_wd24
        (repeat (first | (apply t4_skip rfl (by rfl); try simp only [Act.put, List.setIfInBounds_toArray, List.set_cons_zero, List.set_cons_succ]) | (apply t4_float rfl (by rfl); (· (intro w' hS; go_simp <;> with_reducible rfl)); (try simp only [Act.put, List.setIfInBounds_toArray, List.set_cons_zero, List.set_cons_succ]))))
        refine t4_hard rfl (by rfl) (fun K hK => ?_)
        go_wp2_with (go_at_call 153; refine (l02Keeps_c size (fa, ft) (ra, rt) fb 0 b (o + k * 2) _ _ _ _ _ (Rd.mono HF.out hs22.bel) (cellL hs22.bel fc0) (cellL hs22.bel fc1) (Rd.mono HY.out hs22.bel) (cellL hs22.bel p0) (cellL hs22.bel p1) HOK.out HRK.out).mono ?_; rintro e w25 ⟨rfl, hbw25⟩)
        have hz_w25 : wd24.heap.size ≤ w25.heap.size := by have h9 := hbw25.size; (try simp at h9); omega
        have hs26 := hs22.step hbw25
        have HB_27 := Lib.hid (HB_23.out.trans ((hbw25).mono HB_23.out.size))
        clear HB_23
        rw [HE.out]
        refine ⟨⟨cellL hs26.bel tc0, cellL hs26.bel tc1, cellL hs26.bel fc0, cellL hs26.bel fc1, cellL hs26.bel p0, cellL hs26.bel p1⟩, ?_⟩
        (repeat (first | (apply t4_skip rfl (by rfl); try simp only [Act.put, List.setIfInBounds_toArray, List.set_cons_zero, List.set_cons_succ]) | (apply t4_float rfl (by rfl); (· (intro w' hS; go_simp <;> with_reducible rfl)); (try simp only [Act.put, List.setIfInBounds_toArray, List.set_cons_zero, List.set_cons_succ]))))
        have tc0_ := cellL hs26.bel tc0
        have tc1_ := cellL hs26.bel tc1
        have fc0_ := cellL hs26.bel fc0
        have fc1_ := cellL hs26.bel fc1
        have p0_ := cellL hs26.bel p0
        have p1_ := cellL hs26.bel p1
        refine t4_nil (NoPanic.normal ?_)
        go_wp2_with fail
        go_roundw
        case rel => exact ⟨k + 1, by omega, by go_num, HB_27.out, H9.out⟩
        case measure => simp [intOf]; omega
      | false =>
        have H9 := Lib.hid (show brokenF (size, rs) (fa, ft) = (k : Int) by rw [HQ.out]; exact HYS.out (by rw [hh]; rfl))
        have HE := Lib.hid hh
        clear hh
        go_upto_region 4 with fail
        refine wp_region_noPanic (wp_region_tree4 (fun w' => w'.cell? ⟨tb, 0, none⟩ = some (.int .i64 size) ∧ w'.cell? ⟨tb, 1, none⟩ = some (.slice (some ⟨b, o, none⟩) rs.length ct0) ∧ w'.cell? ⟨fb, 0, none⟩ = some (.int .i64 fa) ∧ w'.cell? ⟨fb, 1, none⟩ = some (.slice af ft.length cf) ∧ w'.cell? ⟨b, o + k * 2, none⟩ = some (.int .i64 ra) ∧ w'.cell? ⟨b, o + k * 2 + 1, none⟩ = some (.slice a1 rt.length c1)) (.float 0 (.float 1 (.float 2 (.float 3 (.float 4 (.float 5 (.float 6 (.float 7 (.float 8 (.float 9 (.float 10 (.hard 11 (.float 12 .nil))))))))))))) (by kernel_rfl) (by kernel_rfl) (by kernel_rfl) rfl ?_ (fun _ _ _ _ _ h => h) ?_)
        · exact ⟨cellL (hs1.drew).bel tc0, cellL (hs1.drew).bel tc1, cellL (hs1.drew).bel fc0, cellL (hs1.drew).bel fc1, cellL (hs1.drew).bel p0, cellL (hs1.drew).bel p1⟩
        have hs28 := hs1.drew
        have HB_29 := Lib.hid (HB.out.trans (((belowD _)).mono HB.out.size))
        clear HB
        clear tc0_ tc1_ fc0_ fc1_ p0_ p1_
        have hz_wd30 : wr.heap.size ≤ (wr.drew).heap.size := by simp
        generalize hgen_wd30 : wr.drew = wd30 at *
        have HG_wd30 := Lib.hid hgen_wd30
        clear hgen_wd30
        (repeat (first | (apply t4_skip rfl (by rfl); try simp only [Act.put, List.setIfInBounds_toArray, List.set_cons_zero, List.set_cons_succ]) | (apply t4_float rfl (by rfl); (· (intro w' hS; go_simp <;> with_reducible rfl)); (try simp only [Act.put, List.setIfInBounds_toArray, List.set_cons_zero, List.set_cons_succ]))))
        refine t4_hard rfl (by rfl) (fun K hK => ?_)
        go_wp2_with (go_at_call 153; refine (l02Keeps_c size (fa, ft) (ra, rt) fb 0 b (o + k * 2) _ _ _ _ _ (Rd.mono HF.out hs28.bel) (cellL hs28.bel fc0) (cellL hs28.bel fc1) (Rd.mono HY.out hs28.bel) (cellL hs28.bel p0) (cellL hs28.bel p1) HOK.out HRK.out).mono ?_; rintro e w31 ⟨rfl, hbw31⟩)
        have hz_w31 : wd30.heap.size ≤ w31.heap.size := by have h9 := hbw31.size; (try simp at h9); omega
        have hs32 := hs28.step hbw31
        have HB_33 := Lib.hid (HB_29.out.trans ((hbw31).mono HB_29.out.size))
        clear HB_29
        rw [HE.out]
        refine ⟨⟨cellL hs32.bel tc0, cellL hs32.bel tc1, cellL hs32.bel fc0, cellL hs32.bel fc1, cellL hs32.bel p0, cellL hs32.bel p1⟩, ?_⟩
        (repeat (first | (apply t4_skip rfl (by rfl); try simp only [Act.put, List.setIfInBounds_toArray, List.set_cons_zero, List.set_cons_succ]) | (apply t4_float rfl (by rfl); (· (intro w' hS; go_simp <;> with_reducible rfl)); (try simp only [Act.put, List.setIfInBounds_toArray, List.set_cons_zero, List.set_cons_succ]))))
        have tc0_ := cellL hs32.bel tc0
        have tc1_ := cellL hs32.bel tc1
        have fc0_ := cellL hs32.bel fc0
        have fc1_ := cellL hs32.bel fc1
        have p0_ := cellL hs32.bel p0
        have p1_ := cellL hs32.bel p1
        refine t4_nil (NoPanic.normal ?_)
        go_wp2_with fail
        go_ret
        exact ⟨ret_int H9.out.symm, hs32.bel⟩
    · obtain rfl : k = rs.length := by omega
      have hnl : ¬ ((rs.length : Int) < rs.length) := by omega
      have H9 := Lib.hid (show brokenF (size, rs) (fa, ft) = -1 by rw [HQ.out]; exact firstI_no hr.out)
      have HBF := Lib.hid HB.out
      go_wp2_with fail
      go_ret
      exact ⟨ret_int H9.out.symm, HBF.out⟩

end Go.Proofs.YtllenfkbfeanmaaGreat

