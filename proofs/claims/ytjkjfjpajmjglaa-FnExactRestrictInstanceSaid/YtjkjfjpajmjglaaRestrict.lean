/-
  CONTRACTS: an instance of the call's own; RestrictInstance; the program's side.
-/
import Derived.Test.YtjkjfjpajmjglaaSort
import Derived.Test.YtjkjfjpajmjglaaDomV
import Derived.Test.YtjkjfjpajmjglaaAccP
import Derived.Test.YtjkjfjpajmjglaaOp
import Derived.Test.YtjkjfjpajmjglaaMarkT
import Derived.Test.YtjkjfjpajmjglaaEqual
namespace Go.Proofs.Ytjkjfjpajmjglaa
open Go.RowKit Go.Shelf Go.IntWalk
open Rep (Rd Own sz)
set_option linter.unusedSimpArgs false
set_option linter.unusedVariables false

theorem ip_int1 {C : Nat → Prop} {w : World} {n : Int} (h : I64 n) : Ip C w [.int .i64 n] n := ⟨[], ⟨rfl, rfl, h⟩, List.nodup_nil, fun k hk => by cases hk⟩
/-- A row of the call's own whose elements stand (in part) in memory of an earlier world. -/
def RowR {α : Type} [Rep α] (w0 : World) (e : TypeId) (w : World) (v : Value) (l : List α) : Prop :=
  ∃ xs, w.ownsRow 0 e (sz α) v l.length xs ∧ ∀ i (h : i < l.length), ∃ vs, Rd w0 vs l[i] ∧ ∀ k, k < vs.length → xs[i * sz α + k]? = vs[k]?
theorem RowR.nil {α : Type} [Rep α] (w0 : World) (e : TypeId) (w : World) : RowR (α := α) w0 e w (.slice none 0 0) [] :=
  ⟨[], World.ownsRow_nil w 0 e _, fun i h => absurd h (Nat.not_lt_zero _)⟩
theorem RowR.snoc {α : Type} [Rep α] {w0 w w' : World} {e : TypeId} {v v' : Value} {l : List α} {y : α} {xs vs : List Value} (hrow : w.ownsRow 0 e (sz α) v l.length xs) (hel : ∀ i (h : i < l.length), ∃ vs, Rd w0 vs l[i] ∧ ∀ k, k < vs.length → xs[i * sz α + k]? = vs[k]?)
    (hy : Rd w0 vs y) (hrow' : w'.ownsRow 0 e (sz α) v' (l.length + 1) (xs ++ vs)) : RowR w0 e w' v' (l ++ [y]) := by
  refine ⟨xs ++ vs, by rw [List.length_append]; exact hrow', fun i hi => ?_⟩
  have hxl := hrow.1
  by_cases hlt : i < l.length
  · obtain ⟨us, hu, hk⟩ := hel i hlt
    refine ⟨us, by rw [List.getElem_append_left hlt]; exact hu, fun k hk2 => ?_⟩
    have hul := Rep.rd_len hu
    have hb := idx_lt (s := sz α) hlt (show k < sz α by omega)
    rw [List.getElem?_append_left (by rw [hxl]; exact hb)]
    exact hk k hk2
  · have : i = l.length := by simp at hi; omega
    subst this
    refine ⟨vs, by simpa using hy, fun k hk2 => ?_⟩
    rw [List.getElem?_append_right (by omega), hxl]
    congr 1
    omega
theorem RowR.rd {α : Type} [Rep α] {w0 w : World} {e : TypeId} {v : Value} {l : List α} (h : RowR w0 e w v l) (hb : Below w0.heap.size w0 w) : Rd w [v] l := by
  obtain ⟨xs, hrow, hel⟩ := h
  rcases hrow.2 with ⟨rfl, h0⟩ | ⟨g, cap, cur, rfl, _, hh, hc, hm, hs, ht⟩
  · obtain rfl : l = [] := List.length_eq_zero_iff.1 h0
    exact ⟨none, 0, rfl, Nat.zero_le _, Nat.zero_le _, fun i hi => absurd hi (Nat.not_lt_zero _)⟩
  · refine ⟨_, _, rfl, hc, hm, fun i hi => ?_⟩
    obtain ⟨vs, hr, hk⟩ := hel i hi
    have hvl := Rep.rd_len hr
    refine ⟨g, 0, vs, rfl, Rep.rd_mono hb hr, fun k hk2 => ?_⟩
    have hk3 : k < vs.length := by omega
    rw [cell_at_block hh]
    have h1 := hk k hk3
    rw [← ht] at h1
    have hb2 := idx_lt (s := sz α) hi (show k < sz α by omega)
    simp only [List.getElem?_take, if_pos hb2] at h1
    simpa using h1
theorem RowR.frame {α : Type} [Rep α] {w0 w w' : World} {e : TypeId} {v : Value} {l : List α} (h : RowR w0 e w v l) (hb : ∀ g, v.ownBlock = some g → w'.heap[g]? = w.heap[g]?) : RowR w0 e w' v l := by
  obtain ⟨xs, hrow, hel⟩ := h
  exact ⟨xs, row_frame hrow hb, hel⟩
set_option maxRecDepth 100000 in
set_option maxHeartbeats 8000000 in
theorem ownInstance_c (vars : Int) (cs : List OpT) (v1 : Value) (w : World) (hx : Rd w [.int .i64 vars, v1] (vars, cs)) (hn : cs.length ≤ 1000000) (hz : ∀ c, c ∈ cs → c.2.length ≤ 1000000) :
    Calls Try.prog 110 #[.agg #[.int .i64 vars, v1]] w fun e w' => ∃ v, e = .returned (.agg #[.int .i64 vars, v]) ∧ Fresh w.heap.size w' [v] cs ∧ Below w.heap.size w w' := by
  have zx := rd_cons rfl hx
  obtain ⟨_, hIv⟩ := rd_i1 zx.1
  obtain ⟨ax, cx, rfl, hcs⟩ := rd_list zx.2
  have HCS := Lib.hid hcs
  have HZ := Lib.hid hz
  clear hx zx hcs hz
  have hs1 := (St.start w).alloc #[.int .i64 vars, .slice ax cs.length cx] 61 (n := w.heap.size) (by simp)
  have k0_0 := hs1.cellAt 0 rfl 0 rfl
  have k0_1 := hs1.cellAt 0 rfl 1 rfl
  have hs2 := hs1.alloc #[.int .i64 0, .slice none 0 0] 61 (n := w.heap.size + 1) (by simp)
  clear k0_0 k0_1
  have k0_0 := hs2.cellAt 0 rfl 0 rfl
  have k0_1 := hs2.cellAt 0 rfl 1 rfl
  have k1_0 := hs2.cellAt 1 rfl 0 rfl
  have k1_1 := hs2.cellAt 1 rfl 1 rfl
  have hs3 := hs2.alloc #[.int .i64 vars, .slice none 0 0] 61 (n := w.heap.size + 1 + 1) (by simp)
  clear k0_0 k0_1 k1_0 k1_1
  have k0_0 := hs3.cellAt 0 rfl 0 rfl
  have k0_1 := hs3.cellAt 0 rfl 1 rfl
  have k1_0 := hs3.cellAt 1 rfl 0 rfl
  have k1_1 := hs3.cellAt 1 rfl 1 rfl
  have k2_0 := hs3.cellAt 2 rfl 0 rfl
  have k2_1 := hs3.cellAt 2 rfl 1 rfl
  have HS0 := Lib.hid hs3
  go_enter Try.func110, Try.ntmps110
  go_wp2_with fail
  go_loopw [12] (fun i wl => ∃ (k : Nat) (ao : Option Addr) (co : Nat), k ≤ cs.length ∧ i = .int .i64 k ∧ Hid (St w (w.heap.size + 1 + 1 + 1) wl [(w.heap.size, #[.int .i64 vars, .slice ax cs.length cx], 61), (w.heap.size + 1, #[.int .i64 0, .slice none 0 0], 61), (w.heap.size + 1 + 1, #[.int .i64 vars, .slice ao k co], 61)]) ∧
    Hid (AccP (fun z => w.heap.size + 1 + 1 + 1 ≤ z ∧ z < wl.heap.size) 107 wl (.slice ao k co) (cs.take k))) (fun i _ => cs.length - (intOf i).toNat)
  case atStart => exact ⟨0, none, 0, Nat.zero_le _, rfl, HS0.out, AccP.nil _ _ _⟩
  case round =>
    clear HS0
    obtain ⟨k, ao, co, hk, rfl, hst, hac⟩ := hrel
    have hsr := hst.out
    have hszr := hsr.hi
    have HAC := hac
    have k0_0 := hsr.cellAt 0 rfl 0 rfl
    have k0_1 := hsr.cellAt 0 rfl 1 rfl
    have k1_0 := hsr.cellAt 1 rfl 0 rfl
    have k1_1 := hsr.cellAt 1 rfl 1 rfl
    have k2_0 := hsr.cellAt 2 rfl 0 rfl
    have k2_1 := hsr.cellAt 2 rfl 1 rfl
    by_cases hlt : k < cs.length
    · have hkl : (k : Int) < cs.length := by omega
      obtain ⟨b, o, u0, u1, rfl, q0, q1, hy⟩ := rdSl_two rfl (rdSl_mono hsr.bel HCS.out) k hlt
      have hyz := rd_cons rfl hy
      obtain ⟨rfl, hIc⟩ := rd_i1 hyz.1
      obtain ⟨a1, c1, rfl, _⟩ := rd_list hyz.2
      have HSC := Lib.hid hyz.2
      have HLS := Lib.hid (HZ.out _ (List.getElem_mem hlt))
      have HTK := Lib.hid (show cs.take k ++ [cs[k]] = cs.take (k + 1) from (List.take_succ_eq_append_getElem hlt).symm)
      have HLK := Lib.hid (show (cs.take k).length = k by rw [List.length_take]; omega)
      clear hy hyz
      generalize hC : cs[k] = C at *
      obtain ⟨ci, sc⟩ := C
      clear hC
      simp only at q0 q1 HSC HLS hIc
      have hs4 := hsr.alloc #[.int .i64 ci, .slice a1 sc.length c1] 107 (n := wr.heap.size) (by simp)
      have HAC_5 := Lib.hid (AccP.mono HAC.out (belowA _ (.cells #[.int .i64 ci, .slice a1 sc.length c1] 107)))
      clear HAC
      have HSC_6 := Lib.hid (Rd.mono HSC.out (belowA _ (.cells #[.int .i64 ci, .slice a1 sc.length c1] 107)))
      clear HSC
      clear k0_0 k0_1 k1_0 k1_1 k2_0 k2_1
      have k0_0 := hs4.cellAt 0 rfl 0 rfl
      have k0_1 := hs4.cellAt 0 rfl 1 rfl
      have k1_0 := hs4.cellAt 1 rfl 0 rfl
      have k1_1 := hs4.cellAt 1 rfl 1 rfl
      have k2_0 := hs4.cellAt 2 rfl 0 rfl
      have k2_1 := hs4.cellAt 2 rfl 1 rfl
      have k3_0 := hs4.cellAt 3 rfl 0 rfl
      have k3_1 := hs4.cellAt 3 rfl 1 rfl
      go_upto_region 5 with fail
      refine wp_region_noPanic (wp_region_tree4 (fun w' => w'.cell? ⟨w.heap.size, 0, none⟩ = some (.int .i64 vars) ∧ w'.cell? ⟨w.heap.size, 1, none⟩ = some (.slice (some ⟨b, o, none⟩) cs.length cx) ∧ w'.cell? ⟨w.heap.size + 1, 0, none⟩ = some (.int .i64 0) ∧ w'.cell? ⟨w.heap.size + 1, 1, none⟩ = some (.slice none 0 0) ∧ w'.cell? ⟨w.heap.size + 1 + 1, 0, none⟩ = some (.int .i64 vars) ∧ w'.cell? ⟨w.heap.size + 1 + 1, 1, none⟩ = some (.slice ao k co) ∧ w'.cell? ⟨wr.heap.size, 0, none⟩ = some (.int .i64 ci) ∧ w'.cell? ⟨wr.heap.size, 1, none⟩ = some (.slice a1 sc.length c1)) (.float 0 (.float 1 (.float 2 (.float 3 (.float 4 (.float 5 (.hard 6 (.float 7 (.hard 8 (.hard 9 (.float 10 (.last 11 .nil)))))))))))) (by kernel_rfl) (by kernel_rfl) (by kernel_rfl) rfl ?_ (fun _ _ _ _ _ h => h) ?_)
      · exact ⟨(hs4.drew).cellAt 0 rfl 0 rfl, (hs4.drew).cellAt 0 rfl 1 rfl, (hs4.drew).cellAt 1 rfl 0 rfl, (hs4.drew).cellAt 1 rfl 1 rfl, (hs4.drew).cellAt 2 rfl 0 rfl, (hs4.drew).cellAt 2 rfl 1 rfl, (hs4.drew).cellAt 3 rfl 0 rfl, (hs4.drew).cellAt 3 rfl 1 rfl⟩
      have hs7 := hs4.drew
      have HAC_8 := Lib.hid (AccP.mono HAC_5.out (belowD _))
      clear HAC_5
      have HSC_9 := Lib.hid (Rd.mono HSC_6.out (belowD _))
      clear HSC_6
      clear k0_0 k0_1 k1_0 k1_1 k2_0 k2_1 k3_0 k3_1
      have hz_wd10 : wr.heap.size + 1 ≤ ((wr.alloc (.cells #[.int .i64 ci, .slice a1 sc.length c1] 107)).drew).heap.size := by simp
      generalize hgen_wd10 : (wr.alloc (.cells #[.int .i64 ci, .slice a1 sc.length c1] 107)).drew = wd10 at *
      have HG_wd10 := Lib.hid hgen_wd10
      clear hgen_wd10
      (repeat (first | (apply t4_skip rfl (by rfl); try simp only [Act.put, List.setIfInBounds_toArray, List.set_cons_zero, List.set_cons_succ]) | (apply t4_float rfl (by rfl); (· (intro w' hS; go_simp <;> with_reducible rfl)); (try simp only [Act.put, List.setIfInBounds_toArray, List.set_cons_zero, List.set_cons_succ]))))
      refine t4_hard rfl (by rfl) (fun K hK => ?_)
      go_wp2_with (go_at_call 105; refine (cloneIntsA_c sc _ _ HSC_9.out (by have := HLS.out; omega)).mono ?_; rintro e w11 ⟨v4, rfl, hA4, hbw11⟩)
      have hz_w11 : wd10.heap.size ≤ w11.heap.size := by have h9 := hbw11.size; (try simp at h9); omega
      have hs12 := hs7.step hbw11
      have HAC_13 := Lib.hid (AccP.mono HAC_8.out hbw11)
      clear HAC_8
      have HSC_14 := Lib.hid (Rd.mono HSC_9.out hbw11)
      clear HSC_9
      obtain ⟨a4, c4, rfl, _⟩ := hA4.len
      have HA4 := Lib.hid hA4
      clear hA4
      refine ⟨⟨hs12.cellAt 0 rfl 0 rfl, hs12.cellAt 0 rfl 1 rfl, hs12.cellAt 1 rfl 0 rfl, hs12.cellAt 1 rfl 1 rfl, hs12.cellAt 2 rfl 0 rfl, hs12.cellAt 2 rfl 1 rfl, hs12.cellAt 3 rfl 0 rfl, hs12.cellAt 3 rfl 1 rfl⟩, ?_⟩
      (repeat (first | (apply t4_skip rfl (by rfl); try simp only [Act.put, List.setIfInBounds_toArray, List.set_cons_zero, List.set_cons_succ]) | (apply t4_float rfl (by rfl); (· (intro w' hS; go_simp <;> with_reducible rfl)); (try simp only [Act.put, List.setIfInBounds_toArray, List.set_cons_zero, List.set_cons_succ]))))
      refine t4_hard rfl (by rfl) (fun K hK => ?_)
      go_wp2_with fail
      have hs15 := hs12.alloc #[.int .i64 ci, .slice a4 sc.length c4] 107 (n := w11.heap.size) (by simp)
      have HAC_16 := Lib.hid (AccP.mono HAC_13.out (belowA _ (.cells #[.int .i64 ci, .slice a4 sc.length c4] 107)))
      clear HAC_13
      have HSC_17 := Lib.hid (Rd.mono HSC_14.out (belowA _ (.cells #[.int .i64 ci, .slice a4 sc.length c4] 107)))
      clear HSC_14
      have HA4_18 := Lib.hid (Acc.mono HA4.out (belowA _ (.cells #[.int .i64 ci, .slice a4 sc.length c4] 107)))
      clear HA4
      refine ⟨⟨hs15.cellAt 0 rfl 0 rfl, hs15.cellAt 0 rfl 1 rfl, hs15.cellAt 1 rfl 0 rfl, hs15.cellAt 1 rfl 1 rfl, hs15.cellAt 2 rfl 0 rfl, hs15.cellAt 2 rfl 1 rfl, hs15.cellAt 3 rfl 0 rfl, hs15.cellAt 3 rfl 1 rfl⟩, ?_⟩
      (repeat (first | (apply t4_skip rfl (by rfl); try simp only [Act.put, List.setIfInBounds_toArray, List.set_cons_zero, List.set_cons_succ]) | (apply t4_float rfl (by rfl); (· (intro w' hS; go_simp <;> with_reducible rfl)); (try simp only [Act.put, List.setIfInBounds_toArray, List.set_cons_zero, List.set_cons_succ]))))
      refine t4_hard rfl (by rfl) (fun K hK => ?_)
      have hsW := hs15.hi
      have IY := ip_cons (C := fun z => wr.heap.size ≤ z) (ip_int1 (C := fun _ => False) hIc) (HA4_18.out.fresh.ip) (fun z h _ => h) (fun z h => h.elim) (fun z h => by have h1 := h.1; (try simp at h1); omega)
      refine wp_append_accP _ _ _ _ rfl E_cons rfl HAC_16.out IY (fun z h1 h2 => by have h3 := h1.2; omega) ⟨w11.heap.size, 0, none⟩ 1 rfl (news2 (hs15.cellAt 4 rfl 0 rfl) (hs15.cellAt 4 rfl 1 rfl)) (by rw [HLK.out]; omega) ?_
      simp only [HLK.out, HTK.out]
      intro a8 c8 w8 hA8 hB8
      have hz8 := hB8.size
      have hs8 := hs15.butP hB8 (fun z hz => by have := hz.1; omega) (fun x hx hA => by have h1 := hA.1; have h2 := hA.2; simp at hx; rcases hx with rfl | rfl | rfl | rfl | rfl <;> (try simp only at h1 h2) <;> omega)
      have HA8 := Lib.hid (AccP.wk hA8.tight (C := fun z => w.heap.size + 1 + 1 + 1 ≤ z ∧ z < w8.heap.size) (fun z hz => ⟨by
        rcases hz.1 with h | h | h
        · exact h.1
        · omega
        · rw [h]; (try simp); omega, hz.2⟩))
      clear hA8 IY
      clear HAC_16
      clear HA4_18
      clear HSC_17
      refine hK _ _ ⟨⟨hs8.cellAt 0 rfl 0 rfl, hs8.cellAt 0 rfl 1 rfl, hs8.cellAt 1 rfl 0 rfl, hs8.cellAt 1 rfl 1 rfl, hs8.cellAt 2 rfl 0 rfl, hs8.cellAt 2 rfl 1 rfl, hs8.cellAt 3 rfl 0 rfl, hs8.cellAt 3 rfl 1 rfl⟩, ?_⟩
      (repeat (first | (apply t4_skip rfl (by rfl); try simp only [Act.put, List.setIfInBounds_toArray, List.set_cons_zero, List.set_cons_succ]) | (apply t4_float rfl (by rfl); (· (intro w' hS; go_simp <;> with_reducible rfl)); (try simp only [Act.put, List.setIfInBounds_toArray, List.set_cons_zero, List.set_cons_succ]))))
      refine t4_last rfl (by rfl) (fun K hK => ?_)
      have k0_0 := hs8.cellAt 0 rfl 0 rfl
      have k0_1 := hs8.cellAt 0 rfl 1 rfl
      have k1_0 := hs8.cellAt 1 rfl 0 rfl
      have k1_1 := hs8.cellAt 1 rfl 1 rfl
      have k2_0 := hs8.cellAt 2 rfl 0 rfl
      have k2_1 := hs8.cellAt 2 rfl 1 rfl
      have k3_0 := hs8.cellAt 3 rfl 0 rfl
      have k3_1 := hs8.cellAt 3 rfl 1 rfl
      have k4_0 := hs8.cellAt 4 rfl 0 rfl
      have k4_1 := hs8.cellAt 4 rfl 1 rfl
      have hs19 := hs8.low (B' := w.heap.size + 1 + 1 + 1) (bx' := [(w.heap.size, #[.int .i64 vars, .slice (some ⟨b, o, none⟩) cs.length cx], 61), (w.heap.size + 1, #[.int .i64 0, .slice none 0 0], 61), (w.heap.size + 1 + 1, #[.int .i64 vars, .slice ao k co], 61)]) (by omega) (by (try simp) <;> omega) (fun x hx => by simp only [List.mem_cons, List.not_mem_nil, or_false] at hx; rcases hx with rfl | rfl | rfl <;> (refine ⟨?_, ?_⟩ <;> (try simp) <;> (try omega)))
      have f2 := (hs19.freeAt 2 rfl 1)
      have hq := hs19.set (p := [_, _]) (by simp <;> omega) 1 (.slice a8 (k + 1) c8)
      have HQ := Lib.hid hq
      have HA9 := Lib.hid (AccP.wk (AccP.setCell HA8.out (b := w.heap.size + 1 + 1) (o := 1) (.slice a8 (k + 1) c8) (by simp <;> omega)) (C := fun z => w.heap.size + 1 + 1 + 1 ≤ z ∧ z < (w8.setCell ⟨w.heap.size + 1 + 1, 1, none⟩ (.slice a8 (k + 1) c8)).heap.size) (fun z hz => by simpa [World.setCell] using hz))
      clear hq
      go_wp2_with fail
      refine t4_nil (NoPanic.normal ?_)
      go_wp2_with fail
      go_roundw
      case rel => exact ⟨k + 1, a8, c8, hlt, by go_num, HQ.out, HA9.out⟩
      case measure => simp [intOf]; omega
    · obtain rfl : k = cs.length := by omega
      have hnl : ¬ ((cs.length : Int) < cs.length) := by omega
      have g0 := (hsr.freeAt 1 rfl 0)
      have g1 := (hsr.freeAt 1 rfl 1)
      have hs9 := ((hsr.set (p := [_]) (by simp <;> omega) 0 (.int .i64 vars)).set (p := [_]) (by simp <;> omega) 1 (.slice ao cs.length co))
      have HF := Lib.hid (show Fresh w.heap.size ((wr.setCell ⟨w.heap.size + 1, 0, none⟩ (.int .i64 vars)).setCell ⟨w.heap.size + 1, 1, none⟩ (.slice ao cs.length co)) [.slice ao cs.length co] cs from by
        have h := AccP.setCell (AccP.setCell HAC.out (b := w.heap.size + 1) (o := 0) (.int .i64 vars) (by simp <;> omega)) (b := w.heap.size + 1) (o := 1) (.slice ao cs.length co) (by simp <;> omega)
        rw [List.take_length] at h
        exact h.ip.fresh (fun k hk => by have := hk.1; omega))
      have HB9 := Lib.hid hs9.bel
      have y0 := hs9.cellAt 1 rfl 0 rfl
      have y1 := hs9.cellAt 1 rfl 1 rfl
      clear hs9
      go_wp2_with fail
      refine bodyPost_ret (v := .agg #[.int .i64 vars, .slice ao cs.length co]) (by simp [results, Try.results110, go_sem, y0, y1]) rfl ⟨_, rfl, HF.out, HB9.out⟩
/-- The chosen constraints. -/
def selC (cs : List OpT) (keep : List Int) : List OpT := keep.map (fun k => cs.getD k.toNat (0, []))
set_option maxRecDepth 100000 in
set_option maxHeartbeats 8000000 in
theorem kept_c (vars : Int) (cs : List OpT) (keep : List Int) (v1 vk : Value) (w : World) (hx : Rd w [.int .i64 vars, v1] (vars, cs)) (hkp : Rd w [vk] keep) (hn : keep.length ≤ 1000000) (hz : ∀ c, c ∈ cs → c.2.length ≤ 1000000) (hv : ∀ k, k ∈ keep → 0 ≤ k ∧ k < cs.length) :
    Calls Try.prog 69 #[.agg #[.int .i64 vars, v1], vk] w fun e w' => ∃ v, e = .returned (.agg #[.int .i64 vars, v]) ∧ Fresh w.heap.size w' [v] (selC cs keep) ∧ Below w.heap.size w w' := by
  have zx := rd_cons rfl hx
  obtain ⟨_, hIv⟩ := rd_i1 zx.1
  obtain ⟨ax, cx, rfl, hcs⟩ := rd_list zx.2
  obtain ⟨ak, ck, rfl, _⟩ := rd_list hkp
  have hb0 := (rdSl_len hcs).2
  unfold maxLen at hb0
  have HCS := Lib.hid hcs
  have HKP := Lib.hid hkp
  have HZ := Lib.hid hz
  have HV := Lib.hid hv
  have HIV := Lib.hid hIv
  clear hx zx hcs hz hv hkp hIv
  have hs20 := (St.start w).alloc #[.int .i64 vars, .slice ax cs.length cx] 61 (n := w.heap.size) (by simp)
  have k0_0 := hs20.cellAt 0 rfl 0 rfl
  have k0_1 := hs20.cellAt 0 rfl 1 rfl
  have hs21 := hs20.alloc #[.int .i64 0, .slice none 0 0] 61 (n := w.heap.size + 1) (by simp)
  clear k0_0 k0_1
  have k0_0 := hs21.cellAt 0 rfl 0 rfl
  have k0_1 := hs21.cellAt 0 rfl 1 rfl
  have k1_0 := hs21.cellAt 1 rfl 0 rfl
  have k1_1 := hs21.cellAt 1 rfl 1 rfl
  have hs22 := hs21.alloc #[.int .i64 vars, .slice none 0 0] 61 (n := w.heap.size + 1 + 1) (by simp)
  clear k0_0 k0_1 k1_0 k1_1
  have k0_0 := hs22.cellAt 0 rfl 0 rfl
  have k0_1 := hs22.cellAt 0 rfl 1 rfl
  have k1_0 := hs22.cellAt 1 rfl 0 rfl
  have k1_1 := hs22.cellAt 1 rfl 1 rfl
  have k2_0 := hs22.cellAt 2 rfl 0 rfl
  have k2_1 := hs22.cellAt 2 rfl 1 rfl
  have HS0 := Lib.hid hs22
  go_enter Try.func69, Try.ntmps69
  go_wp2_with fail
  go_loopw [13] (fun i wl => ∃ (k : Nat) (ao : Option Addr) (co : Nat), k ≤ keep.length ∧ i = .int .i64 k ∧ Hid (St w (w.heap.size + 1 + 1 + 1) wl [(w.heap.size, #[.int .i64 vars, .slice ax cs.length cx], 61), (w.heap.size + 1, #[.int .i64 0, .slice none 0 0], 61), (w.heap.size + 1 + 1, #[.int .i64 vars, .slice ao k co], 61)]) ∧
    Hid (∀ g, (Value.slice ao k co).ownBlock = some g → w.heap.size + 1 + 1 + 1 ≤ g ∧ g < wl.heap.size) ∧ Hid (RowR w 107 wl (.slice ao k co) (selC cs (keep.take k)))) (fun i _ => keep.length - (intOf i).toNat)
  case atStart => exact ⟨0, none, 0, Nat.zero_le _, rfl, HS0.out, fun g hg => (by cases hg), RowR.nil _ _ _⟩
  case round =>
    clear HS0
    obtain ⟨k, ao, co, hk, rfl, hst, hgo, hac⟩ := hrel
    have hsr := hst.out
    have hszr := hsr.hi
    have k0_0 := hsr.cellAt 0 rfl 0 rfl
    have k0_1 := hsr.cellAt 0 rfl 1 rfl
    have k1_0 := hsr.cellAt 1 rfl 0 rfl
    have k1_1 := hsr.cellAt 1 rfl 1 rfl
    have k2_0 := hsr.cellAt 2 rfl 0 rfl
    have k2_1 := hsr.cellAt 2 rfl 1 rfl
    by_cases hlt : k < keep.length
    · have hkl : (k : Int) < keep.length := by omega
      obtain ⟨bk, ok, rfl, qk, _⟩ := rd_int_at (Rd.mono HKP.out hsr.bel) k hlt
      have hvk := HV.out _ (List.getElem_mem hlt)
      obtain ⟨n, hn2⟩ : ∃ n : Nat, keep[k] = (n : Int) := ⟨keep[k].toNat, by omega⟩
      have HTK := Lib.hid (show selC cs (keep.take k) ++ [cs.getD n (0, [])] = selC cs (keep.take (k + 1)) by
        rw [List.take_succ_eq_append_getElem hlt]; simp [selC, hn2])
      have HLK := Lib.hid (show (selC cs (keep.take k)).length = k by simp only [selC, List.length_map, List.length_take]; omega)
      rw [hn2] at qk hvk
      have hnl : n < cs.length := by omega
      have hnI : (n : Int) < cs.length := by omega
      clear hn2
      obtain ⟨b, o, u0, u1, rfl, q0, q1, hy⟩ := rdSl_two rfl HCS.out n hnl
      have hbX : b < w.heap.size := World.block_lt_of_cell? w _ q0
      have hyz := rd_cons rfl hy
      obtain ⟨rfl, hIc⟩ := rd_i1 hyz.1
      obtain ⟨a1, c1, rfl, _⟩ := rd_list hyz.2
      have HY := Lib.hid hy
      clear hy hyz
      rw [show cs.getD n (0, []) = cs[n] by simp [List.getD, hnl]] at HTK
      generalize hC : cs[n] = C at *
      obtain ⟨ci, sc⟩ := C
      clear hC
      simp only at q0 q1 HY hIc
      obtain ⟨xs, hrow, hel⟩ := hac.out
      rw [HLK.out] at hrow
      have HEL := Lib.hid hel
      have HRW := Lib.hid hrow
      clear hrow hel
      have r0 := cellL hsr.bel q0
      have r1 := cellL hsr.bel q1
      go_upto_region 5 with fail
      refine wp_region_noPanic (wp_region_tree4 (fun w' => w'.cell? ⟨w.heap.size, 0, none⟩ = some (.int .i64 vars) ∧ w'.cell? ⟨w.heap.size, 1, none⟩ = some (.slice (some ⟨b, o, none⟩) cs.length cx) ∧ w'.cell? ⟨w.heap.size + 1, 0, none⟩ = some (.int .i64 0) ∧ w'.cell? ⟨w.heap.size + 1, 1, none⟩ = some (.slice none 0 0) ∧ w'.cell? ⟨w.heap.size + 1 + 1, 0, none⟩ = some (.int .i64 vars) ∧ w'.cell? ⟨w.heap.size + 1 + 1, 1, none⟩ = some (.slice ao k co) ∧ w'.cell? ⟨b, o + n * 2, none⟩ = some (.int .i64 ci) ∧ w'.cell? ⟨b, o + n * 2 + 1, none⟩ = some (.slice a1 sc.length c1)) (.float 0 (.float 1 (.float 2 (.float 3 (.float 4 (.float 5 (.float 6 (.hard 7 (.hard 8 (.float 9 (.last 10 .nil))))))))))) (by kernel_rfl) (by kernel_rfl) (by kernel_rfl) rfl ?_ (fun _ _ _ _ _ h => h) ?_)
      · exact ⟨(hsr.drew).cellAt 0 rfl 0 rfl, (hsr.drew).cellAt 0 rfl 1 rfl, (hsr.drew).cellAt 1 rfl 0 rfl, (hsr.drew).cellAt 1 rfl 1 rfl, (hsr.drew).cellAt 2 rfl 0 rfl, (hsr.drew).cellAt 2 rfl 1 rfl, cellL (belowD _) r0, cellL (belowD _) r1⟩
      have hs23 := hsr.drew
      have r0_24 := cellL (belowD _) r0
      clear r0
      have r1_25 := cellL (belowD _) r1
      clear r1
      have HRW_26 := Lib.hid (ownsRow_below HRW.out (belowD _))
      clear HRW
      clear k0_0 k0_1 k1_0 k1_1 k2_0 k2_1
      have hz_wd27 : wr.heap.size ≤ (wr.drew).heap.size := by simp
      generalize hgen_wd27 : wr.drew = wd27 at *
      have HG_wd27 := Lib.hid hgen_wd27
      clear hgen_wd27
      (repeat (first | (apply t4_skip rfl (by rfl); try simp only [Act.put, List.setIfInBounds_toArray, List.set_cons_zero, List.set_cons_succ]) | (apply t4_float rfl (by rfl); (· (intro w' hS; go_simp <;> with_reducible rfl)); (try simp only [Act.put, List.setIfInBounds_toArray, List.set_cons_zero, List.set_cons_succ]))))
      refine t4_hard rfl (by rfl) (fun K hK => ?_)
      go_wp2_with fail
      have hs28 := hs23.alloc #[.int .i64 ci, .slice a1 sc.length c1] 107 (n := wd27.heap.size) (by simp)
      have r0_29 := cellL (belowA _ (.cells #[.int .i64 ci, .slice a1 sc.length c1] 107)) r0_24
      clear r0_24
      have r1_30 := cellL (belowA _ (.cells #[.int .i64 ci, .slice a1 sc.length c1] 107)) r1_25
      clear r1_25
      have HRW_31 := Lib.hid (ownsRow_below HRW_26.out (belowA _ (.cells #[.int .i64 ci, .slice a1 sc.length c1] 107)))
      clear HRW_26
      refine ⟨⟨hs28.cellAt 0 rfl 0 rfl, hs28.cellAt 0 rfl 1 rfl, hs28.cellAt 1 rfl 0 rfl, hs28.cellAt 1 rfl 1 rfl, hs28.cellAt 2 rfl 0 rfl, hs28.cellAt 2 rfl 1 rfl, r0_29, r1_30⟩, ?_⟩
      (repeat (first | (apply t4_skip rfl (by rfl); try simp only [Act.put, List.setIfInBounds_toArray, List.set_cons_zero, List.set_cons_succ]) | (apply t4_float rfl (by rfl); (· (intro w' hS; go_simp <;> with_reducible rfl)); (try simp only [Act.put, List.setIfInBounds_toArray, List.set_cons_zero, List.set_cons_succ]))))
      refine t4_hard rfl (by rfl) (fun K hK => ?_)
      refine wp_append_row _ _ _ _ rfl E_cons (v := .slice ao k co) rfl HRW_31.out (vs := [.int .i64 ci, .slice a1 sc.length c1]) rfl (fun u hu => by simp only [List.mem_cons, List.not_mem_nil, or_false] at hu; rcases hu with rfl | rfl <;> rfl) ⟨wd27.heap.size, 0, none⟩ 1 rfl (news2 (hs28.cellAt 3 rfl 0 rfl) (hs28.cellAt 3 rfl 1 rfl)) (by omega) ?_
      intro gN cN w8 hat hrowN hbutN hltN
      have hsW := hs28.hi
      have hB8 := hbutN.butP (A := fun z => w.heap.size + 1 + 1 + 1 ≤ z ∧ z < wr.heap.size) (fun z hz => hgo.out z (by simpa using hz))
      have hz8 := hB8.size
      have HG8 := Lib.hid (show w.heap.size + 1 + 1 + 1 ≤ gN ∧ gN < w8.heap.size from ⟨by
        rcases hat with h | h
        · exact (hgo.out gN h).1
        · rw [h]; (try simp); omega, hltN⟩)
      have HR8 := Lib.hid (RowR.snoc (w0 := w) (l := selC cs (keep.take k)) (y := ((ci, sc) : OpT)) (by rw [HLK.out]; exact HRW_31.out) HEL.out HY.out (by rw [HLK.out]; exact hrowN))
      rw [HTK.out] at HR8
      have hs8 := hs28.butP hB8 (fun z hz => by have := hz.1; omega) (fun x hx hA => by have h1 := hA.1; have h2 := hA.2; simp at hx; rcases hx with rfl | rfl | rfl | rfl <;> (try simp only at h1 h2) <;> omega)
      clear hat hrowN hbutN hltN
      clear HRW_31
      have r0_32 := cellB hB8 r0_29 (fun h => by have := h.1; omega)
      clear r0_29
      have r1_33 := cellB hB8 r1_30 (fun h => by have := h.1; omega)
      clear r1_30
      refine hK _ _ ⟨⟨hs8.cellAt 0 rfl 0 rfl, hs8.cellAt 0 rfl 1 rfl, hs8.cellAt 1 rfl 0 rfl, hs8.cellAt 1 rfl 1 rfl, hs8.cellAt 2 rfl 0 rfl, hs8.cellAt 2 rfl 1 rfl, r0_32, r1_33⟩, ?_⟩
      (repeat (first | (apply t4_skip rfl (by rfl); try simp only [Act.put, List.setIfInBounds_toArray, List.set_cons_zero, List.set_cons_succ]) | (apply t4_float rfl (by rfl); (· (intro w' hS; go_simp <;> with_reducible rfl)); (try simp only [Act.put, List.setIfInBounds_toArray, List.set_cons_zero, List.set_cons_succ]))))
      refine t4_last rfl (by rfl) (fun K hK => ?_)
      have k0_0 := hs8.cellAt 0 rfl 0 rfl
      have k0_1 := hs8.cellAt 0 rfl 1 rfl
      have k1_0 := hs8.cellAt 1 rfl 0 rfl
      have k1_1 := hs8.cellAt 1 rfl 1 rfl
      have k2_0 := hs8.cellAt 2 rfl 0 rfl
      have k2_1 := hs8.cellAt 2 rfl 1 rfl
      have k3_0 := hs8.cellAt 3 rfl 0 rfl
      have k3_1 := hs8.cellAt 3 rfl 1 rfl
      have hs34 := hs8.low (B' := w.heap.size + 1 + 1 + 1) (bx' := [(w.heap.size, #[.int .i64 vars, .slice (some ⟨b, o, none⟩) cs.length cx], 61), (w.heap.size + 1, #[.int .i64 0, .slice none 0 0], 61), (w.heap.size + 1 + 1, #[.int .i64 vars, .slice ao k co], 61)]) (by omega) (by (try simp) <;> omega) (fun x hx => by simp only [List.mem_cons, List.not_mem_nil, or_false] at hx; rcases hx with rfl | rfl | rfl <;> (refine ⟨?_, ?_⟩ <;> (try simp) <;> (try omega)))
      have f2 := (hs34.freeAt 2 rfl 1)
      have hq := hs34.set (p := [_, _]) (by simp <;> omega) 1 (.slice (some ⟨gN, 0, none⟩) (k + 1) cN)
      have HQ := Lib.hid hq
      have HG9 := Lib.hid (show ∀ g, (Value.slice (some ⟨gN, 0, none⟩) (k + 1) cN).ownBlock = some g → w.heap.size + 1 + 1 + 1 ≤ g ∧ g < (w8.setCell ⟨w.heap.size + 1 + 1, 1, none⟩ (.slice (some ⟨gN, 0, none⟩) (k + 1) cN)).heap.size from fun g hg => by
        simp only [Value.ownBlock, Option.some.injEq] at hg
        subst hg
        simpa [World.setCell] using HG8.out)
      have HR9 := Lib.hid (RowR.frame (w' := w8.setCell ⟨w.heap.size + 1 + 1, 1, none⟩ (.slice (some ⟨gN, 0, none⟩) (k + 1) cN)) HR8.out (fun g hg => Below.heap_setCell _ _ _ _ (fun e => by
        simp only [Value.ownBlock, Option.some.injEq] at hg
        have := HG8.out.1
        simp only at e
        omega)))
      clear hq
      go_wp2_with fail
      refine t4_nil (NoPanic.normal ?_)
      go_wp2_with fail
      go_roundw
      case rel => exact ⟨k + 1, some ⟨gN, 0, none⟩, cN, hlt, by go_num, HQ.out, HG9.out, HR9.out⟩
      case measure => simp [intOf]; omega
    · obtain rfl : k = keep.length := by omega
      have hnl : ¬ ((keep.length : Int) < keep.length) := by omega
      have HRD := Lib.hid (show Rd wr [.int .i64 vars, .slice ao keep.length co] (vars, selC cs keep) from by
        have h := hac.out.rd hsr.bel
        rw [List.take_length] at h
        exact ⟨[_], [_], rfl, ⟨rfl, HIV.out⟩, h⟩)
      have HSZ := Lib.hid (show ∀ c, c ∈ selC cs keep → c.2.length ≤ 1000000 from fun c hc => by
        simp only [selC, List.mem_map] at hc
        obtain ⟨q, hq, rfl⟩ := hc
        have := HV.out q hq
        exact HZ.out _ (by simp [List.getD, show q.toNat < cs.length by omega]))
      have HSL := Lib.hid (show (selC cs keep).length ≤ 1000000 by simpa [selC] using hn)
      clear hac
      go_wp2_with fail
      refine (ownInstance_c vars (selC cs keep) _ _ HRD.out HSL.out HSZ.out).mono ?_
      rintro e w35 ⟨v9, rfl, fr9, hbw35⟩
      have hz_w35 : wr.heap.size ≤ w35.heap.size := by have h9 := hbw35.size; (try simp at h9); omega
      have hs36 := hsr.step hbw35
      clear k0_0 k0_1 k1_0 k1_1 k2_0 k2_1
      have k0_0 := hs36.cellAt 0 rfl 0 rfl
      have k0_1 := hs36.cellAt 0 rfl 1 rfl
      have k1_0 := hs36.cellAt 1 rfl 0 rfl
      have k1_1 := hs36.cellAt 1 rfl 1 rfl
      have k2_0 := hs36.cellAt 2 rfl 0 rfl
      have k2_1 := hs36.cellAt 2 rfl 1 rfl
      obtain ⟨a9, c9, rfl, _⟩ := rd_list fr9.rd
      have g0 := (hs36.freeAt 1 rfl 0)
      have g1 := (hs36.freeAt 1 rfl 1)
      have hz9 := hbw35.size
      have hs9 := ((hs36.set (p := [_]) (by simp <;> omega) 0 (.int .i64 vars)).set (p := [_]) (by simp <;> omega) 1 (.slice a9 (selC cs keep).length c9))
      have HF := Lib.hid (show Fresh w.heap.size ((w35.setCell ⟨w.heap.size + 1, 0, none⟩ (.int .i64 vars)).setCell ⟨w.heap.size + 1, 1, none⟩ (.slice a9 (selC cs keep).length c9)) [.slice a9 (selC cs keep).length c9] (selC cs keep) from
        ((fr9.setCell (a := ⟨w.heap.size + 1, 0, none⟩) (by simp <;> omega) (.int .i64 vars)).setCell (a := ⟨w.heap.size + 1, 1, none⟩) (by simp <;> omega) (.slice a9 (selC cs keep).length c9)).lower (by omega))
      have HB9 := Lib.hid hs9.bel
      have y0 := hs9.cellAt 1 rfl 0 rfl
      have y1 := hs9.cellAt 1 rfl 1 rfl
      clear hs9 fr9
      go_wp2_with fail
      refine bodyPost_ret (v := .agg #[.int .i64 vars, .slice a9 (selC cs keep).length c9]) (by simp [results, Try.results69, go_sem, y0, y1]) rfl ⟨_, rfl, HF.out, HB9.out⟩
/-- What RestrictInstance hands back. -/
def restrictF (t : Tmpl) (x : Inst) (keep : List Int) : Inst × Int := if instOk t x then (if risesB 0 ((x.2.length : Int) - 1) keep then ((x.1, selC x.2 keep), 0) else ((0, []), 2)) else ((0, []), 1)
theorem conOk_len {t : Tmpl} {vars : Int} {c : OpT} (ht : tmplOk t = true) (h : conOk t vars c = true) : c.2.length ≤ 4 := by
  simp only [conOk, Bool.and_eq_true] at h
  have h1 := inB_true h.1
  have h2 := valsOk_len h.2
  have hi : c.1.toNat < t.2.length := by omega
  rw [show t.2.getD c.1.toNat (0, []) = t.2[c.1.toNat] by simp [List.getD, hi]] at h2
  have h3 := (relOk_get ((tmplOk_get ht).2.2 _ (List.getElem_mem hi))).2.1
  omega
theorem rises_ge {hi : Int} {l : List Int} (h : risesB 0 hi l = true) : ∀ i, i < l.length → (i : Int) ≤ l.getD i 0
  | 0, h0 => by
    unfold risesB at h
    rw [List.all_eq_true] at h
    have := h 0 (List.mem_range.2 h0)
    simp only [risAt, Bool.and_eq_true] at this
    have := inB_true this.1
    omega
  | i + 1, h0 => by
    have ih := rises_ge h i (by omega)
    unfold risesB at h
    rw [List.all_eq_true] at h
    have := h (i + 1) (List.mem_range.2 h0)
    simp only [risAt, Bool.and_eq_true, Bool.or_eq_true, decide_eq_true_eq, Nat.add_sub_cancel] at this
    rcases this.2 with h1 | h1
    · omega
    · omega
theorem rises_mem {lo hi : Int} {l : List Int} (h : risesB lo hi l = true) : ∀ a, a ∈ l → lo ≤ a ∧ a ≤ hi := by
  rw [rises_eq, Bool.and_eq_true, List.all_eq_true] at h
  exact fun a ha => inB_true (h.1 a ha)
theorem rises_len {n : Nat} {l : List Int} (h : risesB 0 ((n : Int) - 1) l = true) : l.length ≤ n := by
  rcases Nat.eq_zero_or_pos l.length with h0 | h0
  · omega
  · have h1 := rises_ge h (l.length - 1) (by omega)
    have hi : l.length - 1 < l.length := by omega
    rw [show l.getD (l.length - 1) 0 = l[l.length - 1] by simp [List.getD, hi]] at h1
    have h2 := rises_mem h _ (List.getElem_mem hi)
    omega
theorem restrictF_small (t : Tmpl) (x : Inst) (keep : List Int) : ((restrictF t x keep).1.2.map mcConE).sum ≤ 1000000 := by
  unfold restrictF
  cases h1 : instOk t x with
  | false => simp
  | true =>
    cases h2 : risesB 0 ((x.2.length : Int) - 1) keep with
    | false => simp
    | true =>
      have hl := rises_len h2
      have hx := (instOk_get h1).2.2.1
      have hm := rises_mem h2
      have key : ∀ l : List Int, (∀ k, k ∈ l → 0 ≤ k ∧ k ≤ (x.2.length : Int) - 1) → ((selC x.2 l).map mcConE).sum ≤ 5 * l.length := by
        intro l
        induction l with
        | nil => intro _; simp [selC]
        | cons a l ih =>
          intro h
          have h1' := ih (fun k hk => h k (List.mem_cons_of_mem _ hk))
          have ha := h a (List.mem_cons_self ..)
          have hn : a.toNat < x.2.length := by omega
          have hc := conOk_len (instOk_get h1).1 ((instOk_get h1).2.2.2 _ (List.getElem_mem hn))
          have e : selC x.2 (a :: l) = x.2[a.toNat] :: selC x.2 l := by simp [selC, List.getD, hn]
          rw [e, List.map_cons, List.sum_cons, List.length_cons]
          have e2 : mcConE x.2[a.toNat] = x.2[a.toNat].2.length + 1 := rfl
          omega
      have := key keep hm
      simp only [if_true]
      show ((selC x.2 keep).map mcConE).sum ≤ 1000000
      omega
set_option maxRecDepth 100000 in
set_option maxHeartbeats 8000000 in
theorem RestrictInstance_c (t : Tmpl) (t0 t1 : Value) (x : Inst) (x0 x1 : Value) (keep : List Int) (vk : Value) (w : World) (ht : Rd w [t0, t1] t) (hx : Rd w [x0, x1] x) (hk : Rd w [vk] keep) (hz : keep.length ≤ 1048576) :
    Calls Try.prog 32 #[.agg #[t0, t1], .agg #[x0, x1], vk] w fun e w' => ∃ u0 u1, e = .returned (.tuple #[.agg #[u0, u1], .int .i64 (restrictF t x keep).2]) ∧ Fresh w.heap.size w' [u0, u1] (restrictF t x keep).1 ∧ Below w.heap.size w w' := by
  obtain ⟨size, rs⟩ := t
  obtain ⟨vars, cs⟩ := x
  have HT := Lib.hid ht
  have HX := Lib.hid hx
  have HK := Lib.hid hk
  have zt := rd_cons rfl ht
  obtain ⟨rfl, _⟩ := rd_i1 zt.1
  obtain ⟨at0, ct0, rfl, _⟩ := rd_list zt.2
  have zx := rd_cons rfl hx
  obtain ⟨rfl, hIv⟩ := rd_i1 zx.1
  obtain ⟨ax, cx, rfl, _⟩ := rd_list zx.2
  obtain ⟨ak, ck, rfl, hkr⟩ := rd_list hk
  have HIV := Lib.hid hIv
  clear ht hx hk zt zx hkr hIv
  have hs37 := (St.start w).alloc #[.int .i64 size, .slice at0 rs.length ct0] 34 (n := w.heap.size) (by simp)
  have k0_0 := hs37.cellAt 0 rfl 0 rfl
  have k0_1 := hs37.cellAt 0 rfl 1 rfl
  have hs38 := hs37.alloc #[.int .i64 vars, .slice ax cs.length cx] 61 (n := w.heap.size + 1) (by simp)
  clear k0_0 k0_1
  have k0_0 := hs38.cellAt 0 rfl 0 rfl
  have k0_1 := hs38.cellAt 0 rfl 1 rfl
  have k1_0 := hs38.cellAt 1 rfl 0 rfl
  have k1_1 := hs38.cellAt 1 rfl 1 rfl
  have hs39 := hs38.alloc #[.int .i64 0, .slice none 0 0] 61 (n := w.heap.size + 1 + 1) (by simp)
  clear k0_0 k0_1 k1_0 k1_1
  have k0_0 := hs39.cellAt 0 rfl 0 rfl
  have k0_1 := hs39.cellAt 0 rfl 1 rfl
  have k1_0 := hs39.cellAt 1 rfl 0 rfl
  have k1_1 := hs39.cellAt 1 rfl 1 rfl
  have k2_0 := hs39.cellAt 2 rfl 0 rfl
  have k2_1 := hs39.cellAt 2 rfl 1 rfl
  go_enter Try.func32, Try.ntmps32
  go_wp2_with fail
  refine (ValidInstance_c (size, rs) (vars, cs) _ _ _ _ _ (Rd.mono HT.out hs39.bel) (Rd.mono HX.out hs39.bel)).mono ?_
  rintro e w40 ⟨rfl, hbw40⟩
  have hz_w40 : w.heap.size + 1 + 1 + 1 ≤ w40.heap.size := by have h9 := hbw40.size; (try simp at h9); omega
  have hs41 := hs39.step hbw40
  clear k0_0 k0_1 k1_0 k1_1 k2_0 k2_1
  have k0_0 := hs41.cellAt 0 rfl 0 rfl
  have k0_1 := hs41.cellAt 0 rfl 1 rfl
  have k1_0 := hs41.cellAt 1 rfl 0 rfl
  have k1_1 := hs41.cellAt 1 rfl 1 rfl
  have k2_0 := hs41.cellAt 2 rfl 0 rfl
  have k2_1 := hs41.cellAt 2 rfl 1 rfl
  cases h1 : instOk (size, rs) (vars, cs) with
  | false =>
    have H1 := Lib.hid (show restrictF (size, rs) (vars, cs) keep = ((0, []), 1) by unfold restrictF; rw [h1]; rfl)
    clear h1
    have g0 := (hs41.freeAt 2 rfl 0)
    have g1 := (hs41.freeAt 2 rfl 1)
    have hs9 := ((hs41.set (p := [_, _]) (by simp <;> omega) 0 (.int .i64 0)).set (p := [_, _]) (by simp <;> omega) 1 (.slice none 0 0))
    have HB9 := Lib.hid hs9.bel
    have y0 := hs9.cellAt 2 rfl 0 rfl
    have y1 := hs9.cellAt 2 rfl 1 rfl
    clear hs9
    go_wp2_with fail
    refine bodyPost_ret (v := .tuple #[.agg #[.int .i64 0, .slice none 0 0], .int .i64 1]) (by simp [results, Try.results32, go_sem, y0, y1]) rfl ⟨_, _, by rw [H1.out], ?_, HB9.out⟩
    rw [H1.out]; exact fresh_int_cons ⟨by decide, by decide⟩ fresh_nil_list
  | true =>
    have hcs := (instOk_get h1).2.2.1
    simp only at hcs
    have HCL := Lib.hid (show ∀ c, c ∈ cs → c.2.length ≤ 1000000 from fun c hc => by
      have := conOk_len (instOk_get h1).1 ((instOk_get h1).2.2.2 c hc)
      omega)
    have H0 := Lib.hid (show restrictF (size, rs) (vars, cs) keep = if risesB 0 ((cs.length : Int) - 1) keep then ((vars, selC cs keep), 0) else ((0, []), 2) by unfold restrictF; rw [h1]; rfl)
    have HE := Lib.hid (rises_vals (cs.length : Int) keep)
    clear h1
    go_wp2_with fail
    refine (areValues_c (cs.length : Int) keep _ (keep.length : Int) _ (Rd.mono HK.out hs41.bel) (by omega) (by omega)).mono ?_
    rintro e w42 ⟨rfl, hbw42⟩
    have hz_w42 : w40.heap.size ≤ w42.heap.size := by have h9 := hbw42.size; (try simp at h9); omega
    have hs43 := hs41.step hbw42
    clear k0_0 k0_1 k1_0 k1_1 k2_0 k2_1
    have k0_0 := hs43.cellAt 0 rfl 0 rfl
    have k0_1 := hs43.cellAt 0 rfl 1 rfl
    have k1_0 := hs43.cellAt 1 rfl 0 rfl
    have k1_1 := hs43.cellAt 1 rfl 1 rfl
    have k2_0 := hs43.cellAt 2 rfl 0 rfl
    have k2_1 := hs43.cellAt 2 rfl 1 rfl
    cases h2 : valsOk (cs.length : Int) keep keep.length with
    | false =>
      have H1 := Lib.hid (show restrictF (size, rs) (vars, cs) keep = ((0, []), 2) by rw [H0.out, HE.out, h2]; rfl)
      clear h2
      have g0 := (hs43.freeAt 2 rfl 0)
      have g1 := (hs43.freeAt 2 rfl 1)
      have hs9 := ((hs43.set (p := [_, _]) (by simp <;> omega) 0 (.int .i64 0)).set (p := [_, _]) (by simp <;> omega) 1 (.slice none 0 0))
      have HB9 := Lib.hid hs9.bel
      have y0 := hs9.cellAt 2 rfl 0 rfl
      have y1 := hs9.cellAt 2 rfl 1 rfl
      clear hs9
      go_wp2_with fail
      refine bodyPost_ret (v := .tuple #[.agg #[.int .i64 0, .slice none 0 0], .int .i64 2]) (by simp [results, Try.results32, go_sem, y0, y1]) rfl ⟨_, _, by rw [H1.out], ?_, HB9.out⟩
      rw [H1.out]; exact fresh_int_cons ⟨by decide, by decide⟩ fresh_nil_list
    | true =>
      rw [h2, Bool.true_and] at HE
      clear h2
      go_wp2_with fail
      refine (rising_c keep _ _ (Rd.mono HK.out hs43.bel) (by omega)).mono ?_
      rintro e w44 ⟨v2, rfl, hac, hbw44⟩
      have hz_w44 : w42.heap.size ≤ w44.heap.size := by have h9 := hbw44.size; (try simp at h9); omega
      have hs45 := hs43.step hbw44
      clear k0_0 k0_1 k1_0 k1_1 k2_0 k2_1
      have k0_0 := hs45.cellAt 0 rfl 0 rfl
      have k0_1 := hs45.cellAt 0 rfl 1 rfl
      have k1_0 := hs45.cellAt 1 rfl 0 rfl
      have k1_1 := hs45.cellAt 1 rfl 1 rfl
      have k2_0 := hs45.cellAt 2 rfl 0 rfl
      have k2_1 := hs45.cellAt 2 rfl 1 rfl
      obtain ⟨a2, c2, rfl, _⟩ := rd_list hac.rd
      have HRI := Lib.hid hac.rd
      clear hac
      go_wp2_with fail
      refine (equalInts_c keep (riseL keep) _ _ _ (Rd.mono HK.out hs45.bel) HRI.out).mono ?_
      rintro e w46 ⟨rfl, hbw46⟩
      have hz_w46 : w44.heap.size ≤ w46.heap.size := by have h9 := hbw46.size; (try simp at h9); omega
      have hs47 := hs45.step hbw46
      have HRI_48 := Lib.hid (Rd.mono HRI.out hbw46)
      clear HRI
      clear k0_0 k0_1 k1_0 k1_1 k2_0 k2_1
      have k0_0 := hs47.cellAt 0 rfl 0 rfl
      have k0_1 := hs47.cellAt 0 rfl 1 rfl
      have k1_0 := hs47.cellAt 1 rfl 0 rfl
      have k1_1 := hs47.cellAt 1 rfl 1 rfl
      have k2_0 := hs47.cellAt 2 rfl 0 rfl
      have k2_1 := hs47.cellAt 2 rfl 1 rfl
      cases h3 : decide (keep = riseL keep) with
      | false =>
        have H1 := Lib.hid (show restrictF (size, rs) (vars, cs) keep = ((0, []), 2) by rw [H0.out, HE.out, h3]; rfl)
        clear h3
        have g0 := (hs47.freeAt 2 rfl 0)
        have g1 := (hs47.freeAt 2 rfl 1)
        have hs9 := ((hs47.set (p := [_, _]) (by simp <;> omega) 0 (.int .i64 0)).set (p := [_, _]) (by simp <;> omega) 1 (.slice none 0 0))
        have HB9 := Lib.hid hs9.bel
        have y0 := hs9.cellAt 2 rfl 0 rfl
        have y1 := hs9.cellAt 2 rfl 1 rfl
        clear hs9
        go_wp2_with fail
        refine bodyPost_ret (v := .tuple #[.agg #[.int .i64 0, .slice none 0 0], .int .i64 2]) (by simp [results, Try.results32, go_sem, y0, y1]) rfl ⟨_, _, by rw [H1.out], ?_, HB9.out⟩
        rw [H1.out]; exact fresh_int_cons ⟨by decide, by decide⟩ fresh_nil_list
      | true =>
        have H1 := Lib.hid (show restrictF (size, rs) (vars, cs) keep = ((vars, selC cs keep), 0) by rw [H0.out, HE.out, h3]; rfl)
        have HM := Lib.hid (show ∀ k, k ∈ keep → 0 ≤ k ∧ k < cs.length from fun k hk => by
          have := rises_mem (show risesB 0 ((cs.length : Int) - 1) keep = true by rw [HE.out, h3]) k hk
          omega)
        have HLN := Lib.hid (show keep.length ≤ 1000000 by have := rises_len (show risesB 0 ((cs.length : Int) - 1) keep = true by rw [HE.out, h3]); omega)
        clear h3
        go_wp2_with fail
        refine (kept_c vars cs keep _ _ _ (Rd.mono HX.out hs47.bel) (Rd.mono HK.out hs47.bel) HLN.out HCL.out HM.out).mono ?_
        rintro e w49 ⟨v9, rfl, fr9, hbw49⟩
        have hz_w49 : w46.heap.size ≤ w49.heap.size := by have h9 := hbw49.size; (try simp at h9); omega
        have hs50 := hs47.step hbw49
        have HRI_51 := Lib.hid (Rd.mono HRI_48.out hbw49)
        clear HRI_48
        clear k0_0 k0_1 k1_0 k1_1 k2_0 k2_1
        have k0_0 := hs50.cellAt 0 rfl 0 rfl
        have k0_1 := hs50.cellAt 0 rfl 1 rfl
        have k1_0 := hs50.cellAt 1 rfl 0 rfl
        have k1_1 := hs50.cellAt 1 rfl 1 rfl
        have k2_0 := hs50.cellAt 2 rfl 0 rfl
        have k2_1 := hs50.cellAt 2 rfl 1 rfl
        obtain ⟨a9, c9, rfl, _⟩ := rd_list fr9.rd
        have g0 := (hs50.freeAt 2 rfl 0)
        have g1 := (hs50.freeAt 2 rfl 1)
        have hz9 := hbw49.size
        have hs9 := ((hs50.set (p := [_, _]) (by simp <;> omega) 0 (.int .i64 vars)).set (p := [_, _]) (by simp <;> omega) 1 (.slice a9 (selC cs keep).length c9))
        have HF := Lib.hid (show Fresh w.heap.size ((w49.setCell ⟨w.heap.size + 1 + 1, 0, none⟩ (.int .i64 vars)).setCell ⟨w.heap.size + 1 + 1, 1, none⟩ (.slice a9 (selC cs keep).length c9)) [.int .i64 vars, .slice a9 (selC cs keep).length c9] (vars, selC cs keep) from
          fresh_int_cons HIV.out (((fr9.setCell (a := ⟨w.heap.size + 1 + 1, 0, none⟩) (by simp <;> omega) (.int .i64 vars)).setCell (a := ⟨w.heap.size + 1 + 1, 1, none⟩) (by simp <;> omega) (.slice a9 (selC cs keep).length c9)).lower (by omega)))
        have HB9 := Lib.hid hs9.bel
        have y0 := hs9.cellAt 2 rfl 0 rfl
        have y1 := hs9.cellAt 2 rfl 1 rfl
        clear hs9 fr9
        go_wp2_with fail
        refine bodyPost_ret (v := .tuple #[.agg #[.int .i64 vars, .slice a9 (selC cs keep).length c9], .int .i64 0]) (by simp [results, Try.results32, go_sem, y0, y1]) rfl ⟨_, _, by rw [H1.out], ?_, HB9.out⟩
        rw [H1.out]; exact HF.out

end Go.Proofs.Ytjkjfjpajmjglaa
