/-
  CONTRACTS: the templates and instances that the reference draws.
-/
import Derived.Test.YtllenfkbfeanmaaGreatDrawFa
namespace Go.Proofs.YtllenfkbfeanmaaGreat
open Go.RowKit Go.Shelf Go.IntWalk
open Rep (Rd Own sz)
set_option linter.unusedSimpArgs false
set_option linter.unusedVariables false

/-- The cells of a literal, and the blocks of what stands in them. -/
def LitR {α : Type} [Rep α] (w : World) (cells : List Value) (xs : List α) (ps : List Nat) : Prop :=
  ∃ pss : List (List Nat), ps = List.flatten pss ∧ pss.length = xs.length ∧ cells.length = xs.length * sz α ∧ ∀ i (hi : i < xs.length), ∃ p vs, pss[i]? = some p ∧ Own p w vs xs[i] ∧ ∀ k, k < vs.length → cells[i * sz α + k]? = vs[k]?
theorem lit_nil {α : Type} [Rep α] {w : World} : LitR (α := α) w [] [] [] := ⟨[], rfl, rfl, by simp, fun i hi => absurd hi (Nat.not_lt_zero _)⟩
theorem lit_cons {α : Type} [Rep α] {w : World} {p ps : List Nat} {vs cells : List Value} {x : α} {xs : List α} (h : Own p w vs x) (t : LitR w cells xs ps) : LitR w (vs ++ cells) (x :: xs) (p ++ ps) := by
  obtain ⟨pss, rfl, h1, h2, h3⟩ := t
  have hv := Rep.rd_len (Rep.own_rd h)
  refine ⟨p :: pss, by simp, by simp [h1], by simp [hv, h2, Nat.add_mul]; omega, fun i hi => ?_⟩
  cases i with
  | zero => exact ⟨p, vs, rfl, h, fun k hk => by simp [List.getElem?_append_left hk]⟩
  | succ i =>
    obtain ⟨q, us, g1, g2, g3⟩ := h3 i (by simpa using hi)
    refine ⟨q, us, by simpa using g1, by simpa using g2, fun k hk => ?_⟩
    rw [← g3 k hk, List.getElem?_append_right (by rw [Nat.add_mul]; omega)]
    congr 1
    rw [Nat.add_mul]; omega
theorem lit_done {α : Type} [Rep α] {w : World} {g : Nat} {cells : List Value} {cur : Array Value} {xs : List α} {ps : List Nat} {ty : TypeId} (t : LitR w cells xs ps) (h : w.heap[g]? = some (.cells cur ty (0, 0))) (hc : cur.toList = cells) (hm : xs.length ≤ 1000) : Own (g :: ps) w [.slice (some ⟨g, 0, none⟩) xs.length xs.length] xs := by
  obtain ⟨pss, rfl, h1, h2, h3⟩ := t
  subst hc
  refine ⟨_, rfl, .inr ⟨g, 0, xs.length, cur, ty, pss, rfl, Nat.le_refl _, by unfold maxLen; omega, h, rfl, h1, fun i hi => ?_⟩⟩
  obtain ⟨p, vs, g1, g2, g3⟩ := h3 i hi
  exact ⟨p, vs, g1, g2, fun k hk => by rw [← g3 k hk, Nat.zero_add]; simp⟩
theorem lit_int {w : World} {n : Int} (h : I64 n) : Own [] w [.int .i64 n] n := ⟨rfl, rfl, h⟩
theorem lit_rel {β : Type} [Rep β] {w : World} {ps : List Nat} {n : Int} {v : Value} {y : β} (h : I64 n) (h2 : Own ps w [v] y) : Own ps w [.int .i64 n, v] (n, y) := mk_own (p := []) ⟨rfl, rfl, h⟩ h2
theorem fresh_ilit4 {w : World} {g lo : Nat} {a b c d : Int} {ty : TypeId} (h : w.heap[g]? = some (.cells #[.int .i64 a, .int .i64 b, .int .i64 c, .int .i64 d] ty (0, 0))) (hlo : lo ≤ g) (ha : I64 a) (hb : I64 b) (hc : I64 c) (hd : I64 d) : Fresh lo w [.slice (some ⟨g, 0, none⟩) 4 4] [a, b, c, d] :=
  ⟨_, lit_done (lit_cons (lit_int ha) (lit_cons (lit_int hb) (lit_cons (lit_int hc) (lit_cons (lit_int hd) lit_nil)))) h rfl (by simp), by simp, by simpa using hlo⟩
theorem tups_take {size ar : Int} {l : List (List Int)} (h : tupsOk size ar l = true) (n : Nat) : tupsOk size ar (l.take n) = true := by
  refine tupsOk_of (fun j hj => ?_)
  rw [List.length_take] at hj
  have := tupsOk_get h j (by omega)
  unfold tupAt at this ⊢
  have e1 : ∀ i, i < n → (l.take n).getD i [] = l.getD i [] := fun i hi => by simp [List.getD, List.getElem?_take_of_lt hi]
  rw [e1 j (by omega), e1 (j - 1) (by omega)]
  exact this
theorem relOk_take {size ar : Int} {l : List (List Int)} (h : relOk size (ar, l) = true) (n : Nat) : relOk size (ar, l.take n) = true := by
  unfold relOk at h ⊢
  simp only [Bool.and_eq_true] at h ⊢
  exact ⟨h.1, tups_take h.2 n⟩
theorem tmplOk_of {size : Int} {l : List RelT} (hs : 1 ≤ size ∧ size ≤ 4) (hl : l.length ≤ 6) (h : ∀ r, r ∈ l → relOk size r = true) : tmplOk (size, l) = true := by
  simp only [tmplOk, Bool.and_eq_true, decide_eq_true_eq, List.all_eq_true]
  exact ⟨⟨inB_mk hs, hl⟩, h⟩
theorem ip_relD {A : Nat → Prop} {w : World} {v : Value} {k : Int} {T : List (List Int)} (hk : I64 k) (h : Ip A w [v] T) : Ip A w [.int .i64 k, v] ((k, T) : RelT) := by
  obtain ⟨ps, h1, h2, h3⟩ := h
  exact ⟨ps, lit_rel hk h1, h2, h3⟩
set_option maxRecDepth 100000 in
set_option maxHeartbeats 16000000 in
theorem l04Small_c (L B b k : Nat) (w : World) (h : Src L B w b k) (hB : B ≤ w.heap.size) (hk : k ≤ 700000000) :
    Calls Tryz.prog 137 #[.pointer (some ⟨b, 0, none⟩)] w fun e w' => ∃ (size : Int) (v : Value), e = .returned (.agg #[.int .i64 size, v]) ∧ ∃ l : List RelT, Fresh w.heap.size w' [.int .i64 size, v] ((size, l) : Tmpl) ∧ tmplOk (size, l) = true ∧ Src L B w' b (k + 10000) ∧ But [b] w w' := by
  have hbw := h.lt
  have HSR := Lib.hid h
  have HBT := Lib.hid (But.refl [b] w)
  clear h
  have hs1 := (St.start w).alloc #[.int .i64 0, .slice none 0 0] 26 (n := w.heap.size) (by simp)
  have HSR_2 := Lib.hid (Src.mono HSR.out (belowA _ (.cells #[.int .i64 0, .slice none 0 0] 26)))
  clear HSR
  have k0_0 := hs1.cellAt 0 rfl 0 rfl
  have k0_1 := hs1.cellAt 0 rfl 1 rfl
  go_enter Tryz.func137, Tryz.ntmps137
  go_wp2_with fail
  have hs3 := hs1.alloc #[.int .i64 2, .int .i64 2, .int .i64 2, .int .i64 3] 2 (n := w.heap.size + 1) (by simp)
  have HSR_4 := Lib.hid (Src.mono HSR_2.out (belowA _ (.cells #[.int .i64 2, .int .i64 2, .int .i64 2, .int .i64 3] 2)))
  clear HSR_2
  clear k0_0 k0_1
  have k0_0 := hs3.cellAt 0 rfl 0 rfl
  have k0_1 := hs3.cellAt 0 rfl 1 rfl
  have k1_0 := hs3.cellAt 1 rfl 0 rfl
  have k1_1 := hs3.cellAt 1 rfl 1 rfl
  have k1_2 := hs3.cellAt 1 rfl 2 rfl
  have k1_3 := hs3.cellAt 1 rfl 3 rfl
  have HLI := Lib.hid (fresh_ilit4 (lo := w.heap.size) (hs3.box _ (by simp; right; rfl)).2.2 (by simp) ⟨by decide, by decide⟩ ⟨by decide, by decide⟩ ⟨by decide, by decide⟩ ⟨by decide, by decide⟩)
  go_wp2_with fail
  refine (among_c [2, 2, 2, 3] _ w.heap.size L B b k _ HSR_4.out (by omega) (Fresh.mono HLI.out (Below.refl _ _)) hbw (by simp) (by simp)).mono ?_
  rintro e w5 ⟨SZ, rfl, hsz, hrw5, hbw5⟩
  obtain ⟨wz6, hs7, hz_wz6, hy_wz6, hc_wz6⟩ := hs3.cut hbw5 (by intro k hk; simp only [List.mem_singleton] at hk; omega)
  have hz_w5 : w.heap.size + 1 + 1 ≤ w5.heap.size := by have h9 := hbw5.size; (try simp at h9); omega
  have HSR_8 := Lib.hid hrw5
  clear HSR_4
  have HBT_9 := Lib.hid (HBT.out.trans hc_wz6)
  clear HBT
  clear hrw5 hc_wz6
  clear k0_0 k0_1 k1_0 k1_1 k1_2 k1_3
  have k0_0 := hs7.cellAt 0 rfl 0 rfl
  have k0_1 := hs7.cellAt 0 rfl 1 rfl
  have k1_0 := hs7.cellAt 1 rfl 0 rfl
  have k1_1 := hs7.cellAt 1 rfl 1 rfl
  have k1_2 := hs7.cellAt 1 rfl 2 rfl
  have k1_3 := hs7.cellAt 1 rfl 3 rfl
  have hs4 : 1 ≤ SZ ∧ SZ ≤ 4 := by simp at hsz; omega
  clear hsz
  have hs10 := hs7.low (B' := w.heap.size + 1) (bx' := [(w.heap.size, #[.int .i64 0, .slice none 0 0], 26)]) (by omega) (by (try simp) <;> omega) (fun x hx => by simp only [List.mem_cons, List.not_mem_nil, or_false] at hx; rcases hx with rfl <;> (refine ⟨?_, ?_⟩ <;> (try simp) <;> (try omega)))
  have hs11 := hs10.alloc #[.int .i64 SZ, .slice none 0 0] 26 (n := w5.heap.size) (by simp)
  have HSR_12 := Lib.hid (Src.mono HSR_8.out (belowA _ (.cells #[.int .i64 SZ, .slice none 0 0] 26)))
  clear HSR_8
  clear k0_0 k0_1 k1_0 k1_1 k1_2 k1_3
  have k0_0 := hs11.cellAt 0 rfl 0 rfl
  have k0_1 := hs11.cellAt 0 rfl 1 rfl
  have k1_0 := hs11.cellAt 1 rfl 0 rfl
  have k1_1 := hs11.cellAt 1 rfl 1 rfl
  go_wp2_with fail
  refine (pick_c 2 L B b (k + 1) _ HSR_12.out (by omega) (by omega) (by omega)).mono ?_
  rintro e w13 ⟨r2, rfl, hr4, hr5, hrw13, hbw13⟩
  obtain ⟨wz14, hs15, hz_wz14, hy_wz14, hc_wz14⟩ := hs11.cut hbw13 (by intro k hk; simp only [List.mem_singleton] at hk; omega)
  have hz_w13 : w5.heap.size + 1 ≤ w13.heap.size := by have h9 := hbw13.size; (try simp at h9); omega
  have HSR_16 := Lib.hid hrw13
  clear HSR_12
  have HBT_17 := Lib.hid (HBT_9.out.trans hc_wz14)
  clear HBT_9
  clear hrw13 hc_wz14
  clear k0_0 k0_1 k1_0 k1_1
  have k0_0 := hs15.cellAt 0 rfl 0 rfl
  have k0_1 := hs15.cellAt 0 rfl 1 rfl
  have k1_0 := hs15.cellAt 1 rfl 0 rfl
  have k1_1 := hs15.cellAt 1 rfl 1 rfl
  obtain ⟨K, hK⟩ : ∃ K : Nat, 1 + r2 = (K : Int) := ⟨(1 + r2).toNat, by omega⟩
  have hw9 : IntKind.i64.wrap (1 + r2) = (K : Int) := by rw [hK]; exact i64_in _ (by omega)
  have hK2 : K ≤ 2 := by omega
  go_wp2_with fail
  clear hw9
  have HST := Lib.hid hs15
  have HSR9 := Lib.hid HSR_16.out
  have HBT9 := Lib.hid HBT_17.out
  have hzz : w.heap.size + 1 ≤ w5.heap.size := by omega
  obtain ⟨OA, hOA⟩ : ∃ z, z = w5.heap.size := ⟨_, rfl⟩
  rw [← hOA] at HST hzz ⊢
  clear hOA
  go_loopw [4] (fun i wl => ∃ (m n : Nat) (wz : World) (a : Option Addr) (c : Nat) (l : List RelT), m + n = K ∧ i = .int .i64 n ∧ Hid (l.length = m ∧ ∀ r, r ∈ l → relOk SZ r = true) ∧ Hid (w.heap.size ≤ wz.heap.size ∧ But [b] w wz) ∧ Hid (St wz (OA + 1) wl [(w.heap.size, #[.int .i64 0, .slice none 0 0], 26), (OA, #[.int .i64 SZ, .slice a m c], 26)]) ∧ Hid (AccP (fun z => OA + 1 ≤ z ∧ z < wl.heap.size) 50 wl (.slice a m c) l) ∧ Hid (Src L B wl b (k + 2 + 2000 * m))) (fun i _ => (intOf i).toNat)
  case atStart => exact ⟨0, K, wz14, none, 0, [], by omega, rfl, ⟨rfl, fun e he => by cases he⟩, ⟨by omega, HBT9.out⟩, HST.out, AccP.nil _ _ _, HSR9.out⟩
  case round =>
    clear HST HSR9 HBT9 HLI
    obtain ⟨m, n, wz, a, c, l, hmn, rfl, hl, hwz, hst, hac, hsr⟩ := hrel
    have HAC := hac
    have HSR := hsr
    have hwz1 := hwz.out.1
    have HBT := Lib.hid hwz.out.2
    have hs0 := hst.out
    have hszr := hst.out.hi
    have hlo0 := hst.out.lo
    have HLN := Lib.hid hl.out.1
    clear hac hsr
    have k0_0 := hs0.cellAt 0 rfl 0 rfl
    have k0_1 := hs0.cellAt 0 rfl 1 rfl
    have k1_0 := hs0.cellAt 1 rfl 0 rfl
    have k1_1 := hs0.cellAt 1 rfl 1 rfl
    by_cases hlt : 0 < n
    · have hltI : (0 : Int) < n := by omega
      have hdn : IntKind.i64.wrap ((n : Int) - 1) = ((n - 1 : Nat) : Int) := by rw [i64_in _ (by omega)]; omega
      go_upto_region 5 with fail
      refine wp_region_noPanic (wp_region_tree4 (fun w' => w'.cell? ⟨w.heap.size, 0, none⟩ = some (.int .i64 0) ∧ w'.cell? ⟨w.heap.size, 1, none⟩ = some (.slice none 0 0) ∧ w'.cell? ⟨OA, 0, none⟩ = some (.int .i64 SZ) ∧ w'.cell? ⟨OA, 1, none⟩ = some (.slice a m c)) (.float 0 (.float 1 (.float 2 (.float 3 (.fork2 4 (.float 5 (.fork2 6 (.hard 7 (.last 8 .nil)) 7 (.hard 6 (.last 8 .nil)))) 7 (.hard 4 (.float 5 (.hard 6 (.last 8 .nil))))))))) (by kernel_rfl) (by kernel_rfl) (by kernel_rfl) rfl ?_ (fun _ _ _ _ _ h => h) ?_)
      · exact ⟨(hs0.drew).cellAt 0 rfl 0 rfl, (hs0.drew).cellAt 0 rfl 1 rfl, (hs0.drew).cellAt 1 rfl 0 rfl, (hs0.drew).cellAt 1 rfl 1 rfl⟩
      have hs18 := hs0.drew
      have HAC_19 := Lib.hid (AccP.mono HAC.out (belowD _))
      clear HAC
      have HSR_20 := Lib.hid (Src.mono HSR.out (belowD _))
      clear HSR
      clear k0_0 k0_1 k1_0 k1_1
      have hz_wd21 : wr.heap.size ≤ (wr.drew).heap.size := by simp
      generalize hgen_wd21 : wr.drew = wd21 at *
      have HG_wd21 := Lib.hid hgen_wd21
      clear hgen_wd21
      (repeat (first | (apply t4_skip rfl (by rfl); try simp only [Act.put, List.setIfInBounds_toArray, List.set_cons_zero, List.set_cons_succ]) | (apply t4_float rfl (by rfl); (· (intro w' hS; go_simp <;> with_reducible rfl)); (try simp only [Act.put, List.setIfInBounds_toArray, List.set_cons_zero, List.set_cons_succ]))))
      refine t4_fork2 ?_ ?_
      · refine t4_hard rfl (by rfl) (fun K hK => ?_)
        go_wp2_with (go_at_call 34; refine (pick_c 2 L B b (k + 2 + 2000 * m) _ HSR_20.out (by omega) (by omega) (by omega)).mono ?_; rintro e w22 ⟨r9, rfl, h90, h91, hrw22, hbw22⟩)
        obtain ⟨wz23, hs24, hz_wz23, hy_wz23, hc_wz23⟩ := hs18.cut hbw22 (by intro k hk; simp only [List.mem_singleton] at hk; omega)
        have hz_w22 : wd21.heap.size ≤ w22.heap.size := by have h9 := hbw22.size; (try simp at h9); omega
        have HAC_25 := Lib.hid (AccP.butL HAC_19.out hbw22 (by intro k hk; simp only [List.mem_singleton] at hk; omega))
        clear HAC_19
        have HSR_26 := Lib.hid hrw22
        clear HSR_20
        have HBT_27 := Lib.hid (HBT.out.trans hc_wz23)
        clear HBT
        clear hrw22 hc_wz23
        obtain ⟨M, hM⟩ : ∃ M : Nat, 1 + r9 = (M : Int) := ⟨(1 + r9).toNat, by omega⟩
        have hw9 : IntKind.i64.wrap (M : Int) = (M : Int) := i64_in _ (by omega)
        have hM2 : 1 ≤ M ∧ M ≤ 4 := by omega
        refine ⟨⟨hs24.cellAt 0 rfl 0 rfl, hs24.cellAt 0 rfl 1 rfl, hs24.cellAt 1 rfl 0 rfl, hs24.cellAt 1 rfl 1 rfl⟩, ?_⟩
        (repeat (first | (apply t4_skip rfl (by rfl); try simp only [Act.put, List.setIfInBounds_toArray, List.set_cons_zero, List.set_cons_succ]) | (apply t4_float rfl (by rfl); (· (intro w' hS; go_simp <;> with_reducible rfl)); (try simp only [Act.put, List.setIfInBounds_toArray, List.set_cons_zero, List.set_cons_succ]))))
        refine t4_fork2 ?_ ?_
        · refine t4_hard rfl (by rfl) (fun K hK => ?_)
          go_wp2_with (go_at_call 178; refine (l01Drawn_c SZ M L B b (k + 2 + 2000 * m + 1) _ HSR_26.out (by (try simp); omega) (by omega) hs4 hM2).mono ?_; rintro e w28 ⟨v9, rfl, l9, fr9, ok9, hrw28, hbw28⟩)
          obtain ⟨wz29, hs30, hz_wz29, hy_wz29, hc_wz29⟩ := hs24.cut hbw28 (by intro k hk; simp only [List.mem_singleton] at hk; omega)
          have hz_w28 : w22.heap.size ≤ w28.heap.size := by have h9 := hbw28.size; (try simp at h9); omega
          have HAC_31 := Lib.hid (AccP.butL HAC_25.out hbw28 (by intro k hk; simp only [List.mem_singleton] at hk; omega))
          clear HAC_25
          have HSR_32 := Lib.hid hrw28
          clear HSR_26
          have HBT_33 := Lib.hid (HBT_27.out.trans hc_wz29)
          clear HBT_27
          clear hrw28 hc_wz29
          have hf9 : Fresh _ _ [v9] l9 := fresh_snd rfl fr9
          obtain ⟨a9, c9, rfl, hsl9⟩ := rd_list hf9.rd
          have HIP9 := Lib.hid hf9.ip
          clear hf9
          have hcp9 := hsl9.1
          have HOK9 := Lib.hid ok9
          clear fr9 hsl9 ok9
          refine ⟨⟨hs30.cellAt 0 rfl 0 rfl, hs30.cellAt 0 rfl 1 rfl, hs30.cellAt 1 rfl 0 rfl, hs30.cellAt 1 rfl 1 rfl⟩, ?_⟩
          (repeat (first | (apply t4_skip rfl (by rfl); try simp only [Act.put, List.setIfInBounds_toArray, List.set_cons_zero, List.set_cons_succ]) | (apply t4_float rfl (by rfl); (· (intro w' hS; go_simp <;> with_reducible rfl)); (try simp only [Act.put, List.setIfInBounds_toArray, List.set_cons_zero, List.set_cons_succ]))))
          refine t4_hard rfl (by rfl) (fun K hK => ?_)
          go_wp2_with fail
          have hs34 := hs30.alloc #[.int .i64 0, .slice none 0 0] 50 (n := w28.heap.size) (by simp)
          have HAC_35 := Lib.hid (AccP.mono HAC_31.out (belowA _ (.cells #[.int .i64 0, .slice none 0 0] 50)))
          clear HAC_31
          have HSR_36 := Lib.hid (Src.mono HSR_32.out (belowA _ (.cells #[.int .i64 0, .slice none 0 0] 50)))
          clear HSR_32
          have HIP9_37 := Lib.hid (Ip.mono HIP9.out (belowA _ (.cells #[.int .i64 0, .slice none 0 0] 50)))
          clear HIP9
          have hz_wA : w28.heap.size + 1 ≤ ((w28.alloc (.cells #[.int .i64 0, .slice none 0 0] 50))).heap.size := by simp
          generalize hgen_wA : (w28.alloc (.cells #[.int .i64 0, .slice none 0 0] 50)) = wA at *
          clear hgen_wA
          refine ⟨⟨hs34.cellAt 0 rfl 0 rfl, hs34.cellAt 0 rfl 1 rfl, hs34.cellAt 1 rfl 0 rfl, hs34.cellAt 1 rfl 1 rfl⟩, ?_⟩
          (repeat (first | (apply t4_skip rfl (by rfl); try simp only [Act.put, List.setIfInBounds_toArray, List.set_cons_zero, List.set_cons_succ]) | (apply t4_float rfl (by rfl); (· (intro w' hS; go_simp <;> with_reducible rfl)); (try simp only [Act.put, List.setIfInBounds_toArray, List.set_cons_zero, List.set_cons_succ]))))
          refine t4_last rfl (by rfl) (fun K hK => ?_)
          have k0_0 := hs34.cellAt 0 rfl 0 rfl
          have k0_1 := hs34.cellAt 0 rfl 1 rfl
          have k1_0 := hs34.cellAt 1 rfl 0 rfl
          have k1_1 := hs34.cellAt 1 rfl 1 rfl
          have k2_0 := hs34.cellAt 2 rfl 0 rfl
          have k2_1 := hs34.cellAt 2 rfl 1 rfl
          have f2_0 := hs34.freeAt 2 rfl 0
          have f2_1 := hs34.freeAt 2 rfl 1
          go_wp2_with fail
          refine t4_nil (NoPanic.normal ?_)
          have hs38 := hs34.set (p := [_, _]) (by simp <;> omega) 0 (.int .i64 M)
          have hs39 := hs38.set (p := [_, _]) (by simp <;> omega) 1 (.slice a9 l9.length c9)
          have HAC_40 := Lib.hid (AccP.setCell (b := w28.heap.size) (o := 1) (AccP.setCell (b := w28.heap.size) (o := 0) HAC_35.out (.int .i64 M) (by intro hA9; (try simp only at hA9); omega)) (.slice a9 l9.length c9) (by intro hA9; (try simp only at hA9); omega))
          clear HAC_35
          have HSR_41 := Lib.hid (Src.below (B := B) (Src.below (B := B) HSR_36.out ((Below.refl B _).setCell (p := ⟨w28.heap.size, 0, none⟩) (by (try simp) <;> omega) (.int .i64 M))) ((Below.refl B _).setCell (p := ⟨w28.heap.size, 1, none⟩) (by (try simp) <;> omega) (.slice a9 l9.length c9)))
          clear HSR_36
          have HIP9_42 := Lib.hid (Ip.setCell (b := w28.heap.size) (o := 1) (Ip.setCell (b := w28.heap.size) (o := 0) HIP9_37.out (.int .i64 M) (by intro hA9; (try simp only at hA9); omega)) (.slice a9 l9.length c9) (by intro hA9; (try simp only at hA9); omega))
          clear HIP9_37
          clear k0_0 k0_1 k1_0 k1_1 k2_0 k2_1
          have hz_wE : wA.heap.size ≤ (((wA.setCell ⟨w28.heap.size, 0, none⟩ (.int .i64 M)).setCell ⟨w28.heap.size, 1, none⟩ (.slice a9 l9.length c9))).heap.size := by simp [World.setCell]
          generalize hgen_wE : ((wA.setCell ⟨w28.heap.size, 0, none⟩ (.int .i64 M)).setCell ⟨w28.heap.size, 1, none⟩ (.slice a9 l9.length c9)) = wE at *
          clear hgen_wE
          have k0_0 := hs39.cellAt 0 rfl 0 rfl
          have k0_1 := hs39.cellAt 0 rfl 1 rfl
          have k1_0 := hs39.cellAt 1 rfl 0 rfl
          have k1_1 := hs39.cellAt 1 rfl 1 rfl
          have k2_0 := hs39.cellAt 2 rfl 0 rfl
          have k2_1 := hs39.cellAt 2 rfl 1 rfl
          by_cases h4 : 4 < l9.length
          · have h4I : (4 : Int) < l9.length := by omega
            have hc4 : (4 : Int) ≤ c9 := by omega
            have HIPT := Lib.hid (ip_takeD HIP9_42.out 4 (by omega) (by omega))
            clear HIP9_42
            have f2_0 := hs39.freeAt 2 rfl 0
            have f2_1 := hs39.freeAt 2 rfl 1
            go_upto_region 8 with fail
            have hs43 := hs39.set (p := [_, _]) (by simp <;> omega) 1 (.slice a9 4 c9)
            have HAC_44 := Lib.hid (AccP.setCell (b := w28.heap.size) (o := 1) HAC_40.out (.slice a9 4 c9) (by intro hA9; (try simp only at hA9); omega))
            clear HAC_40
            have HSR_45 := Lib.hid (Src.below (B := B) HSR_41.out ((Below.refl B _).setCell (p := ⟨w28.heap.size, 1, none⟩) (by (try simp) <;> omega) (.slice a9 4 c9)))
            clear HSR_41
            have HIPT_46 := Lib.hid (Ip.setCell (b := w28.heap.size) (o := 1) HIPT.out (.slice a9 4 c9) (by intro hA9; (try simp only at hA9); omega))
            clear HIPT
            clear k0_0 k0_1 k1_0 k1_1 k2_0 k2_1
            have hz_wF : wE.heap.size ≤ ((wE.setCell ⟨w28.heap.size, 1, none⟩ (.slice a9 4 c9))).heap.size := by simp [World.setCell]
            generalize hgen_wF : (wE.setCell ⟨w28.heap.size, 1, none⟩ (.slice a9 4 c9)) = wF at *
            clear hgen_wF
            have k0_0 := hs43.cellAt 0 rfl 0 rfl
            have k0_1 := hs43.cellAt 0 rfl 1 rfl
            have k1_0 := hs43.cellAt 1 rfl 0 rfl
            have k1_1 := hs43.cellAt 1 rfl 1 rfl
            have k2_0 := hs43.cellAt 2 rfl 0 rfl
            have k2_1 := hs43.cellAt 2 rfl 1 rfl
            have HIP9 := Lib.hid HIPT_46.out
            clear HIPT_46
            have HIR := Lib.hid (ip_relD (k := (M : Int)) ⟨by omega, by omega⟩ HIP9.out)
            have hlnw := HLN.out
            have q9 := (hs43.cellAt 1 rfl 1 rfl)
            have hb9 := belowA wF (.cells #[.int .i64 M, .slice a9 4 c9] 50)
            have HS9 := Lib.hid (hs43.step hb9)
            have HR9 := Lib.hid (HSR_45.out.below (hb9.mono (by omega)))
            have HSZ9 := Lib.hid (show (wF.alloc (.cells #[.int .i64 M, .slice a9 4 c9] 50)).heap.size = wF.heap.size + 1 by simp)
            go_wp2_with (at_builtin; refine wpList_append_accP _ rfl _ _ _ rfl E_rels rfl (AccP.mono HAC_44.out (belowA _ _)) (Ip.mono HIR.out (belowA _ _)) (fun z h1 h2 => by (try simp only at h1 h2); omega) ⟨wF.heap.size, 0, none⟩ 1 rfl (news2 (cell_at_block (heap_alloc_new _ _)) (cell_at_block (heap_alloc_new _ _))) (by omega) ?_; simp only [HLN.out]; intro a8 c8 w8 hA8 hB8; have hs8 := HS9.out.butP hB8 (fun z hz => by have := hz.1; omega) (fun x hx hA => by have h1 := hA.1; have h2 := hA.2; simp at hx; rcases hx with rfl | rfl | rfl <;> (try simp only at h1 h2) <;> omega); have q2 := hs8.cellAt 1 rfl 1 rfl; have f2 := hs8.freeAt 1 rfl 1)
            have hz8 := hB8.size
            have hz9 : wF.heap.size < w8.heap.size := by have := HSZ9.out; omega
            have hs7 := hs8.low (B' := OA + 1) (bx' := [(w.heap.size, #[.int .i64 0, .slice none 0 0], 26), (OA, #[.int .i64 SZ, .slice a m c], 26)]) (by omega) (by omega) (fun x hx => ⟨by simp at hx ⊢; rcases hx with rfl | rfl <;> simp, by simp at hx; rcases hx with rfl | rfl <;> (try simp only) <;> omega⟩)
            have HQ8 := Lib.hid (hs7.set (p := [_]) (by simp <;> omega) 1 (.slice a8 (m + 1) c8))
            have HA9 := Lib.hid ((AccP.setCell (b := OA) (o := 1) hA8.tight (.slice a8 (m + 1) c8) (by intro hA9; have h1 := hA9.1; (try simp at h1); omega)).wk (C := fun z => OA + 1 ≤ z ∧ z < w8.heap.size) (fun z hz => by
              have h2 := hz.2
              have h3 := HSZ9.out
              rcases hz.1 with h | h | h
              · (try simp only at h); omega
              · (try simp only at h); omega
              · rw [h] at h2 ⊢; omega))
            have HR8 := Lib.hid ((HR9.out.below (hB8.below (fun z hz => by have := hz.1; omega) (by have := HSZ9.out; omega))).below ((Below.refl B w8).setCell (p := ⟨OA, 1, none⟩) (by (try simp); omega) (.slice a8 (m + 1) c8)))
            have HSZ := Lib.hid (show (w8.setCell ⟨OA, 1, none⟩ (.slice a8 (m + 1) c8)).heap.size = w8.heap.size by simp [World.setCell])
            go_wp2_with fail
            go_roundw
            case measure => simp [intOf]; omega
            refine ⟨m + 1, n - 1, wz29, a8, c8, l ++ [((M : Int), l9.take 4)], by omega, rfl, ⟨by simp [hlnw], fun e he => ?_⟩, ⟨by omega, HBT_33.out⟩, HQ8.out, ?_, HR8.out.more (by omega)⟩
            · rcases List.mem_append.1 he with he | he
              · exact hl.out.2 e he
              · simp only [List.mem_singleton] at he; subst he; exact relOk_take HOK9.out 4
            · exact HA9.out.wk (fun z hz => by rw [HSZ.out]; exact hz)
          · have h4I : ¬ (4 : Int) < l9.length := by omega
            go_upto_region 8 with fail
            have HIR := Lib.hid (ip_relD (k := (M : Int)) ⟨by omega, by omega⟩ HIP9_42.out)
            have hlnw := HLN.out
            have q9 := (hs39.cellAt 1 rfl 1 rfl)
            have hb9 := belowA wE (.cells #[.int .i64 M, .slice a9 l9.length c9] 50)
            have HS9 := Lib.hid (hs39.step hb9)
            have HR9 := Lib.hid (HSR_41.out.below (hb9.mono (by omega)))
            have HSZ9 := Lib.hid (show (wE.alloc (.cells #[.int .i64 M, .slice a9 l9.length c9] 50)).heap.size = wE.heap.size + 1 by simp)
            go_wp2_with (at_builtin; refine wpList_append_accP _ rfl _ _ _ rfl E_rels rfl (AccP.mono HAC_40.out (belowA _ _)) (Ip.mono HIR.out (belowA _ _)) (fun z h1 h2 => by (try simp only at h1 h2); omega) ⟨wE.heap.size, 0, none⟩ 1 rfl (news2 (cell_at_block (heap_alloc_new _ _)) (cell_at_block (heap_alloc_new _ _))) (by omega) ?_; simp only [HLN.out]; intro a8 c8 w8 hA8 hB8; have hs8 := HS9.out.butP hB8 (fun z hz => by have := hz.1; omega) (fun x hx hA => by have h1 := hA.1; have h2 := hA.2; simp at hx; rcases hx with rfl | rfl | rfl <;> (try simp only at h1 h2) <;> omega); have q2 := hs8.cellAt 1 rfl 1 rfl; have f2 := hs8.freeAt 1 rfl 1)
            have hz8 := hB8.size
            have hz9 : wE.heap.size < w8.heap.size := by have := HSZ9.out; omega
            have hs7 := hs8.low (B' := OA + 1) (bx' := [(w.heap.size, #[.int .i64 0, .slice none 0 0], 26), (OA, #[.int .i64 SZ, .slice a m c], 26)]) (by omega) (by omega) (fun x hx => ⟨by simp at hx ⊢; rcases hx with rfl | rfl <;> simp, by simp at hx; rcases hx with rfl | rfl <;> (try simp only) <;> omega⟩)
            have HQ8 := Lib.hid (hs7.set (p := [_]) (by simp <;> omega) 1 (.slice a8 (m + 1) c8))
            have HA9 := Lib.hid ((AccP.setCell (b := OA) (o := 1) hA8.tight (.slice a8 (m + 1) c8) (by intro hA9; have h1 := hA9.1; (try simp at h1); omega)).wk (C := fun z => OA + 1 ≤ z ∧ z < w8.heap.size) (fun z hz => by
              have h2 := hz.2
              have h3 := HSZ9.out
              rcases hz.1 with h | h | h
              · (try simp only at h); omega
              · (try simp only at h); omega
              · rw [h] at h2 ⊢; omega))
            have HR8 := Lib.hid ((HR9.out.below (hB8.below (fun z hz => by have := hz.1; omega) (by have := HSZ9.out; omega))).below ((Below.refl B w8).setCell (p := ⟨OA, 1, none⟩) (by (try simp); omega) (.slice a8 (m + 1) c8)))
            have HSZ := Lib.hid (show (w8.setCell ⟨OA, 1, none⟩ (.slice a8 (m + 1) c8)).heap.size = w8.heap.size by simp [World.setCell])
            go_wp2_with fail
            go_roundw
            case measure => simp [intOf]; omega
            refine ⟨m + 1, n - 1, wz29, a8, c8, l ++ [((M : Int), l9)], by omega, rfl, ⟨by simp [hlnw], fun e he => ?_⟩, ⟨by omega, HBT_33.out⟩, HQ8.out, ?_, HR8.out.more (by omega)⟩
            · rcases List.mem_append.1 he with he | he
              · exact hl.out.2 e he
              · simp only [List.mem_singleton] at he; subst he; exact HOK9.out
            · exact HA9.out.wk (fun z hz => by rw [HSZ.out]; exact hz)
        · refine t4_hard rfl (by rfl) (fun K hK => ?_)
          go_wp2_with fail
          have hs47 := hs24.alloc #[.int .i64 0, .slice none 0 0] 50 (n := w22.heap.size) (by simp)
          have HAC_48 := Lib.hid (AccP.mono HAC_25.out (belowA _ (.cells #[.int .i64 0, .slice none 0 0] 50)))
          clear HAC_25
          have HSR_49 := Lib.hid (Src.mono HSR_26.out (belowA _ (.cells #[.int .i64 0, .slice none 0 0] 50)))
          clear HSR_26
          have hz_wA : w22.heap.size + 1 ≤ ((w22.alloc (.cells #[.int .i64 0, .slice none 0 0] 50))).heap.size := by simp
          generalize hgen_wA : (w22.alloc (.cells #[.int .i64 0, .slice none 0 0] 50)) = wA at *
          clear hgen_wA
          refine ⟨⟨hs47.cellAt 0 rfl 0 rfl, hs47.cellAt 0 rfl 1 rfl, hs47.cellAt 1 rfl 0 rfl, hs47.cellAt 1 rfl 1 rfl⟩, ?_⟩
          (repeat (first | (apply t4_skip rfl (by rfl); try simp only [Act.put, List.setIfInBounds_toArray, List.set_cons_zero, List.set_cons_succ]) | (apply t4_float rfl (by rfl); (· (intro w' hS; go_simp <;> with_reducible rfl)); (try simp only [Act.put, List.setIfInBounds_toArray, List.set_cons_zero, List.set_cons_succ]))))
          refine t4_hard rfl (by rfl) (fun K hK => ?_)
          go_wp2_with (go_at_call 178; refine (l01Drawn_c SZ M L B b (k + 2 + 2000 * m + 1) _ HSR_49.out (by (try simp); omega) (by omega) hs4 hM2).mono ?_; rintro e w50 ⟨v9, rfl, l9, fr9, ok9, hrw50, hbw50⟩)
          obtain ⟨wz51, hs52, hz_wz51, hy_wz51, hc_wz51⟩ := hs47.cut hbw50 (by intro k hk; simp only [List.mem_singleton] at hk; omega)
          have hz_w50 : wA.heap.size ≤ w50.heap.size := by have h9 := hbw50.size; (try simp at h9); omega
          have HAC_53 := Lib.hid (AccP.butL HAC_48.out hbw50 (by intro k hk; simp only [List.mem_singleton] at hk; omega))
          clear HAC_48
          have HSR_54 := Lib.hid hrw50
          clear HSR_49
          have HBT_55 := Lib.hid (HBT_27.out.trans hc_wz51)
          clear HBT_27
          clear hrw50 hc_wz51
          have hf9 : Fresh _ _ [v9] l9 := fresh_snd rfl fr9
          obtain ⟨a9, c9, rfl, hsl9⟩ := rd_list hf9.rd
          have HIP9 := Lib.hid hf9.ip
          clear hf9
          have hcp9 := hsl9.1
          have HOK9 := Lib.hid ok9
          clear fr9 hsl9 ok9
          refine ⟨⟨hs52.cellAt 0 rfl 0 rfl, hs52.cellAt 0 rfl 1 rfl, hs52.cellAt 1 rfl 0 rfl, hs52.cellAt 1 rfl 1 rfl⟩, ?_⟩
          (repeat (first | (apply t4_skip rfl (by rfl); try simp only [Act.put, List.setIfInBounds_toArray, List.set_cons_zero, List.set_cons_succ]) | (apply t4_float rfl (by rfl); (· (intro w' hS; go_simp <;> with_reducible rfl)); (try simp only [Act.put, List.setIfInBounds_toArray, List.set_cons_zero, List.set_cons_succ]))))
          refine t4_last rfl (by rfl) (fun K hK => ?_)
          have k0_0 := hs52.cellAt 0 rfl 0 rfl
          have k0_1 := hs52.cellAt 0 rfl 1 rfl
          have k1_0 := hs52.cellAt 1 rfl 0 rfl
          have k1_1 := hs52.cellAt 1 rfl 1 rfl
          have k2_0 := hs52.cellAt 2 rfl 0 rfl
          have k2_1 := hs52.cellAt 2 rfl 1 rfl
          have f2_0 := hs52.freeAt 2 rfl 0
          have f2_1 := hs52.freeAt 2 rfl 1
          go_wp2_with fail
          refine t4_nil (NoPanic.normal ?_)
          have hs56 := hs52.set (p := [_, _]) (by simp <;> omega) 0 (.int .i64 M)
          have hs57 := hs56.set (p := [_, _]) (by simp <;> omega) 1 (.slice a9 l9.length c9)
          have HAC_58 := Lib.hid (AccP.setCell (b := w22.heap.size) (o := 1) (AccP.setCell (b := w22.heap.size) (o := 0) HAC_53.out (.int .i64 M) (by intro hA9; (try simp only at hA9); omega)) (.slice a9 l9.length c9) (by intro hA9; (try simp only at hA9); omega))
          clear HAC_53
          have HSR_59 := Lib.hid (Src.below (B := B) (Src.below (B := B) HSR_54.out ((Below.refl B _).setCell (p := ⟨w22.heap.size, 0, none⟩) (by (try simp) <;> omega) (.int .i64 M))) ((Below.refl B _).setCell (p := ⟨w22.heap.size, 1, none⟩) (by (try simp) <;> omega) (.slice a9 l9.length c9)))
          clear HSR_54
          have HIP9_60 := Lib.hid (Ip.setCell (b := w22.heap.size) (o := 1) (Ip.setCell (b := w22.heap.size) (o := 0) HIP9.out (.int .i64 M) (by intro hA9; (try simp only at hA9); omega)) (.slice a9 l9.length c9) (by intro hA9; (try simp only at hA9); omega))
          clear HIP9
          clear k0_0 k0_1 k1_0 k1_1 k2_0 k2_1
          have hz_wE : w50.heap.size ≤ (((w50.setCell ⟨w22.heap.size, 0, none⟩ (.int .i64 M)).setCell ⟨w22.heap.size, 1, none⟩ (.slice a9 l9.length c9))).heap.size := by simp [World.setCell]
          generalize hgen_wE : ((w50.setCell ⟨w22.heap.size, 0, none⟩ (.int .i64 M)).setCell ⟨w22.heap.size, 1, none⟩ (.slice a9 l9.length c9)) = wE at *
          clear hgen_wE
          have k0_0 := hs57.cellAt 0 rfl 0 rfl
          have k0_1 := hs57.cellAt 0 rfl 1 rfl
          have k1_0 := hs57.cellAt 1 rfl 0 rfl
          have k1_1 := hs57.cellAt 1 rfl 1 rfl
          have k2_0 := hs57.cellAt 2 rfl 0 rfl
          have k2_1 := hs57.cellAt 2 rfl 1 rfl
          by_cases h4 : 4 < l9.length
          · have h4I : (4 : Int) < l9.length := by omega
            have hc4 : (4 : Int) ≤ c9 := by omega
            have HIPT := Lib.hid (ip_takeD HIP9_60.out 4 (by omega) (by omega))
            clear HIP9_60
            have f2_0 := hs57.freeAt 2 rfl 0
            have f2_1 := hs57.freeAt 2 rfl 1
            go_upto_region 8 with fail
            have hs61 := hs57.set (p := [_, _]) (by simp <;> omega) 1 (.slice a9 4 c9)
            have HAC_62 := Lib.hid (AccP.setCell (b := w22.heap.size) (o := 1) HAC_58.out (.slice a9 4 c9) (by intro hA9; (try simp only at hA9); omega))
            clear HAC_58
            have HSR_63 := Lib.hid (Src.below (B := B) HSR_59.out ((Below.refl B _).setCell (p := ⟨w22.heap.size, 1, none⟩) (by (try simp) <;> omega) (.slice a9 4 c9)))
            clear HSR_59
            have HIPT_64 := Lib.hid (Ip.setCell (b := w22.heap.size) (o := 1) HIPT.out (.slice a9 4 c9) (by intro hA9; (try simp only at hA9); omega))
            clear HIPT
            clear k0_0 k0_1 k1_0 k1_1 k2_0 k2_1
            have hz_wF : wE.heap.size ≤ ((wE.setCell ⟨w22.heap.size, 1, none⟩ (.slice a9 4 c9))).heap.size := by simp [World.setCell]
            generalize hgen_wF : (wE.setCell ⟨w22.heap.size, 1, none⟩ (.slice a9 4 c9)) = wF at *
            clear hgen_wF
            have k0_0 := hs61.cellAt 0 rfl 0 rfl
            have k0_1 := hs61.cellAt 0 rfl 1 rfl
            have k1_0 := hs61.cellAt 1 rfl 0 rfl
            have k1_1 := hs61.cellAt 1 rfl 1 rfl
            have k2_0 := hs61.cellAt 2 rfl 0 rfl
            have k2_1 := hs61.cellAt 2 rfl 1 rfl
            have HIP9 := Lib.hid HIPT_64.out
            clear HIPT_64
            have HIR := Lib.hid (ip_relD (k := (M : Int)) ⟨by omega, by omega⟩ HIP9.out)
            have hlnw := HLN.out
            have q9 := (hs61.cellAt 1 rfl 1 rfl)
            have hb9 := belowA wF (.cells #[.int .i64 M, .slice a9 4 c9] 50)
            have HS9 := Lib.hid (hs61.step hb9)
            have HR9 := Lib.hid (HSR_63.out.below (hb9.mono (by omega)))
            have HSZ9 := Lib.hid (show (wF.alloc (.cells #[.int .i64 M, .slice a9 4 c9] 50)).heap.size = wF.heap.size + 1 by simp)
            go_wp2_with (at_builtin; refine wpList_append_accP _ rfl _ _ _ rfl E_rels rfl (AccP.mono HAC_62.out (belowA _ _)) (Ip.mono HIR.out (belowA _ _)) (fun z h1 h2 => by (try simp only at h1 h2); omega) ⟨wF.heap.size, 0, none⟩ 1 rfl (news2 (cell_at_block (heap_alloc_new _ _)) (cell_at_block (heap_alloc_new _ _))) (by omega) ?_; simp only [HLN.out]; intro a8 c8 w8 hA8 hB8; have hs8 := HS9.out.butP hB8 (fun z hz => by have := hz.1; omega) (fun x hx hA => by have h1 := hA.1; have h2 := hA.2; simp at hx; rcases hx with rfl | rfl | rfl <;> (try simp only at h1 h2) <;> omega); have q2 := hs8.cellAt 1 rfl 1 rfl; have f2 := hs8.freeAt 1 rfl 1)
            have hz8 := hB8.size
            have hz9 : wF.heap.size < w8.heap.size := by have := HSZ9.out; omega
            have hs7 := hs8.low (B' := OA + 1) (bx' := [(w.heap.size, #[.int .i64 0, .slice none 0 0], 26), (OA, #[.int .i64 SZ, .slice a m c], 26)]) (by omega) (by omega) (fun x hx => ⟨by simp at hx ⊢; rcases hx with rfl | rfl <;> simp, by simp at hx; rcases hx with rfl | rfl <;> (try simp only) <;> omega⟩)
            have HQ8 := Lib.hid (hs7.set (p := [_]) (by simp <;> omega) 1 (.slice a8 (m + 1) c8))
            have HA9 := Lib.hid ((AccP.setCell (b := OA) (o := 1) hA8.tight (.slice a8 (m + 1) c8) (by intro hA9; have h1 := hA9.1; (try simp at h1); omega)).wk (C := fun z => OA + 1 ≤ z ∧ z < w8.heap.size) (fun z hz => by
              have h2 := hz.2
              have h3 := HSZ9.out
              rcases hz.1 with h | h | h
              · (try simp only at h); omega
              · (try simp only at h); omega
              · rw [h] at h2 ⊢; omega))
            have HR8 := Lib.hid ((HR9.out.below (hB8.below (fun z hz => by have := hz.1; omega) (by have := HSZ9.out; omega))).below ((Below.refl B w8).setCell (p := ⟨OA, 1, none⟩) (by (try simp); omega) (.slice a8 (m + 1) c8)))
            have HSZ := Lib.hid (show (w8.setCell ⟨OA, 1, none⟩ (.slice a8 (m + 1) c8)).heap.size = w8.heap.size by simp [World.setCell])
            go_wp2_with fail
            go_roundw
            case measure => simp [intOf]; omega
            refine ⟨m + 1, n - 1, wz51, a8, c8, l ++ [((M : Int), l9.take 4)], by omega, rfl, ⟨by simp [hlnw], fun e he => ?_⟩, ⟨by omega, HBT_55.out⟩, HQ8.out, ?_, HR8.out.more (by omega)⟩
            · rcases List.mem_append.1 he with he | he
              · exact hl.out.2 e he
              · simp only [List.mem_singleton] at he; subst he; exact relOk_take HOK9.out 4
            · exact HA9.out.wk (fun z hz => by rw [HSZ.out]; exact hz)
          · have h4I : ¬ (4 : Int) < l9.length := by omega
            go_upto_region 8 with fail
            have HIR := Lib.hid (ip_relD (k := (M : Int)) ⟨by omega, by omega⟩ HIP9_60.out)
            have hlnw := HLN.out
            have q9 := (hs57.cellAt 1 rfl 1 rfl)
            have hb9 := belowA wE (.cells #[.int .i64 M, .slice a9 l9.length c9] 50)
            have HS9 := Lib.hid (hs57.step hb9)
            have HR9 := Lib.hid (HSR_59.out.below (hb9.mono (by omega)))
            have HSZ9 := Lib.hid (show (wE.alloc (.cells #[.int .i64 M, .slice a9 l9.length c9] 50)).heap.size = wE.heap.size + 1 by simp)
            go_wp2_with (at_builtin; refine wpList_append_accP _ rfl _ _ _ rfl E_rels rfl (AccP.mono HAC_58.out (belowA _ _)) (Ip.mono HIR.out (belowA _ _)) (fun z h1 h2 => by (try simp only at h1 h2); omega) ⟨wE.heap.size, 0, none⟩ 1 rfl (news2 (cell_at_block (heap_alloc_new _ _)) (cell_at_block (heap_alloc_new _ _))) (by omega) ?_; simp only [HLN.out]; intro a8 c8 w8 hA8 hB8; have hs8 := HS9.out.butP hB8 (fun z hz => by have := hz.1; omega) (fun x hx hA => by have h1 := hA.1; have h2 := hA.2; simp at hx; rcases hx with rfl | rfl | rfl <;> (try simp only at h1 h2) <;> omega); have q2 := hs8.cellAt 1 rfl 1 rfl; have f2 := hs8.freeAt 1 rfl 1)
            have hz8 := hB8.size
            have hz9 : wE.heap.size < w8.heap.size := by have := HSZ9.out; omega
            have hs7 := hs8.low (B' := OA + 1) (bx' := [(w.heap.size, #[.int .i64 0, .slice none 0 0], 26), (OA, #[.int .i64 SZ, .slice a m c], 26)]) (by omega) (by omega) (fun x hx => ⟨by simp at hx ⊢; rcases hx with rfl | rfl <;> simp, by simp at hx; rcases hx with rfl | rfl <;> (try simp only) <;> omega⟩)
            have HQ8 := Lib.hid (hs7.set (p := [_]) (by simp <;> omega) 1 (.slice a8 (m + 1) c8))
            have HA9 := Lib.hid ((AccP.setCell (b := OA) (o := 1) hA8.tight (.slice a8 (m + 1) c8) (by intro hA9; have h1 := hA9.1; (try simp at h1); omega)).wk (C := fun z => OA + 1 ≤ z ∧ z < w8.heap.size) (fun z hz => by
              have h2 := hz.2
              have h3 := HSZ9.out
              rcases hz.1 with h | h | h
              · (try simp only at h); omega
              · (try simp only at h); omega
              · rw [h] at h2 ⊢; omega))
            have HR8 := Lib.hid ((HR9.out.below (hB8.below (fun z hz => by have := hz.1; omega) (by have := HSZ9.out; omega))).below ((Below.refl B w8).setCell (p := ⟨OA, 1, none⟩) (by (try simp); omega) (.slice a8 (m + 1) c8)))
            have HSZ := Lib.hid (show (w8.setCell ⟨OA, 1, none⟩ (.slice a8 (m + 1) c8)).heap.size = w8.heap.size by simp [World.setCell])
            go_wp2_with fail
            go_roundw
            case measure => simp [intOf]; omega
            refine ⟨m + 1, n - 1, wz51, a8, c8, l ++ [((M : Int), l9)], by omega, rfl, ⟨by simp [hlnw], fun e he => ?_⟩, ⟨by omega, HBT_55.out⟩, HQ8.out, ?_, HR8.out.more (by omega)⟩
            · rcases List.mem_append.1 he with he | he
              · exact hl.out.2 e he
              · simp only [List.mem_singleton] at he; subst he; exact HOK9.out
            · exact HA9.out.wk (fun z hz => by rw [HSZ.out]; exact hz)
      · refine t4_hard rfl (by rfl) (fun K hK => ?_)
        go_wp2_with fail
        have hs65 := hs18.alloc #[.int .i64 0, .slice none 0 0] 50 (n := wd21.heap.size) (by simp)
        have HAC_66 := Lib.hid (AccP.mono HAC_19.out (belowA _ (.cells #[.int .i64 0, .slice none 0 0] 50)))
        clear HAC_19
        have HSR_67 := Lib.hid (Src.mono HSR_20.out (belowA _ (.cells #[.int .i64 0, .slice none 0 0] 50)))
        clear HSR_20
        have hz_wA : wd21.heap.size + 1 ≤ ((wd21.alloc (.cells #[.int .i64 0, .slice none 0 0] 50))).heap.size := by simp
        generalize hgen_wA : (wd21.alloc (.cells #[.int .i64 0, .slice none 0 0] 50)) = wA at *
        clear hgen_wA
        refine ⟨⟨hs65.cellAt 0 rfl 0 rfl, hs65.cellAt 0 rfl 1 rfl, hs65.cellAt 1 rfl 0 rfl, hs65.cellAt 1 rfl 1 rfl⟩, ?_⟩
        (repeat (first | (apply t4_skip rfl (by rfl); try simp only [Act.put, List.setIfInBounds_toArray, List.set_cons_zero, List.set_cons_succ]) | (apply t4_float rfl (by rfl); (· (intro w' hS; go_simp <;> with_reducible rfl)); (try simp only [Act.put, List.setIfInBounds_toArray, List.set_cons_zero, List.set_cons_succ]))))
        refine t4_hard rfl (by rfl) (fun K hK => ?_)
        go_wp2_with (go_at_call 34; refine (pick_c 2 L B b (k + 2 + 2000 * m) _ HSR_67.out (by omega) (by omega) (by omega)).mono ?_; rintro e w68 ⟨r9, rfl, h90, h91, hrw68, hbw68⟩)
        obtain ⟨wz69, hs70, hz_wz69, hy_wz69, hc_wz69⟩ := hs65.cut hbw68 (by intro k hk; simp only [List.mem_singleton] at hk; omega)
        have hz_w68 : wA.heap.size ≤ w68.heap.size := by have h9 := hbw68.size; (try simp at h9); omega
        have HAC_71 := Lib.hid (AccP.butL HAC_66.out hbw68 (by intro k hk; simp only [List.mem_singleton] at hk; omega))
        clear HAC_66
        have HSR_72 := Lib.hid hrw68
        clear HSR_67
        have HBT_73 := Lib.hid (HBT.out.trans hc_wz69)
        clear HBT
        clear hrw68 hc_wz69
        obtain ⟨M, hM⟩ : ∃ M : Nat, 1 + r9 = (M : Int) := ⟨(1 + r9).toNat, by omega⟩
        have hw9 : IntKind.i64.wrap (M : Int) = (M : Int) := i64_in _ (by omega)
        have hM2 : 1 ≤ M ∧ M ≤ 4 := by omega
        refine ⟨⟨hs70.cellAt 0 rfl 0 rfl, hs70.cellAt 0 rfl 1 rfl, hs70.cellAt 1 rfl 0 rfl, hs70.cellAt 1 rfl 1 rfl⟩, ?_⟩
        (repeat (first | (apply t4_skip rfl (by rfl); try simp only [Act.put, List.setIfInBounds_toArray, List.set_cons_zero, List.set_cons_succ]) | (apply t4_float rfl (by rfl); (· (intro w' hS; go_simp <;> with_reducible rfl)); (try simp only [Act.put, List.setIfInBounds_toArray, List.set_cons_zero, List.set_cons_succ]))))
        refine t4_hard rfl (by rfl) (fun K hK => ?_)
        go_wp2_with (go_at_call 178; refine (l01Drawn_c SZ M L B b (k + 2 + 2000 * m + 1) _ HSR_72.out (by (try simp); omega) (by omega) hs4 hM2).mono ?_; rintro e w74 ⟨v9, rfl, l9, fr9, ok9, hrw74, hbw74⟩)
        obtain ⟨wz75, hs76, hz_wz75, hy_wz75, hc_wz75⟩ := hs70.cut hbw74 (by intro k hk; simp only [List.mem_singleton] at hk; omega)
        have hz_w74 : w68.heap.size ≤ w74.heap.size := by have h9 := hbw74.size; (try simp at h9); omega
        have HAC_77 := Lib.hid (AccP.butL HAC_71.out hbw74 (by intro k hk; simp only [List.mem_singleton] at hk; omega))
        clear HAC_71
        have HSR_78 := Lib.hid hrw74
        clear HSR_72
        have HBT_79 := Lib.hid (HBT_73.out.trans hc_wz75)
        clear HBT_73
        clear hrw74 hc_wz75
        have hf9 : Fresh _ _ [v9] l9 := fresh_snd rfl fr9
        obtain ⟨a9, c9, rfl, hsl9⟩ := rd_list hf9.rd
        have HIP9 := Lib.hid hf9.ip
        clear hf9
        have hcp9 := hsl9.1
        have HOK9 := Lib.hid ok9
        clear fr9 hsl9 ok9
        refine ⟨⟨hs76.cellAt 0 rfl 0 rfl, hs76.cellAt 0 rfl 1 rfl, hs76.cellAt 1 rfl 0 rfl, hs76.cellAt 1 rfl 1 rfl⟩, ?_⟩
        (repeat (first | (apply t4_skip rfl (by rfl); try simp only [Act.put, List.setIfInBounds_toArray, List.set_cons_zero, List.set_cons_succ]) | (apply t4_float rfl (by rfl); (· (intro w' hS; go_simp <;> with_reducible rfl)); (try simp only [Act.put, List.setIfInBounds_toArray, List.set_cons_zero, List.set_cons_succ]))))
        refine t4_last rfl (by rfl) (fun K hK => ?_)
        have k0_0 := hs76.cellAt 0 rfl 0 rfl
        have k0_1 := hs76.cellAt 0 rfl 1 rfl
        have k1_0 := hs76.cellAt 1 rfl 0 rfl
        have k1_1 := hs76.cellAt 1 rfl 1 rfl
        have k2_0 := hs76.cellAt 2 rfl 0 rfl
        have k2_1 := hs76.cellAt 2 rfl 1 rfl
        have f2_0 := hs76.freeAt 2 rfl 0
        have f2_1 := hs76.freeAt 2 rfl 1
        go_wp2_with fail
        refine t4_nil (NoPanic.normal ?_)
        have hs80 := hs76.set (p := [_, _]) (by simp <;> omega) 0 (.int .i64 M)
        have hs81 := hs80.set (p := [_, _]) (by simp <;> omega) 1 (.slice a9 l9.length c9)
        have HAC_82 := Lib.hid (AccP.setCell (b := wd21.heap.size) (o := 1) (AccP.setCell (b := wd21.heap.size) (o := 0) HAC_77.out (.int .i64 M) (by intro hA9; (try simp only at hA9); omega)) (.slice a9 l9.length c9) (by intro hA9; (try simp only at hA9); omega))
        clear HAC_77
        have HSR_83 := Lib.hid (Src.below (B := B) (Src.below (B := B) HSR_78.out ((Below.refl B _).setCell (p := ⟨wd21.heap.size, 0, none⟩) (by (try simp) <;> omega) (.int .i64 M))) ((Below.refl B _).setCell (p := ⟨wd21.heap.size, 1, none⟩) (by (try simp) <;> omega) (.slice a9 l9.length c9)))
        clear HSR_78
        have HIP9_84 := Lib.hid (Ip.setCell (b := wd21.heap.size) (o := 1) (Ip.setCell (b := wd21.heap.size) (o := 0) HIP9.out (.int .i64 M) (by intro hA9; (try simp only at hA9); omega)) (.slice a9 l9.length c9) (by intro hA9; (try simp only at hA9); omega))
        clear HIP9
        clear k0_0 k0_1 k1_0 k1_1 k2_0 k2_1
        have hz_wE : w74.heap.size ≤ (((w74.setCell ⟨wd21.heap.size, 0, none⟩ (.int .i64 M)).setCell ⟨wd21.heap.size, 1, none⟩ (.slice a9 l9.length c9))).heap.size := by simp [World.setCell]
        generalize hgen_wE : ((w74.setCell ⟨wd21.heap.size, 0, none⟩ (.int .i64 M)).setCell ⟨wd21.heap.size, 1, none⟩ (.slice a9 l9.length c9)) = wE at *
        clear hgen_wE
        have k0_0 := hs81.cellAt 0 rfl 0 rfl
        have k0_1 := hs81.cellAt 0 rfl 1 rfl
        have k1_0 := hs81.cellAt 1 rfl 0 rfl
        have k1_1 := hs81.cellAt 1 rfl 1 rfl
        have k2_0 := hs81.cellAt 2 rfl 0 rfl
        have k2_1 := hs81.cellAt 2 rfl 1 rfl
        by_cases h4 : 4 < l9.length
        · have h4I : (4 : Int) < l9.length := by omega
          have hc4 : (4 : Int) ≤ c9 := by omega
          have HIPT := Lib.hid (ip_takeD HIP9_84.out 4 (by omega) (by omega))
          clear HIP9_84
          have f2_0 := hs81.freeAt 2 rfl 0
          have f2_1 := hs81.freeAt 2 rfl 1
          go_upto_region 8 with fail
          have hs85 := hs81.set (p := [_, _]) (by simp <;> omega) 1 (.slice a9 4 c9)
          have HAC_86 := Lib.hid (AccP.setCell (b := wd21.heap.size) (o := 1) HAC_82.out (.slice a9 4 c9) (by intro hA9; (try simp only at hA9); omega))
          clear HAC_82
          have HSR_87 := Lib.hid (Src.below (B := B) HSR_83.out ((Below.refl B _).setCell (p := ⟨wd21.heap.size, 1, none⟩) (by (try simp) <;> omega) (.slice a9 4 c9)))
          clear HSR_83
          have HIPT_88 := Lib.hid (Ip.setCell (b := wd21.heap.size) (o := 1) HIPT.out (.slice a9 4 c9) (by intro hA9; (try simp only at hA9); omega))
          clear HIPT
          clear k0_0 k0_1 k1_0 k1_1 k2_0 k2_1
          have hz_wF : wE.heap.size ≤ ((wE.setCell ⟨wd21.heap.size, 1, none⟩ (.slice a9 4 c9))).heap.size := by simp [World.setCell]
          generalize hgen_wF : (wE.setCell ⟨wd21.heap.size, 1, none⟩ (.slice a9 4 c9)) = wF at *
          clear hgen_wF
          have k0_0 := hs85.cellAt 0 rfl 0 rfl
          have k0_1 := hs85.cellAt 0 rfl 1 rfl
          have k1_0 := hs85.cellAt 1 rfl 0 rfl
          have k1_1 := hs85.cellAt 1 rfl 1 rfl
          have k2_0 := hs85.cellAt 2 rfl 0 rfl
          have k2_1 := hs85.cellAt 2 rfl 1 rfl
          have HIP9 := Lib.hid HIPT_88.out
          clear HIPT_88
          have HIR := Lib.hid (ip_relD (k := (M : Int)) ⟨by omega, by omega⟩ HIP9.out)
          have hlnw := HLN.out
          have q9 := (hs85.cellAt 1 rfl 1 rfl)
          have hb9 := belowA wF (.cells #[.int .i64 M, .slice a9 4 c9] 50)
          have HS9 := Lib.hid (hs85.step hb9)
          have HR9 := Lib.hid (HSR_87.out.below (hb9.mono (by omega)))
          have HSZ9 := Lib.hid (show (wF.alloc (.cells #[.int .i64 M, .slice a9 4 c9] 50)).heap.size = wF.heap.size + 1 by simp)
          go_wp2_with (at_builtin; refine wpList_append_accP _ rfl _ _ _ rfl E_rels rfl (AccP.mono HAC_86.out (belowA _ _)) (Ip.mono HIR.out (belowA _ _)) (fun z h1 h2 => by (try simp only at h1 h2); omega) ⟨wF.heap.size, 0, none⟩ 1 rfl (news2 (cell_at_block (heap_alloc_new _ _)) (cell_at_block (heap_alloc_new _ _))) (by omega) ?_; simp only [HLN.out]; intro a8 c8 w8 hA8 hB8; have hs8 := HS9.out.butP hB8 (fun z hz => by have := hz.1; omega) (fun x hx hA => by have h1 := hA.1; have h2 := hA.2; simp at hx; rcases hx with rfl | rfl | rfl <;> (try simp only at h1 h2) <;> omega); have q2 := hs8.cellAt 1 rfl 1 rfl; have f2 := hs8.freeAt 1 rfl 1)
          have hz8 := hB8.size
          have hz9 : wF.heap.size < w8.heap.size := by have := HSZ9.out; omega
          have hs7 := hs8.low (B' := OA + 1) (bx' := [(w.heap.size, #[.int .i64 0, .slice none 0 0], 26), (OA, #[.int .i64 SZ, .slice a m c], 26)]) (by omega) (by omega) (fun x hx => ⟨by simp at hx ⊢; rcases hx with rfl | rfl <;> simp, by simp at hx; rcases hx with rfl | rfl <;> (try simp only) <;> omega⟩)
          have HQ8 := Lib.hid (hs7.set (p := [_]) (by simp <;> omega) 1 (.slice a8 (m + 1) c8))
          have HA9 := Lib.hid ((AccP.setCell (b := OA) (o := 1) hA8.tight (.slice a8 (m + 1) c8) (by intro hA9; have h1 := hA9.1; (try simp at h1); omega)).wk (C := fun z => OA + 1 ≤ z ∧ z < w8.heap.size) (fun z hz => by
            have h2 := hz.2
            have h3 := HSZ9.out
            rcases hz.1 with h | h | h
            · (try simp only at h); omega
            · (try simp only at h); omega
            · rw [h] at h2 ⊢; omega))
          have HR8 := Lib.hid ((HR9.out.below (hB8.below (fun z hz => by have := hz.1; omega) (by have := HSZ9.out; omega))).below ((Below.refl B w8).setCell (p := ⟨OA, 1, none⟩) (by (try simp); omega) (.slice a8 (m + 1) c8)))
          have HSZ := Lib.hid (show (w8.setCell ⟨OA, 1, none⟩ (.slice a8 (m + 1) c8)).heap.size = w8.heap.size by simp [World.setCell])
          go_wp2_with fail
          go_roundw
          case measure => simp [intOf]; omega
          refine ⟨m + 1, n - 1, wz75, a8, c8, l ++ [((M : Int), l9.take 4)], by omega, rfl, ⟨by simp [hlnw], fun e he => ?_⟩, ⟨by omega, HBT_79.out⟩, HQ8.out, ?_, HR8.out.more (by omega)⟩
          · rcases List.mem_append.1 he with he | he
            · exact hl.out.2 e he
            · simp only [List.mem_singleton] at he; subst he; exact relOk_take HOK9.out 4
          · exact HA9.out.wk (fun z hz => by rw [HSZ.out]; exact hz)
        · have h4I : ¬ (4 : Int) < l9.length := by omega
          go_upto_region 8 with fail
          have HIR := Lib.hid (ip_relD (k := (M : Int)) ⟨by omega, by omega⟩ HIP9_84.out)
          have hlnw := HLN.out
          have q9 := (hs81.cellAt 1 rfl 1 rfl)
          have hb9 := belowA wE (.cells #[.int .i64 M, .slice a9 l9.length c9] 50)
          have HS9 := Lib.hid (hs81.step hb9)
          have HR9 := Lib.hid (HSR_83.out.below (hb9.mono (by omega)))
          have HSZ9 := Lib.hid (show (wE.alloc (.cells #[.int .i64 M, .slice a9 l9.length c9] 50)).heap.size = wE.heap.size + 1 by simp)
          go_wp2_with (at_builtin; refine wpList_append_accP _ rfl _ _ _ rfl E_rels rfl (AccP.mono HAC_82.out (belowA _ _)) (Ip.mono HIR.out (belowA _ _)) (fun z h1 h2 => by (try simp only at h1 h2); omega) ⟨wE.heap.size, 0, none⟩ 1 rfl (news2 (cell_at_block (heap_alloc_new _ _)) (cell_at_block (heap_alloc_new _ _))) (by omega) ?_; simp only [HLN.out]; intro a8 c8 w8 hA8 hB8; have hs8 := HS9.out.butP hB8 (fun z hz => by have := hz.1; omega) (fun x hx hA => by have h1 := hA.1; have h2 := hA.2; simp at hx; rcases hx with rfl | rfl | rfl <;> (try simp only at h1 h2) <;> omega); have q2 := hs8.cellAt 1 rfl 1 rfl; have f2 := hs8.freeAt 1 rfl 1)
          have hz8 := hB8.size
          have hz9 : wE.heap.size < w8.heap.size := by have := HSZ9.out; omega
          have hs7 := hs8.low (B' := OA + 1) (bx' := [(w.heap.size, #[.int .i64 0, .slice none 0 0], 26), (OA, #[.int .i64 SZ, .slice a m c], 26)]) (by omega) (by omega) (fun x hx => ⟨by simp at hx ⊢; rcases hx with rfl | rfl <;> simp, by simp at hx; rcases hx with rfl | rfl <;> (try simp only) <;> omega⟩)
          have HQ8 := Lib.hid (hs7.set (p := [_]) (by simp <;> omega) 1 (.slice a8 (m + 1) c8))
          have HA9 := Lib.hid ((AccP.setCell (b := OA) (o := 1) hA8.tight (.slice a8 (m + 1) c8) (by intro hA9; have h1 := hA9.1; (try simp at h1); omega)).wk (C := fun z => OA + 1 ≤ z ∧ z < w8.heap.size) (fun z hz => by
            have h2 := hz.2
            have h3 := HSZ9.out
            rcases hz.1 with h | h | h
            · (try simp only at h); omega
            · (try simp only at h); omega
            · rw [h] at h2 ⊢; omega))
          have HR8 := Lib.hid ((HR9.out.below (hB8.below (fun z hz => by have := hz.1; omega) (by have := HSZ9.out; omega))).below ((Below.refl B w8).setCell (p := ⟨OA, 1, none⟩) (by (try simp); omega) (.slice a8 (m + 1) c8)))
          have HSZ := Lib.hid (show (w8.setCell ⟨OA, 1, none⟩ (.slice a8 (m + 1) c8)).heap.size = w8.heap.size by simp [World.setCell])
          go_wp2_with fail
          go_roundw
          case measure => simp [intOf]; omega
          refine ⟨m + 1, n - 1, wz75, a8, c8, l ++ [((M : Int), l9)], by omega, rfl, ⟨by simp [hlnw], fun e he => ?_⟩, ⟨by omega, HBT_79.out⟩, HQ8.out, ?_, HR8.out.more (by omega)⟩
          · rcases List.mem_append.1 he with he | he
            · exact hl.out.2 e he
            · simp only [List.mem_singleton] at he; subst he; exact HOK9.out
          · exact HA9.out.wk (fun z hz => by rw [HSZ.out]; exact hz)
    · obtain rfl : n = 0 := by omega
      obtain rfl : m = K := by omega
      have f0_0 := hs0.freeAt 0 rfl 0
      have f0_1 := hs0.freeAt 0 rfl 1
      go_wp2_with fail
      have HFR := Lib.hid (HAC.out.ip.fresh (lo := w.heap.size) (fun k hk => by have := hk.1; omega))
      have hs9 := (hs0.set (p := []) (by simp <;> omega) 0 (.int .i64 SZ)).set (p := []) (by simp <;> omega) 1 (.slice a m c)
      have x0 := hs9.cellAt 0 rfl 0 rfl
      have x1 := hs9.cellAt 0 rfl 1 rfl
      have HSF := Lib.hid ((HSR.out.below ((Below.refl B _).setCell (p := ⟨w.heap.size, 0, none⟩) (by simp; omega) (.int .i64 SZ))).below ((Below.refl B _).setCell (p := ⟨w.heap.size, 1, none⟩) (by simp; omega) (.slice a m c)))
      have HAS := AccP.setCell (AccP.setCell HAC.out (b := w.heap.size) (o := 0) (.int .i64 SZ) (by simp; omega)) (b := w.heap.size) (o := 1) (.slice a m c) (by simp; omega)
      refine bodyPost_ret (v := .agg #[.int .i64 SZ, .slice a m c]) (by simp [results, Tryz.results137, go_sem, x0, x1]) rfl ⟨SZ, .slice a m c, rfl, l, ?_, tmplOk_of hs4 (by rw [HLN.out]; omega) hl.out.2, HSF.out.more (by omega), HBT.out.trans (but_of hs9.bel)⟩
      exact fresh_icD ⟨by omega, by omega⟩ (HAS.ip.fresh (fun k hk => by have := hk.1; omega))



set_option maxRecDepth 100000 in
set_option maxHeartbeats 16000000 in
theorem l06Known_c (L B b k : Nat) (w : World) (h : Src L B w b k) (hB : B ≤ w.heap.size) (hk : k ≤ 600000000) :
    Calls Tryz.prog 72 #[.pointer (some ⟨b, 0, none⟩)] w fun e w' => ∃ (size : Int) (v : Value), e = .returned (.agg #[.int .i64 size, v]) ∧ ∃ l : List RelT, Fresh w.heap.size w' [.int .i64 size, v] ((size, l) : Tmpl) ∧ tmplOk (size, l) = true ∧ Src L B w' b (k + 10001) ∧ But [b] w w' := by
  have hbw := h.lt
  have HSR := Lib.hid h
  have HBT := Lib.hid (But.refl [b] w)
  clear h
  have hs89 := (St.start w).alloc #[.int .i64 0, .slice none 0 0] 26 (n := w.heap.size) (by simp)
  have HSR_90 := Lib.hid (Src.mono HSR.out (belowA _ (.cells #[.int .i64 0, .slice none 0 0] 26)))
  clear HSR
  have k0_0 := hs89.cellAt 0 rfl 0 rfl
  have k0_1 := hs89.cellAt 0 rfl 1 rfl
  go_enter Tryz.func72, Tryz.ntmps72
  go_wp2_with fail
  refine (pick_c 5 L B b k _ HSR_90.out (by omega) (by omega) (by omega)).mono ?_
  rintro e w91 ⟨r0, rfl, hr0, hr1, hrw91, hbw91⟩
  obtain ⟨wz92, hs93, hz_wz92, hy_wz92, hc_wz92⟩ := hs89.cut hbw91 (by intro k hk; simp only [List.mem_singleton] at hk; omega)
  have hz_w91 : w.heap.size + 1 ≤ w91.heap.size := by have h9 := hbw91.size; (try simp at h9); omega
  have HSR_94 := Lib.hid hrw91
  clear HSR_90
  have HBT_95 := Lib.hid (HBT.out.trans hc_wz92)
  clear HBT
  clear hrw91 hc_wz92
  clear k0_0 k0_1
  have k0_0 := hs93.cellAt 0 rfl 0 rfl
  have k0_1 := hs93.cellAt 0 rfl 1 rfl
  by_cases h0 : r0 = 0
  · obtain rfl := h0
    clear k0_0 k0_1
    have hs96 := hs93.alloc #[.int .i64 0, .int .i64 1] 2 (n := w91.heap.size) (by simp)
    have HSR_97 := Lib.hid (Src.mono HSR_94.out (belowA _ (.cells #[.int .i64 0, .int .i64 1] 2)))
    clear HSR_94
    have hs98 := hs96.alloc #[.int .i64 1, .int .i64 0] 2 (n := w91.heap.size + 1) (by simp)
    have HSR_99 := Lib.hid (Src.mono HSR_97.out (belowA _ (.cells #[.int .i64 1, .int .i64 0] 2)))
    clear HSR_97
    have hs100 := hs98.alloc #[.slice (some ⟨w91.heap.size, 0, none⟩) 2 2, .slice (some ⟨w91.heap.size + 1, 0, none⟩) 2 2] 32 (n := w91.heap.size + 1 + 1) (by simp)
    have HSR_101 := Lib.hid (Src.mono HSR_99.out (belowA _ (.cells #[.slice (some ⟨w91.heap.size, 0, none⟩) 2 2, .slice (some ⟨w91.heap.size + 1, 0, none⟩) 2 2] 32)))
    clear HSR_99
    have hs102 := hs100.alloc #[.int .i64 0, .int .i64 1] 2 (n := w91.heap.size + 1 + 1 + 1) (by simp)
    have HSR_103 := Lib.hid (Src.mono HSR_101.out (belowA _ (.cells #[.int .i64 0, .int .i64 1] 2)))
    clear HSR_101
    have hs104 := hs102.alloc #[.int .i64 1, .int .i64 0] 2 (n := w91.heap.size + 1 + 1 + 1 + 1) (by simp)
    have HSR_105 := Lib.hid (Src.mono HSR_103.out (belowA _ (.cells #[.int .i64 1, .int .i64 0] 2)))
    clear HSR_103
    have hs106 := hs104.alloc #[.int .i64 1, .int .i64 1] 2 (n := w91.heap.size + 1 + 1 + 1 + 1 + 1) (by simp)
    have HSR_107 := Lib.hid (Src.mono HSR_105.out (belowA _ (.cells #[.int .i64 1, .int .i64 1] 2)))
    clear HSR_105
    have hs108 := hs106.alloc #[.slice (some ⟨w91.heap.size + 1 + 1 + 1, 0, none⟩) 2 2, .slice (some ⟨w91.heap.size + 1 + 1 + 1 + 1, 0, none⟩) 2 2, .slice (some ⟨w91.heap.size + 1 + 1 + 1 + 1 + 1, 0, none⟩) 2 2] 32 (n := w91.heap.size + 1 + 1 + 1 + 1 + 1 + 1) (by simp)
    have HSR_109 := Lib.hid (Src.mono HSR_107.out (belowA _ (.cells #[.slice (some ⟨w91.heap.size + 1 + 1 + 1, 0, none⟩) 2 2, .slice (some ⟨w91.heap.size + 1 + 1 + 1 + 1, 0, none⟩) 2 2, .slice (some ⟨w91.heap.size + 1 + 1 + 1 + 1 + 1, 0, none⟩) 2 2] 32)))
    clear HSR_107
    have hs110 := hs108.alloc #[.int .i64 2, .slice (some ⟨w91.heap.size + 1 + 1, 0, none⟩) 2 2, .int .i64 2, .slice (some ⟨w91.heap.size + 1 + 1 + 1 + 1 + 1 + 1, 0, none⟩) 3 3] 50 (n := w91.heap.size + 1 + 1 + 1 + 1 + 1 + 1 + 1) (by simp)
    have HSR_111 := Lib.hid (Src.mono HSR_109.out (belowA _ (.cells #[.int .i64 2, .slice (some ⟨w91.heap.size + 1 + 1, 0, none⟩) 2 2, .int .i64 2, .slice (some ⟨w91.heap.size + 1 + 1 + 1 + 1 + 1 + 1, 0, none⟩) 3 3] 50)))
    clear HSR_109
    have bB1 := (hs110.box (w91.heap.size, #[.int .i64 0, .int .i64 1], 2) (by simp)).2.2
    have oB1 := lit_done (lit_cons (lit_int (n := 0) ⟨by decide, by decide⟩) (lit_cons (lit_int (n := 1) ⟨by decide, by decide⟩) lit_nil)) bB1 rfl (by simp)
    have bB2 := (hs110.box (w91.heap.size + 1, #[.int .i64 1, .int .i64 0], 2) (by simp)).2.2
    have oB2 := lit_done (lit_cons (lit_int (n := 1) ⟨by decide, by decide⟩) (lit_cons (lit_int (n := 0) ⟨by decide, by decide⟩) lit_nil)) bB2 rfl (by simp)
    have bB3 := (hs110.box (w91.heap.size + 1 + 1, #[.slice (some ⟨w91.heap.size, 0, none⟩) 2 2, .slice (some ⟨w91.heap.size + 1, 0, none⟩) 2 2], 32) (by simp)).2.2
    have oB3 := lit_done (lit_cons (oB1) (lit_cons (oB2) lit_nil)) bB3 rfl (by simp)
    have bB4 := (hs110.box (w91.heap.size + 1 + 1 + 1, #[.int .i64 0, .int .i64 1], 2) (by simp)).2.2
    have oB4 := lit_done (lit_cons (lit_int (n := 0) ⟨by decide, by decide⟩) (lit_cons (lit_int (n := 1) ⟨by decide, by decide⟩) lit_nil)) bB4 rfl (by simp)
    have bB5 := (hs110.box (w91.heap.size + 1 + 1 + 1 + 1, #[.int .i64 1, .int .i64 0], 2) (by simp)).2.2
    have oB5 := lit_done (lit_cons (lit_int (n := 1) ⟨by decide, by decide⟩) (lit_cons (lit_int (n := 0) ⟨by decide, by decide⟩) lit_nil)) bB5 rfl (by simp)
    have bB6 := (hs110.box (w91.heap.size + 1 + 1 + 1 + 1 + 1, #[.int .i64 1, .int .i64 1], 2) (by simp)).2.2
    have oB6 := lit_done (lit_cons (lit_int (n := 1) ⟨by decide, by decide⟩) (lit_cons (lit_int (n := 1) ⟨by decide, by decide⟩) lit_nil)) bB6 rfl (by simp)
    have bB7 := (hs110.box (w91.heap.size + 1 + 1 + 1 + 1 + 1 + 1, #[.slice (some ⟨w91.heap.size + 1 + 1 + 1, 0, none⟩) 2 2, .slice (some ⟨w91.heap.size + 1 + 1 + 1 + 1, 0, none⟩) 2 2, .slice (some ⟨w91.heap.size + 1 + 1 + 1 + 1 + 1, 0, none⟩) 2 2], 32) (by simp)).2.2
    have oB7 := lit_done (lit_cons (oB4) (lit_cons (oB5) (lit_cons (oB6) lit_nil))) bB7 rfl (by simp)
    have bB8 := (hs110.box (w91.heap.size + 1 + 1 + 1 + 1 + 1 + 1 + 1, #[.int .i64 2, .slice (some ⟨w91.heap.size + 1 + 1, 0, none⟩) 2 2, .int .i64 2, .slice (some ⟨w91.heap.size + 1 + 1 + 1 + 1 + 1 + 1, 0, none⟩) 3 3], 50) (by simp)).2.2
    have oB8 := lit_done (lit_cons (lit_rel (n := 2) ⟨by decide, by decide⟩ oB3) (lit_cons (lit_rel (n := 2) ⟨by decide, by decide⟩ oB7) lit_nil)) bB8 rfl (by simp)
    have HFR : Fresh (w.heap.size + 1) _ [.int .i64 2, .slice (some ⟨w91.heap.size + 1 + 1 + 1 + 1 + 1 + 1 + 1, 0, none⟩) 2 2] ((2, [(2, [[0, 1], [1, 0]]), (2, [[0, 1], [1, 0], [1, 1]])]) : Tmpl) := ⟨_, lit_rel ⟨by decide, by decide⟩ oB8, by simp <;> omega, by simp <;> omega⟩
    have k0_0 := hs110.cellAt 0 rfl 0 rfl
    have k0_1 := hs110.cellAt 0 rfl 1 rfl
    have k1_0 := hs110.cellAt 1 rfl 0 rfl
    have k1_1 := hs110.cellAt 1 rfl 1 rfl
    have k2_0 := hs110.cellAt 2 rfl 0 rfl
    have k2_1 := hs110.cellAt 2 rfl 1 rfl
    have k3_0 := hs110.cellAt 3 rfl 0 rfl
    have k3_1 := hs110.cellAt 3 rfl 1 rfl
    have k4_0 := hs110.cellAt 4 rfl 0 rfl
    have k4_1 := hs110.cellAt 4 rfl 1 rfl
    have k5_0 := hs110.cellAt 5 rfl 0 rfl
    have k5_1 := hs110.cellAt 5 rfl 1 rfl
    have k6_0 := hs110.cellAt 6 rfl 0 rfl
    have k6_1 := hs110.cellAt 6 rfl 1 rfl
    have k7_0 := hs110.cellAt 7 rfl 0 rfl
    have k7_1 := hs110.cellAt 7 rfl 1 rfl
    have k7_2 := hs110.cellAt 7 rfl 2 rfl
    have k8_0 := hs110.cellAt 8 rfl 0 rfl
    have k8_1 := hs110.cellAt 8 rfl 1 rfl
    have k8_2 := hs110.cellAt 8 rfl 2 rfl
    have k8_3 := hs110.cellAt 8 rfl 3 rfl
    have f0_0 := hs110.freeAt 0 rfl 0
    have f0_1 := hs110.freeAt 0 rfl 1
    go_wp2_with fail
    have hs9 := (hs110.set (p := []) (by simp <;> omega) 0 (.int .i64 2)).set (p := []) (by simp <;> omega) 1 (.slice (some ⟨w91.heap.size + 1 + 1 + 1 + 1 + 1 + 1 + 1, 0, none⟩) 2 2)
    have x0 := hs9.cellAt 0 rfl 0 rfl
    have x1 := hs9.cellAt 0 rfl 1 rfl
    have HFS := ((HFR.setCell (a := ⟨w.heap.size, 0, none⟩) (by simp) (.int .i64 2)).setCell (a := ⟨w.heap.size, 1, none⟩) (by simp) (.slice (some ⟨w91.heap.size + 1 + 1 + 1 + 1 + 1 + 1 + 1, 0, none⟩) 2 2)).lower (lo' := w.heap.size) (by omega)
    have HSF := ((HSR_111.out.below ((Below.refl B _).setCell (p := ⟨w.heap.size, 0, none⟩) (by simp; omega) (.int .i64 2))).below ((Below.refl B _).setCell (p := ⟨w.heap.size, 1, none⟩) (by simp; omega) (.slice (some ⟨w91.heap.size + 1 + 1 + 1 + 1 + 1 + 1 + 1, 0, none⟩) 2 2)))
    exact bodyPost_ret (v := .agg #[.int .i64 2, .slice (some ⟨w91.heap.size + 1 + 1 + 1 + 1 + 1 + 1 + 1, 0, none⟩) 2 2]) (by simp [results, Tryz.results72, go_sem, x0, x1]) rfl ⟨2, _, rfl, [(2, [[0, 1], [1, 0]]), (2, [[0, 1], [1, 0], [1, 1]])], HFS, by decide, HSF.more (by omega), HBT_95.out.trans (but_of hs9.bel)⟩
  · have g0 := h0
    by_cases h1 : r0 = 1
    · obtain rfl := h1
      clear k0_0 k0_1
      have hs112 := hs93.alloc #[.int .i64 0, .int .i64 0] 2 (n := w91.heap.size) (by simp)
      have HSR_113 := Lib.hid (Src.mono HSR_94.out (belowA _ (.cells #[.int .i64 0, .int .i64 0] 2)))
      clear HSR_94
      have hs114 := hs112.alloc #[.int .i64 0, .int .i64 1] 2 (n := w91.heap.size + 1) (by simp)
      have HSR_115 := Lib.hid (Src.mono HSR_113.out (belowA _ (.cells #[.int .i64 0, .int .i64 1] 2)))
      clear HSR_113
      have hs116 := hs114.alloc #[.int .i64 1, .int .i64 1] 2 (n := w91.heap.size + 1 + 1) (by simp)
      have HSR_117 := Lib.hid (Src.mono HSR_115.out (belowA _ (.cells #[.int .i64 1, .int .i64 1] 2)))
      clear HSR_115
      have hs118 := hs116.alloc #[.slice (some ⟨w91.heap.size, 0, none⟩) 2 2, .slice (some ⟨w91.heap.size + 1, 0, none⟩) 2 2, .slice (some ⟨w91.heap.size + 1 + 1, 0, none⟩) 2 2] 32 (n := w91.heap.size + 1 + 1 + 1) (by simp)
      have HSR_119 := Lib.hid (Src.mono HSR_117.out (belowA _ (.cells #[.slice (some ⟨w91.heap.size, 0, none⟩) 2 2, .slice (some ⟨w91.heap.size + 1, 0, none⟩) 2 2, .slice (some ⟨w91.heap.size + 1 + 1, 0, none⟩) 2 2] 32)))
      clear HSR_117
      have hs120 := hs118.alloc #[.int .i64 1] 2 (n := w91.heap.size + 1 + 1 + 1 + 1) (by simp)
      have HSR_121 := Lib.hid (Src.mono HSR_119.out (belowA _ (.cells #[.int .i64 1] 2)))
      clear HSR_119
      have hs122 := hs120.alloc #[.slice (some ⟨w91.heap.size + 1 + 1 + 1 + 1, 0, none⟩) 1 1] 32 (n := w91.heap.size + 1 + 1 + 1 + 1 + 1) (by simp)
      have HSR_123 := Lib.hid (Src.mono HSR_121.out (belowA _ (.cells #[.slice (some ⟨w91.heap.size + 1 + 1 + 1 + 1, 0, none⟩) 1 1] 32)))
      clear HSR_121
      have hs124 := hs122.alloc #[.int .i64 0] 2 (n := w91.heap.size + 1 + 1 + 1 + 1 + 1 + 1) (by simp)
      have HSR_125 := Lib.hid (Src.mono HSR_123.out (belowA _ (.cells #[.int .i64 0] 2)))
      clear HSR_123
      have hs126 := hs124.alloc #[.slice (some ⟨w91.heap.size + 1 + 1 + 1 + 1 + 1 + 1, 0, none⟩) 1 1] 32 (n := w91.heap.size + 1 + 1 + 1 + 1 + 1 + 1 + 1) (by simp)
      have HSR_127 := Lib.hid (Src.mono HSR_125.out (belowA _ (.cells #[.slice (some ⟨w91.heap.size + 1 + 1 + 1 + 1 + 1 + 1, 0, none⟩) 1 1] 32)))
      clear HSR_125
      have hs128 := hs126.alloc #[.int .i64 2, .slice (some ⟨w91.heap.size + 1 + 1 + 1, 0, none⟩) 3 3, .int .i64 1, .slice (some ⟨w91.heap.size + 1 + 1 + 1 + 1 + 1, 0, none⟩) 1 1, .int .i64 1, .slice (some ⟨w91.heap.size + 1 + 1 + 1 + 1 + 1 + 1 + 1, 0, none⟩) 1 1] 50 (n := w91.heap.size + 1 + 1 + 1 + 1 + 1 + 1 + 1 + 1) (by simp)
      have HSR_129 := Lib.hid (Src.mono HSR_127.out (belowA _ (.cells #[.int .i64 2, .slice (some ⟨w91.heap.size + 1 + 1 + 1, 0, none⟩) 3 3, .int .i64 1, .slice (some ⟨w91.heap.size + 1 + 1 + 1 + 1 + 1, 0, none⟩) 1 1, .int .i64 1, .slice (some ⟨w91.heap.size + 1 + 1 + 1 + 1 + 1 + 1 + 1, 0, none⟩) 1 1] 50)))
      clear HSR_127
      have bB1 := (hs128.box (w91.heap.size, #[.int .i64 0, .int .i64 0], 2) (by simp)).2.2
      have oB1 := lit_done (lit_cons (lit_int (n := 0) ⟨by decide, by decide⟩) (lit_cons (lit_int (n := 0) ⟨by decide, by decide⟩) lit_nil)) bB1 rfl (by simp)
      have bB2 := (hs128.box (w91.heap.size + 1, #[.int .i64 0, .int .i64 1], 2) (by simp)).2.2
      have oB2 := lit_done (lit_cons (lit_int (n := 0) ⟨by decide, by decide⟩) (lit_cons (lit_int (n := 1) ⟨by decide, by decide⟩) lit_nil)) bB2 rfl (by simp)
      have bB3 := (hs128.box (w91.heap.size + 1 + 1, #[.int .i64 1, .int .i64 1], 2) (by simp)).2.2
      have oB3 := lit_done (lit_cons (lit_int (n := 1) ⟨by decide, by decide⟩) (lit_cons (lit_int (n := 1) ⟨by decide, by decide⟩) lit_nil)) bB3 rfl (by simp)
      have bB4 := (hs128.box (w91.heap.size + 1 + 1 + 1, #[.slice (some ⟨w91.heap.size, 0, none⟩) 2 2, .slice (some ⟨w91.heap.size + 1, 0, none⟩) 2 2, .slice (some ⟨w91.heap.size + 1 + 1, 0, none⟩) 2 2], 32) (by simp)).2.2
      have oB4 := lit_done (lit_cons (oB1) (lit_cons (oB2) (lit_cons (oB3) lit_nil))) bB4 rfl (by simp)
      have bB5 := (hs128.box (w91.heap.size + 1 + 1 + 1 + 1, #[.int .i64 1], 2) (by simp)).2.2
      have oB5 := lit_done (lit_cons (lit_int (n := 1) ⟨by decide, by decide⟩) lit_nil) bB5 rfl (by simp)
      have bB6 := (hs128.box (w91.heap.size + 1 + 1 + 1 + 1 + 1, #[.slice (some ⟨w91.heap.size + 1 + 1 + 1 + 1, 0, none⟩) 1 1], 32) (by simp)).2.2
      have oB6 := lit_done (lit_cons (oB5) lit_nil) bB6 rfl (by simp)
      have bB7 := (hs128.box (w91.heap.size + 1 + 1 + 1 + 1 + 1 + 1, #[.int .i64 0], 2) (by simp)).2.2
      have oB7 := lit_done (lit_cons (lit_int (n := 0) ⟨by decide, by decide⟩) lit_nil) bB7 rfl (by simp)
      have bB8 := (hs128.box (w91.heap.size + 1 + 1 + 1 + 1 + 1 + 1 + 1, #[.slice (some ⟨w91.heap.size + 1 + 1 + 1 + 1 + 1 + 1, 0, none⟩) 1 1], 32) (by simp)).2.2
      have oB8 := lit_done (lit_cons (oB7) lit_nil) bB8 rfl (by simp)
      have bB9 := (hs128.box (w91.heap.size + 1 + 1 + 1 + 1 + 1 + 1 + 1 + 1, #[.int .i64 2, .slice (some ⟨w91.heap.size + 1 + 1 + 1, 0, none⟩) 3 3, .int .i64 1, .slice (some ⟨w91.heap.size + 1 + 1 + 1 + 1 + 1, 0, none⟩) 1 1, .int .i64 1, .slice (some ⟨w91.heap.size + 1 + 1 + 1 + 1 + 1 + 1 + 1, 0, none⟩) 1 1], 50) (by simp)).2.2
      have oB9 := lit_done (lit_cons (lit_rel (n := 2) ⟨by decide, by decide⟩ oB4) (lit_cons (lit_rel (n := 1) ⟨by decide, by decide⟩ oB6) (lit_cons (lit_rel (n := 1) ⟨by decide, by decide⟩ oB8) lit_nil))) bB9 rfl (by simp)
      have HFR : Fresh (w.heap.size + 1) _ [.int .i64 2, .slice (some ⟨w91.heap.size + 1 + 1 + 1 + 1 + 1 + 1 + 1 + 1, 0, none⟩) 3 3] ((2, [(2, [[0, 0], [0, 1], [1, 1]]), (1, [[1]]), (1, [[0]])]) : Tmpl) := ⟨_, lit_rel ⟨by decide, by decide⟩ oB9, by simp <;> omega, by simp <;> omega⟩
      have k0_0 := hs128.cellAt 0 rfl 0 rfl
      have k0_1 := hs128.cellAt 0 rfl 1 rfl
      have k1_0 := hs128.cellAt 1 rfl 0 rfl
      have k1_1 := hs128.cellAt 1 rfl 1 rfl
      have k2_0 := hs128.cellAt 2 rfl 0 rfl
      have k2_1 := hs128.cellAt 2 rfl 1 rfl
      have k3_0 := hs128.cellAt 3 rfl 0 rfl
      have k3_1 := hs128.cellAt 3 rfl 1 rfl
      have k4_0 := hs128.cellAt 4 rfl 0 rfl
      have k4_1 := hs128.cellAt 4 rfl 1 rfl
      have k4_2 := hs128.cellAt 4 rfl 2 rfl
      have k5_0 := hs128.cellAt 5 rfl 0 rfl
      have k6_0 := hs128.cellAt 6 rfl 0 rfl
      have k7_0 := hs128.cellAt 7 rfl 0 rfl
      have k8_0 := hs128.cellAt 8 rfl 0 rfl
      have k9_0 := hs128.cellAt 9 rfl 0 rfl
      have k9_1 := hs128.cellAt 9 rfl 1 rfl
      have k9_2 := hs128.cellAt 9 rfl 2 rfl
      have k9_3 := hs128.cellAt 9 rfl 3 rfl
      have k9_4 := hs128.cellAt 9 rfl 4 rfl
      have k9_5 := hs128.cellAt 9 rfl 5 rfl
      have f0_0 := hs128.freeAt 0 rfl 0
      have f0_1 := hs128.freeAt 0 rfl 1
      go_wp2_with fail
      have hs9 := (hs128.set (p := []) (by simp <;> omega) 0 (.int .i64 2)).set (p := []) (by simp <;> omega) 1 (.slice (some ⟨w91.heap.size + 1 + 1 + 1 + 1 + 1 + 1 + 1 + 1, 0, none⟩) 3 3)
      have x0 := hs9.cellAt 0 rfl 0 rfl
      have x1 := hs9.cellAt 0 rfl 1 rfl
      have HFS := ((HFR.setCell (a := ⟨w.heap.size, 0, none⟩) (by simp) (.int .i64 2)).setCell (a := ⟨w.heap.size, 1, none⟩) (by simp) (.slice (some ⟨w91.heap.size + 1 + 1 + 1 + 1 + 1 + 1 + 1 + 1, 0, none⟩) 3 3)).lower (lo' := w.heap.size) (by omega)
      have HSF := ((HSR_129.out.below ((Below.refl B _).setCell (p := ⟨w.heap.size, 0, none⟩) (by simp; omega) (.int .i64 2))).below ((Below.refl B _).setCell (p := ⟨w.heap.size, 1, none⟩) (by simp; omega) (.slice (some ⟨w91.heap.size + 1 + 1 + 1 + 1 + 1 + 1 + 1 + 1, 0, none⟩) 3 3)))
      exact bodyPost_ret (v := .agg #[.int .i64 2, .slice (some ⟨w91.heap.size + 1 + 1 + 1 + 1 + 1 + 1 + 1 + 1, 0, none⟩) 3 3]) (by simp [results, Tryz.results72, go_sem, x0, x1]) rfl ⟨2, _, rfl, [(2, [[0, 0], [0, 1], [1, 1]]), (1, [[1]]), (1, [[0]])], HFS, by decide, HSF.more (by omega), HBT_95.out.trans (but_of hs9.bel)⟩
    · have g1 := h1
      by_cases h2 : r0 = 2
      · obtain rfl := h2
        clear k0_0 k0_1
        have hs130 := hs93.alloc #[.int .i64 0, .int .i64 0, .int .i64 1] 2 (n := w91.heap.size) (by simp)
        have HSR_131 := Lib.hid (Src.mono HSR_94.out (belowA _ (.cells #[.int .i64 0, .int .i64 0, .int .i64 1] 2)))
        clear HSR_94
        have hs132 := hs130.alloc #[.int .i64 0, .int .i64 1, .int .i64 0] 2 (n := w91.heap.size + 1) (by simp)
        have HSR_133 := Lib.hid (Src.mono HSR_131.out (belowA _ (.cells #[.int .i64 0, .int .i64 1, .int .i64 0] 2)))
        clear HSR_131
        have hs134 := hs132.alloc #[.int .i64 1, .int .i64 0, .int .i64 0] 2 (n := w91.heap.size + 1 + 1) (by simp)
        have HSR_135 := Lib.hid (Src.mono HSR_133.out (belowA _ (.cells #[.int .i64 1, .int .i64 0, .int .i64 0] 2)))
        clear HSR_133
        have hs136 := hs134.alloc #[.int .i64 1, .int .i64 1, .int .i64 1] 2 (n := w91.heap.size + 1 + 1 + 1) (by simp)
        have HSR_137 := Lib.hid (Src.mono HSR_135.out (belowA _ (.cells #[.int .i64 1, .int .i64 1, .int .i64 1] 2)))
        clear HSR_135
        have hs138 := hs136.alloc #[.slice (some ⟨w91.heap.size, 0, none⟩) 3 3, .slice (some ⟨w91.heap.size + 1, 0, none⟩) 3 3, .slice (some ⟨w91.heap.size + 1 + 1, 0, none⟩) 3 3, .slice (some ⟨w91.heap.size + 1 + 1 + 1, 0, none⟩) 3 3] 32 (n := w91.heap.size + 1 + 1 + 1 + 1) (by simp)
        have HSR_139 := Lib.hid (Src.mono HSR_137.out (belowA _ (.cells #[.slice (some ⟨w91.heap.size, 0, none⟩) 3 3, .slice (some ⟨w91.heap.size + 1, 0, none⟩) 3 3, .slice (some ⟨w91.heap.size + 1 + 1, 0, none⟩) 3 3, .slice (some ⟨w91.heap.size + 1 + 1 + 1, 0, none⟩) 3 3] 32)))
        clear HSR_137
        have hs140 := hs138.alloc #[.int .i64 0] 2 (n := w91.heap.size + 1 + 1 + 1 + 1 + 1) (by simp)
        have HSR_141 := Lib.hid (Src.mono HSR_139.out (belowA _ (.cells #[.int .i64 0] 2)))
        clear HSR_139
        have hs142 := hs140.alloc #[.slice (some ⟨w91.heap.size + 1 + 1 + 1 + 1 + 1, 0, none⟩) 1 1] 32 (n := w91.heap.size + 1 + 1 + 1 + 1 + 1 + 1) (by simp)
        have HSR_143 := Lib.hid (Src.mono HSR_141.out (belowA _ (.cells #[.slice (some ⟨w91.heap.size + 1 + 1 + 1 + 1 + 1, 0, none⟩) 1 1] 32)))
        clear HSR_141
        have hs144 := hs142.alloc #[.int .i64 0, .int .i64 1] 2 (n := w91.heap.size + 1 + 1 + 1 + 1 + 1 + 1 + 1) (by simp)
        have HSR_145 := Lib.hid (Src.mono HSR_143.out (belowA _ (.cells #[.int .i64 0, .int .i64 1] 2)))
        clear HSR_143
        have hs146 := hs144.alloc #[.int .i64 1, .int .i64 0] 2 (n := w91.heap.size + 1 + 1 + 1 + 1 + 1 + 1 + 1 + 1) (by simp)
        have HSR_147 := Lib.hid (Src.mono HSR_145.out (belowA _ (.cells #[.int .i64 1, .int .i64 0] 2)))
        clear HSR_145
        have hs148 := hs146.alloc #[.slice (some ⟨w91.heap.size + 1 + 1 + 1 + 1 + 1 + 1 + 1, 0, none⟩) 2 2, .slice (some ⟨w91.heap.size + 1 + 1 + 1 + 1 + 1 + 1 + 1 + 1, 0, none⟩) 2 2] 32 (n := w91.heap.size + 1 + 1 + 1 + 1 + 1 + 1 + 1 + 1 + 1) (by simp)
        have HSR_149 := Lib.hid (Src.mono HSR_147.out (belowA _ (.cells #[.slice (some ⟨w91.heap.size + 1 + 1 + 1 + 1 + 1 + 1 + 1, 0, none⟩) 2 2, .slice (some ⟨w91.heap.size + 1 + 1 + 1 + 1 + 1 + 1 + 1 + 1, 0, none⟩) 2 2] 32)))
        clear HSR_147
        have hs150 := hs148.alloc #[.int .i64 3, .slice (some ⟨w91.heap.size + 1 + 1 + 1 + 1, 0, none⟩) 4 4, .int .i64 1, .slice (some ⟨w91.heap.size + 1 + 1 + 1 + 1 + 1 + 1, 0, none⟩) 1 1, .int .i64 2, .slice (some ⟨w91.heap.size + 1 + 1 + 1 + 1 + 1 + 1 + 1 + 1 + 1, 0, none⟩) 2 2] 50 (n := w91.heap.size + 1 + 1 + 1 + 1 + 1 + 1 + 1 + 1 + 1 + 1) (by simp)
        have HSR_151 := Lib.hid (Src.mono HSR_149.out (belowA _ (.cells #[.int .i64 3, .slice (some ⟨w91.heap.size + 1 + 1 + 1 + 1, 0, none⟩) 4 4, .int .i64 1, .slice (some ⟨w91.heap.size + 1 + 1 + 1 + 1 + 1 + 1, 0, none⟩) 1 1, .int .i64 2, .slice (some ⟨w91.heap.size + 1 + 1 + 1 + 1 + 1 + 1 + 1 + 1 + 1, 0, none⟩) 2 2] 50)))
        clear HSR_149
        have bB1 := (hs150.box (w91.heap.size, #[.int .i64 0, .int .i64 0, .int .i64 1], 2) (by simp)).2.2
        have oB1 := lit_done (lit_cons (lit_int (n := 0) ⟨by decide, by decide⟩) (lit_cons (lit_int (n := 0) ⟨by decide, by decide⟩) (lit_cons (lit_int (n := 1) ⟨by decide, by decide⟩) lit_nil))) bB1 rfl (by simp)
        have bB2 := (hs150.box (w91.heap.size + 1, #[.int .i64 0, .int .i64 1, .int .i64 0], 2) (by simp)).2.2
        have oB2 := lit_done (lit_cons (lit_int (n := 0) ⟨by decide, by decide⟩) (lit_cons (lit_int (n := 1) ⟨by decide, by decide⟩) (lit_cons (lit_int (n := 0) ⟨by decide, by decide⟩) lit_nil))) bB2 rfl (by simp)
        have bB3 := (hs150.box (w91.heap.size + 1 + 1, #[.int .i64 1, .int .i64 0, .int .i64 0], 2) (by simp)).2.2
        have oB3 := lit_done (lit_cons (lit_int (n := 1) ⟨by decide, by decide⟩) (lit_cons (lit_int (n := 0) ⟨by decide, by decide⟩) (lit_cons (lit_int (n := 0) ⟨by decide, by decide⟩) lit_nil))) bB3 rfl (by simp)
        have bB4 := (hs150.box (w91.heap.size + 1 + 1 + 1, #[.int .i64 1, .int .i64 1, .int .i64 1], 2) (by simp)).2.2
        have oB4 := lit_done (lit_cons (lit_int (n := 1) ⟨by decide, by decide⟩) (lit_cons (lit_int (n := 1) ⟨by decide, by decide⟩) (lit_cons (lit_int (n := 1) ⟨by decide, by decide⟩) lit_nil))) bB4 rfl (by simp)
        have bB5 := (hs150.box (w91.heap.size + 1 + 1 + 1 + 1, #[.slice (some ⟨w91.heap.size, 0, none⟩) 3 3, .slice (some ⟨w91.heap.size + 1, 0, none⟩) 3 3, .slice (some ⟨w91.heap.size + 1 + 1, 0, none⟩) 3 3, .slice (some ⟨w91.heap.size + 1 + 1 + 1, 0, none⟩) 3 3], 32) (by simp)).2.2
        have oB5 := lit_done (lit_cons (oB1) (lit_cons (oB2) (lit_cons (oB3) (lit_cons (oB4) lit_nil)))) bB5 rfl (by simp)
        have bB6 := (hs150.box (w91.heap.size + 1 + 1 + 1 + 1 + 1, #[.int .i64 0], 2) (by simp)).2.2
        have oB6 := lit_done (lit_cons (lit_int (n := 0) ⟨by decide, by decide⟩) lit_nil) bB6 rfl (by simp)
        have bB7 := (hs150.box (w91.heap.size + 1 + 1 + 1 + 1 + 1 + 1, #[.slice (some ⟨w91.heap.size + 1 + 1 + 1 + 1 + 1, 0, none⟩) 1 1], 32) (by simp)).2.2
        have oB7 := lit_done (lit_cons (oB6) lit_nil) bB7 rfl (by simp)
        have bB8 := (hs150.box (w91.heap.size + 1 + 1 + 1 + 1 + 1 + 1 + 1, #[.int .i64 0, .int .i64 1], 2) (by simp)).2.2
        have oB8 := lit_done (lit_cons (lit_int (n := 0) ⟨by decide, by decide⟩) (lit_cons (lit_int (n := 1) ⟨by decide, by decide⟩) lit_nil)) bB8 rfl (by simp)
        have bB9 := (hs150.box (w91.heap.size + 1 + 1 + 1 + 1 + 1 + 1 + 1 + 1, #[.int .i64 1, .int .i64 0], 2) (by simp)).2.2
        have oB9 := lit_done (lit_cons (lit_int (n := 1) ⟨by decide, by decide⟩) (lit_cons (lit_int (n := 0) ⟨by decide, by decide⟩) lit_nil)) bB9 rfl (by simp)
        have bB10 := (hs150.box (w91.heap.size + 1 + 1 + 1 + 1 + 1 + 1 + 1 + 1 + 1, #[.slice (some ⟨w91.heap.size + 1 + 1 + 1 + 1 + 1 + 1 + 1, 0, none⟩) 2 2, .slice (some ⟨w91.heap.size + 1 + 1 + 1 + 1 + 1 + 1 + 1 + 1, 0, none⟩) 2 2], 32) (by simp)).2.2
        have oB10 := lit_done (lit_cons (oB8) (lit_cons (oB9) lit_nil)) bB10 rfl (by simp)
        have bB11 := (hs150.box (w91.heap.size + 1 + 1 + 1 + 1 + 1 + 1 + 1 + 1 + 1 + 1, #[.int .i64 3, .slice (some ⟨w91.heap.size + 1 + 1 + 1 + 1, 0, none⟩) 4 4, .int .i64 1, .slice (some ⟨w91.heap.size + 1 + 1 + 1 + 1 + 1 + 1, 0, none⟩) 1 1, .int .i64 2, .slice (some ⟨w91.heap.size + 1 + 1 + 1 + 1 + 1 + 1 + 1 + 1 + 1, 0, none⟩) 2 2], 50) (by simp)).2.2
        have oB11 := lit_done (lit_cons (lit_rel (n := 3) ⟨by decide, by decide⟩ oB5) (lit_cons (lit_rel (n := 1) ⟨by decide, by decide⟩ oB7) (lit_cons (lit_rel (n := 2) ⟨by decide, by decide⟩ oB10) lit_nil))) bB11 rfl (by simp)
        have HFR : Fresh (w.heap.size + 1) _ [.int .i64 2, .slice (some ⟨w91.heap.size + 1 + 1 + 1 + 1 + 1 + 1 + 1 + 1 + 1 + 1, 0, none⟩) 3 3] ((2, [(3, [[0, 0, 1], [0, 1, 0], [1, 0, 0], [1, 1, 1]]), (1, [[0]]), (2, [[0, 1], [1, 0]])]) : Tmpl) := ⟨_, lit_rel ⟨by decide, by decide⟩ oB11, by simp <;> omega, by simp <;> omega⟩
        have k0_0 := hs150.cellAt 0 rfl 0 rfl
        have k0_1 := hs150.cellAt 0 rfl 1 rfl
        have k1_0 := hs150.cellAt 1 rfl 0 rfl
        have k1_1 := hs150.cellAt 1 rfl 1 rfl
        have k1_2 := hs150.cellAt 1 rfl 2 rfl
        have k2_0 := hs150.cellAt 2 rfl 0 rfl
        have k2_1 := hs150.cellAt 2 rfl 1 rfl
        have k2_2 := hs150.cellAt 2 rfl 2 rfl
        have k3_0 := hs150.cellAt 3 rfl 0 rfl
        have k3_1 := hs150.cellAt 3 rfl 1 rfl
        have k3_2 := hs150.cellAt 3 rfl 2 rfl
        have k4_0 := hs150.cellAt 4 rfl 0 rfl
        have k4_1 := hs150.cellAt 4 rfl 1 rfl
        have k4_2 := hs150.cellAt 4 rfl 2 rfl
        have k5_0 := hs150.cellAt 5 rfl 0 rfl
        have k5_1 := hs150.cellAt 5 rfl 1 rfl
        have k5_2 := hs150.cellAt 5 rfl 2 rfl
        have k5_3 := hs150.cellAt 5 rfl 3 rfl
        have k6_0 := hs150.cellAt 6 rfl 0 rfl
        have k7_0 := hs150.cellAt 7 rfl 0 rfl
        have k8_0 := hs150.cellAt 8 rfl 0 rfl
        have k8_1 := hs150.cellAt 8 rfl 1 rfl
        have k9_0 := hs150.cellAt 9 rfl 0 rfl
        have k9_1 := hs150.cellAt 9 rfl 1 rfl
        have k10_0 := hs150.cellAt 10 rfl 0 rfl
        have k10_1 := hs150.cellAt 10 rfl 1 rfl
        have k11_0 := hs150.cellAt 11 rfl 0 rfl
        have k11_1 := hs150.cellAt 11 rfl 1 rfl
        have k11_2 := hs150.cellAt 11 rfl 2 rfl
        have k11_3 := hs150.cellAt 11 rfl 3 rfl
        have k11_4 := hs150.cellAt 11 rfl 4 rfl
        have k11_5 := hs150.cellAt 11 rfl 5 rfl
        have f0_0 := hs150.freeAt 0 rfl 0
        have f0_1 := hs150.freeAt 0 rfl 1
        go_wp2_with fail
        have hs9 := (hs150.set (p := []) (by simp <;> omega) 0 (.int .i64 2)).set (p := []) (by simp <;> omega) 1 (.slice (some ⟨w91.heap.size + 1 + 1 + 1 + 1 + 1 + 1 + 1 + 1 + 1 + 1, 0, none⟩) 3 3)
        have x0 := hs9.cellAt 0 rfl 0 rfl
        have x1 := hs9.cellAt 0 rfl 1 rfl
        have HFS := ((HFR.setCell (a := ⟨w.heap.size, 0, none⟩) (by simp) (.int .i64 2)).setCell (a := ⟨w.heap.size, 1, none⟩) (by simp) (.slice (some ⟨w91.heap.size + 1 + 1 + 1 + 1 + 1 + 1 + 1 + 1 + 1 + 1, 0, none⟩) 3 3)).lower (lo' := w.heap.size) (by omega)
        have HSF := ((HSR_151.out.below ((Below.refl B _).setCell (p := ⟨w.heap.size, 0, none⟩) (by simp; omega) (.int .i64 2))).below ((Below.refl B _).setCell (p := ⟨w.heap.size, 1, none⟩) (by simp; omega) (.slice (some ⟨w91.heap.size + 1 + 1 + 1 + 1 + 1 + 1 + 1 + 1 + 1 + 1, 0, none⟩) 3 3)))
        exact bodyPost_ret (v := .agg #[.int .i64 2, .slice (some ⟨w91.heap.size + 1 + 1 + 1 + 1 + 1 + 1 + 1 + 1 + 1 + 1, 0, none⟩) 3 3]) (by simp [results, Tryz.results72, go_sem, x0, x1]) rfl ⟨2, _, rfl, [(3, [[0, 0, 1], [0, 1, 0], [1, 0, 0], [1, 1, 1]]), (1, [[0]]), (2, [[0, 1], [1, 0]])], HFS, by decide, HSF.more (by omega), HBT_95.out.trans (but_of hs9.bel)⟩
      · have g2 := h2
        by_cases h3 : r0 = 3
        · obtain rfl := h3
          clear k0_0 k0_1
          have hs152 := hs93.alloc #[.int .i64 0, .int .i64 1] 2 (n := w91.heap.size) (by simp)
          have HSR_153 := Lib.hid (Src.mono HSR_94.out (belowA _ (.cells #[.int .i64 0, .int .i64 1] 2)))
          clear HSR_94
          have hs154 := hs152.alloc #[.int .i64 1, .int .i64 2] 2 (n := w91.heap.size + 1) (by simp)
          have HSR_155 := Lib.hid (Src.mono HSR_153.out (belowA _ (.cells #[.int .i64 1, .int .i64 2] 2)))
          clear HSR_153
          have hs156 := hs154.alloc #[.int .i64 2, .int .i64 0] 2 (n := w91.heap.size + 1 + 1) (by simp)
          have HSR_157 := Lib.hid (Src.mono HSR_155.out (belowA _ (.cells #[.int .i64 2, .int .i64 0] 2)))
          clear HSR_155
          have hs158 := hs156.alloc #[.slice (some ⟨w91.heap.size, 0, none⟩) 2 2, .slice (some ⟨w91.heap.size + 1, 0, none⟩) 2 2, .slice (some ⟨w91.heap.size + 1 + 1, 0, none⟩) 2 2] 32 (n := w91.heap.size + 1 + 1 + 1) (by simp)
          have HSR_159 := Lib.hid (Src.mono HSR_157.out (belowA _ (.cells #[.slice (some ⟨w91.heap.size, 0, none⟩) 2 2, .slice (some ⟨w91.heap.size + 1, 0, none⟩) 2 2, .slice (some ⟨w91.heap.size + 1 + 1, 0, none⟩) 2 2] 32)))
          clear HSR_157
          have hs160 := hs158.alloc #[.int .i64 0] 2 (n := w91.heap.size + 1 + 1 + 1 + 1) (by simp)
          have HSR_161 := Lib.hid (Src.mono HSR_159.out (belowA _ (.cells #[.int .i64 0] 2)))
          clear HSR_159
          have hs162 := hs160.alloc #[.slice (some ⟨w91.heap.size + 1 + 1 + 1 + 1, 0, none⟩) 1 1] 32 (n := w91.heap.size + 1 + 1 + 1 + 1 + 1) (by simp)
          have HSR_163 := Lib.hid (Src.mono HSR_161.out (belowA _ (.cells #[.slice (some ⟨w91.heap.size + 1 + 1 + 1 + 1, 0, none⟩) 1 1] 32)))
          clear HSR_161
          have hs164 := hs162.alloc #[.int .i64 2, .slice (some ⟨w91.heap.size + 1 + 1 + 1, 0, none⟩) 3 3, .int .i64 1, .slice (some ⟨w91.heap.size + 1 + 1 + 1 + 1 + 1, 0, none⟩) 1 1] 50 (n := w91.heap.size + 1 + 1 + 1 + 1 + 1 + 1) (by simp)
          have HSR_165 := Lib.hid (Src.mono HSR_163.out (belowA _ (.cells #[.int .i64 2, .slice (some ⟨w91.heap.size + 1 + 1 + 1, 0, none⟩) 3 3, .int .i64 1, .slice (some ⟨w91.heap.size + 1 + 1 + 1 + 1 + 1, 0, none⟩) 1 1] 50)))
          clear HSR_163
          have bB1 := (hs164.box (w91.heap.size, #[.int .i64 0, .int .i64 1], 2) (by simp)).2.2
          have oB1 := lit_done (lit_cons (lit_int (n := 0) ⟨by decide, by decide⟩) (lit_cons (lit_int (n := 1) ⟨by decide, by decide⟩) lit_nil)) bB1 rfl (by simp)
          have bB2 := (hs164.box (w91.heap.size + 1, #[.int .i64 1, .int .i64 2], 2) (by simp)).2.2
          have oB2 := lit_done (lit_cons (lit_int (n := 1) ⟨by decide, by decide⟩) (lit_cons (lit_int (n := 2) ⟨by decide, by decide⟩) lit_nil)) bB2 rfl (by simp)
          have bB3 := (hs164.box (w91.heap.size + 1 + 1, #[.int .i64 2, .int .i64 0], 2) (by simp)).2.2
          have oB3 := lit_done (lit_cons (lit_int (n := 2) ⟨by decide, by decide⟩) (lit_cons (lit_int (n := 0) ⟨by decide, by decide⟩) lit_nil)) bB3 rfl (by simp)
          have bB4 := (hs164.box (w91.heap.size + 1 + 1 + 1, #[.slice (some ⟨w91.heap.size, 0, none⟩) 2 2, .slice (some ⟨w91.heap.size + 1, 0, none⟩) 2 2, .slice (some ⟨w91.heap.size + 1 + 1, 0, none⟩) 2 2], 32) (by simp)).2.2
          have oB4 := lit_done (lit_cons (oB1) (lit_cons (oB2) (lit_cons (oB3) lit_nil))) bB4 rfl (by simp)
          have bB5 := (hs164.box (w91.heap.size + 1 + 1 + 1 + 1, #[.int .i64 0], 2) (by simp)).2.2
          have oB5 := lit_done (lit_cons (lit_int (n := 0) ⟨by decide, by decide⟩) lit_nil) bB5 rfl (by simp)
          have bB6 := (hs164.box (w91.heap.size + 1 + 1 + 1 + 1 + 1, #[.slice (some ⟨w91.heap.size + 1 + 1 + 1 + 1, 0, none⟩) 1 1], 32) (by simp)).2.2
          have oB6 := lit_done (lit_cons (oB5) lit_nil) bB6 rfl (by simp)
          have bB7 := (hs164.box (w91.heap.size + 1 + 1 + 1 + 1 + 1 + 1, #[.int .i64 2, .slice (some ⟨w91.heap.size + 1 + 1 + 1, 0, none⟩) 3 3, .int .i64 1, .slice (some ⟨w91.heap.size + 1 + 1 + 1 + 1 + 1, 0, none⟩) 1 1], 50) (by simp)).2.2
          have oB7 := lit_done (lit_cons (lit_rel (n := 2) ⟨by decide, by decide⟩ oB4) (lit_cons (lit_rel (n := 1) ⟨by decide, by decide⟩ oB6) lit_nil)) bB7 rfl (by simp)
          have HFR : Fresh (w.heap.size + 1) _ [.int .i64 3, .slice (some ⟨w91.heap.size + 1 + 1 + 1 + 1 + 1 + 1, 0, none⟩) 2 2] ((3, [(2, [[0, 1], [1, 2], [2, 0]]), (1, [[0]])]) : Tmpl) := ⟨_, lit_rel ⟨by decide, by decide⟩ oB7, by simp <;> omega, by simp <;> omega⟩
          have k0_0 := hs164.cellAt 0 rfl 0 rfl
          have k0_1 := hs164.cellAt 0 rfl 1 rfl
          have k1_0 := hs164.cellAt 1 rfl 0 rfl
          have k1_1 := hs164.cellAt 1 rfl 1 rfl
          have k2_0 := hs164.cellAt 2 rfl 0 rfl
          have k2_1 := hs164.cellAt 2 rfl 1 rfl
          have k3_0 := hs164.cellAt 3 rfl 0 rfl
          have k3_1 := hs164.cellAt 3 rfl 1 rfl
          have k4_0 := hs164.cellAt 4 rfl 0 rfl
          have k4_1 := hs164.cellAt 4 rfl 1 rfl
          have k4_2 := hs164.cellAt 4 rfl 2 rfl
          have k5_0 := hs164.cellAt 5 rfl 0 rfl
          have k6_0 := hs164.cellAt 6 rfl 0 rfl
          have k7_0 := hs164.cellAt 7 rfl 0 rfl
          have k7_1 := hs164.cellAt 7 rfl 1 rfl
          have k7_2 := hs164.cellAt 7 rfl 2 rfl
          have k7_3 := hs164.cellAt 7 rfl 3 rfl
          have f0_0 := hs164.freeAt 0 rfl 0
          have f0_1 := hs164.freeAt 0 rfl 1
          go_wp2_with fail
          have hs9 := (hs164.set (p := []) (by simp <;> omega) 0 (.int .i64 3)).set (p := []) (by simp <;> omega) 1 (.slice (some ⟨w91.heap.size + 1 + 1 + 1 + 1 + 1 + 1, 0, none⟩) 2 2)
          have x0 := hs9.cellAt 0 rfl 0 rfl
          have x1 := hs9.cellAt 0 rfl 1 rfl
          have HFS := ((HFR.setCell (a := ⟨w.heap.size, 0, none⟩) (by simp) (.int .i64 3)).setCell (a := ⟨w.heap.size, 1, none⟩) (by simp) (.slice (some ⟨w91.heap.size + 1 + 1 + 1 + 1 + 1 + 1, 0, none⟩) 2 2)).lower (lo' := w.heap.size) (by omega)
          have HSF := ((HSR_165.out.below ((Below.refl B _).setCell (p := ⟨w.heap.size, 0, none⟩) (by simp; omega) (.int .i64 3))).below ((Below.refl B _).setCell (p := ⟨w.heap.size, 1, none⟩) (by simp; omega) (.slice (some ⟨w91.heap.size + 1 + 1 + 1 + 1 + 1 + 1, 0, none⟩) 2 2)))
          exact bodyPost_ret (v := .agg #[.int .i64 3, .slice (some ⟨w91.heap.size + 1 + 1 + 1 + 1 + 1 + 1, 0, none⟩) 2 2]) (by simp [results, Tryz.results72, go_sem, x0, x1]) rfl ⟨3, _, rfl, [(2, [[0, 1], [1, 2], [2, 0]]), (1, [[0]])], HFS, by decide, HSF.more (by omega), HBT_95.out.trans (but_of hs9.bel)⟩
        · have g3 := h3
          obtain rfl : r0 = 4 := by omega
          go_wp2_with fail
          refine (l04Small_c L B b (k + 1) _ HSR_94.out (by omega) (by omega)).mono ?_
          rintro e w166 ⟨size, v, rfl, l, fr9, ok9, hrw166, hbw166⟩
          obtain ⟨wz167, hs168, hz_wz167, hy_wz167, hc_wz167⟩ := hs93.cut hbw166 (by intro k hk; simp only [List.mem_singleton] at hk; omega)
          have hz_w166 : w91.heap.size ≤ w166.heap.size := by have h9 := hbw166.size; (try simp at h9); omega
          have HSR_169 := Lib.hid hrw166
          clear HSR_94
          have HBT_170 := Lib.hid (HBT_95.out.trans hc_wz167)
          clear HBT_95
          clear hrw166 hc_wz167
          clear k0_0 k0_1
          have k0_0 := hs168.cellAt 0 rfl 0 rfl
          have k0_1 := hs168.cellAt 0 rfl 1 rfl
          have hf9 : Fresh _ _ [v] l := fresh_snd rfl fr9
          obtain ⟨a9, c9, rfl, hsl9⟩ := rd_list hf9.rd
          have HFR := Lib.hid fr9
          have HOK := Lib.hid ok9
          clear hf9 hsl9 fr9 ok9
          have f0_0 := hs168.freeAt 0 rfl 0
          have f0_1 := hs168.freeAt 0 rfl 1
          go_wp2_with fail
          have hs9 := (hs168.set (p := []) (by simp <;> omega) 0 (.int .i64 size)).set (p := []) (by simp <;> omega) 1 (.slice a9 l.length c9)
          have x0 := hs9.cellAt 0 rfl 0 rfl
          have x1 := hs9.cellAt 0 rfl 1 rfl
          have HFS := ((HFR.out.setCell (a := ⟨w.heap.size, 0, none⟩) (by (try simp); omega) (.int .i64 size)).setCell (a := ⟨w.heap.size, 1, none⟩) (by (try simp); omega) (.slice a9 l.length c9)).lower (lo' := w.heap.size) (by omega)
          have HSF := ((HSR_169.out.below ((Below.refl B _).setCell (p := ⟨w.heap.size, 0, none⟩) (by simp; omega) (.int .i64 size))).below ((Below.refl B _).setCell (p := ⟨w.heap.size, 1, none⟩) (by simp; omega) (.slice a9 l.length c9)))
          exact bodyPost_ret (v := .agg #[.int .i64 size, .slice a9 l.length c9]) (by simp [results, Tryz.results72, go_sem, x0, x1]) rfl ⟨size, _, rfl, l, HFS, HOK.out, HSF.more (by omega), HBT_170.out.trans (but_of hs9.bel)⟩

end Go.Proofs.YtllenfkbfeanmaaGreat

