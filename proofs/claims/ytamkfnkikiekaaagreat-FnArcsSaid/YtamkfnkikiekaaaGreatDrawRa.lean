/-
  CONTRACTS: what the reference draws: numbers, one of some numbers, relations.
-/
import Derived.Test.YtamkfnkikiekaaaGreatSrcRa
import Derived.Test.YtamkfnkikiekaaaGreatTmplBRa
import Derived.Test.YtamkfnkikiekaaaGreatKindPRa
namespace Go.Proofs.YtamkfnkikiekaaaGreat
open Go.RowKit Go.Shelf Go.IntWalk
open Rep (Rd Own sz)
set_option linter.unusedSimpArgs false
set_option linter.unusedVariables false

set_option maxRecDepth 100000 in
set_option maxHeartbeats 4000000 in
theorem pickG_c (n : Int) (L B b k : Nat) (w : World) (h : Src L B w b k) (hk : k ≤ 900000000) (h1 : n ≤ 200) :
    Calls Tryz.prog 38 #[.pointer (some ⟨b, 0, none⟩), .int .i64 n] w fun e w' => ∃ v : Int, e = .returned (.int .i64 v) ∧ 0 ≤ v ∧ (1 ≤ n → v < n) ∧ Src L B w' b (k + 1) ∧ But [b] w w' := by
  by_cases h2 : 2 ≤ n
  · refine (pick_c n L B b k w h (by omega) h2 h1).mono ?_
    rintro e w1 ⟨v, rfl, hv0, hv1, hs, hb⟩
    exact ⟨v, rfl, hv0, fun _ => hv1, hs, hb⟩
  · have H := Lib.hid h
    clear h
    go_enter Tryz.func38, Tryz.ntmps38
    have hn1 : n ≤ 1 := by omega
    go_wp2_with fail
    go_ret
    exact ⟨0, rfl, by omega, fun _ => by omega, H.out.more (by omega), But.refl [b] w⟩
set_option maxRecDepth 100000 in
set_option maxHeartbeats 4000000 in
theorem among_c (l : List Int) (vl : Value) (lo L B b k : Nat) (w : World) (h : Src L B w b k) (hk : k ≤ 900000000) (hl : Fresh lo w [vl] l) (hlo : b < lo) (h0 : 2 ≤ l.length) (h1 : l.length ≤ 200) :
    Calls Tryz.prog 68 #[.pointer (some ⟨b, 0, none⟩), vl] w fun e w' => ∃ v : Int, e = .returned (.int .i64 v) ∧ v ∈ l ∧ Src L B w' b (k + 1) ∧ But [b] w w' := by
  have H := Lib.hid h
  have HL := Lib.hid hl
  obtain ⟨a, c, rfl, _⟩ := rd_list hl.rd
  clear h hl
  go_enter Tryz.func68, Tryz.ntmps68
  go_wp2_with fail
  refine (pick_c l.length L B b k _ H.out (by omega) (by omega) (by omega)).mono ?_
  rintro e w1 ⟨v, rfl, hv0, hv1, hs, hb⟩
  obtain ⟨j, rfl⟩ : ∃ j : Nat, v = j := ⟨v.toNat, by omega⟩
  have hj : j < l.length := by omega
  obtain ⟨g, o, rfl, hc, _⟩ := rd_int_at (HL.out.but hb (fun z hz => by simp only [List.mem_singleton] at hz; omega)).rd j hj
  have HS := Lib.hid hs
  have HB := Lib.hid hb
  have HM := Lib.hid (List.getElem_mem hj)
  clear hs hb
  generalize l[j] = x at *
  go_wp2_with fail
  go_ret
  exact ⟨x, rfl, HM.out, HS.out, HB.out⟩

/-- Tuples that rise, whose numbers are less than i. -/
def Lst (size ar : Int) (i : Nat) (l : List (List Int)) : Prop := tupsOk size ar l = true ∧ (∀ t, t ∈ l → (t.length : Int) = ar ∧ Val size t ∧ codeL size t < i)
theorem lst_nil (size ar : Int) : Lst size ar 0 [] := ⟨by simp [tupsOk], fun t ht => by cases ht⟩
theorem lst_up {size ar : Int} {i : Nat} {l : List (List Int)} (h : Lst size ar i l) : Lst size ar (i + 1) l := ⟨h.1, fun t ht => ⟨(h.2 t ht).1, (h.2 t ht).2.1, by have := (h.2 t ht).2.2; omega⟩⟩
theorem valsOk_of {size ar : Int} {t : List Int} (h : (t.length : Int) = ar) (hv : Val size t) : valsOk size t ar = true := by
  simp only [valsOk, Bool.and_eq_true, decide_eq_true_eq, List.all_eq_true]
  exact ⟨h, fun a ha => inB_mk (hv a ha)⟩
theorem tups_snoc {size ar : Int} {l : List (List Int)} {t : List Int} (h : tupsOk size ar l = true) (ht : (t.length : Int) = ar) (hv : Val size t) (hc : ∀ u, u ∈ l → cmpL u t < 0) : tupsOk size ar (l ++ [t]) = true := by
  refine tupsOk_of (fun j hj => ?_)
  simp only [List.length_append, List.length_singleton] at hj
  rcases Nat.lt_or_ge j l.length with h1 | h1
  · have := tupsOk_get h j h1
    unfold tupAt at this ⊢
    have e1 : (l ++ [t]).getD j [] = l.getD j [] := by simp [List.getD, List.getElem?_append_left h1]
    have e2 : (l ++ [t]).getD (j - 1) [] = l.getD (j - 1) [] := by simp [List.getD, List.getElem?_append_left (show j - 1 < l.length by omega)]
    rw [e1, e2]; exact this
  · obtain rfl : j = l.length := by omega
    unfold tupAt
    have e1 : (l ++ [t]).getD l.length [] = t := by simp [List.getD]
    rw [e1]
    simp only [Bool.and_eq_true, Bool.or_eq_true, decide_eq_true_eq]
    refine ⟨valsOk_of ht hv, ?_⟩
    by_cases h0 : l.length = 0
    · exact .inl h0
    · refine .inr ?_
      have e2 : (l ++ [t]).getD (l.length - 1) [] = l.getD (l.length - 1) [] := by simp [List.getD, List.getElem?_append_left (show l.length - 1 < l.length by omega)]
      rw [e2]
      refine hc _ ?_
      simp [List.getD, show l.length - 1 < l.length by omega]
theorem lst_snoc {size : Int} {m i : Nat} {l : List (List Int)} (hs : 1 ≤ size) (h : Lst size m i l) (hi : (i : Int) < size ^ m) : Lst size m (i + 1) (l ++ [digs size m i]) := by
  have hv := digsK_val hs m i
  have hcode : codeL size (digs size m i) = i := by rw [digsK_code hs]; exact Int.emod_eq_of_lt (by omega) hi
  refine ⟨tups_snoc h.1 (by simp) hv (fun u hu => ?_), fun t ht => ?_⟩
  · have hu2 := h.2 u hu
    have hlen : u.length = (digs size m i).length := by simp; omega
    rcases cmp_tri u (digs size m i) hlen with h3 | h3 | h3
    · subst h3; have := hu2.2.2; omega
    · exact h3
    · have := code_lt hs _ _ hlen.symm hv hu2.2.1 h3
      have := hu2.2.2
      omega
  · rcases List.mem_append.1 ht with h3 | h3
    · have := h.2 t h3; exact ⟨this.1, this.2.1, by omega⟩
    · simp only [List.mem_singleton] at h3
      subst h3
      exact ⟨by simp, hv, by omega⟩
theorem fresh_icD {β : Type} [Rep β] {H : Nat} {w : World} {p : Int} {v : Value} {l : β} (hp : I64 p) (h : Fresh H w [v] l) : Fresh H w [.int .i64 p, v] (p, l) := by
  obtain ⟨ps, h1, h2, h3⟩ := h
  exact ⟨ps, mk_own (p := []) ⟨rfl, rfl, hp⟩ h1, by simpa using h2, fun k hk => h3 k (by simpa using hk)⟩
set_option maxRecDepth 100000 in
set_option maxHeartbeats 4000000 in
theorem l01DrawnA_c (size : Int) (M : Nat) (L B b k : Nat) (w : World) (h : Src L B w b k) (hB : B ≤ w.heap.size) (hk : k ≤ 800000000) (hs : 1 ≤ size ∧ size ≤ 4) (hM : 1 ≤ M ∧ M ≤ 4) :
    Calls Tryz.prog 41 #[.pointer (some ⟨b, 0, none⟩), .int .i64 size, .int .i64 M] w fun e w' => ∃ v : Value, e = .returned (.agg #[.int .i64 M, v]) ∧ ∃ l : List (List Int), AccP (fun z => w.heap.size ≤ z) 47 w' v l ∧ relOk size ((M : Int), l) = true ∧ Src L B w' b (k + 1000) ∧ But [b] w w' := by
  have hbw := h.lt
  have HSR := Lib.hid h
  have HBT := Lib.hid (But.refl [b] w)
  have hp := pow256 hs (show 1 ≤ (M : Int) ∧ (M : Int) ≤ 4 by omega)
  rw [Int.toNat_natCast] at hp
  obtain ⟨PN, hPN⟩ : ∃ PN : Nat, size ^ M = (PN : Int) := ⟨(size ^ M).toNat, by omega⟩
  rw [hPN] at hp
  have HPN := Lib.hid hPN
  clear h hPN
  have hs1 := (St.start w).alloc #[.int .i64 0, .slice none 0 0] 57 (n := w.heap.size) (by simp)
  have HSR_2 := Lib.hid (Src.mono HSR.out (belowA _ (.cells #[.int .i64 0, .slice none 0 0] 57)))
  clear HSR
  have k0_0 := hs1.cellAt 0 rfl 0 rfl
  have k0_1 := hs1.cellAt 0 rfl 1 rfl
  go_enter Tryz.func41, Tryz.ntmps41
  have hs3 := hs1.alloc #[.int .i64 M, .slice none 0 0] 57 (n := w.heap.size + 1) (by simp)
  have HSR_4 := Lib.hid (Src.mono HSR_2.out (belowA _ (.cells #[.int .i64 M, .slice none 0 0] 57)))
  clear HSR_2
  clear k0_0 k0_1
  have k0_0 := hs3.cellAt 0 rfl 0 rfl
  have k0_1 := hs3.cellAt 0 rfl 1 rfl
  have k1_0 := hs3.cellAt 1 rfl 0 rfl
  have k1_1 := hs3.cellAt 1 rfl 1 rfl
  go_wp2_with fail
  refine (pick_c 5 L B b k _ HSR_4.out (by omega) (by omega) (by omega)).mono ?_
  rintro e w5 ⟨OF, rfl, hof0, hof1, hrw5, hbw5⟩
  obtain ⟨wz6, hs7, hz_wz6, hy_wz6, hc_wz6⟩ := hs3.cut hbw5 (by intro k hk; simp only [List.mem_singleton] at hk; omega)
  have hz_w5 : w.heap.size + 1 + 1 ≤ w5.heap.size := by have h9 := hbw5.size; (try simp at h9); omega
  have HSR_8 := Lib.hid hrw5
  clear HSR_4
  have HBT_9 := Lib.hid (HBT.out.trans hc_wz6)
  clear HBT
  clear hrw5 hc_wz6
  clear k0_0 k0_1 k1_0 k1_1
  have k0_0 := hs7.cellAt 0 rfl 0 rfl
  have k0_1 := hs7.cellAt 0 rfl 1 rfl
  have k1_0 := hs7.cellAt 1 rfl 0 rfl
  have k1_1 := hs7.cellAt 1 rfl 1 rfl
  go_wp2_with fail
  refine (l01Power_c size M _ (by omega) (by omega) (by omega) (by rw [Int.toNat_natCast, HPN.out]; omega)).mono ?_
  rintro e w10 ⟨rfl, rfl, rfl⟩
  rw [Int.toNat_natCast, HPN.out]
  go_wp2_with fail
  have HST := Lib.hid hs7
  have HSR9 := Lib.hid HSR_8.out
  have HBT9 := Lib.hid HBT_9.out
  have hzz : w.heap.size + 1 ≤ w.heap.size + 1 := by omega
  go_loopw [10] (fun i wl => ∃ (j : Nat) (wz : World) (a : Option Addr) (c : Nat) (l : List (List Int)), j ≤ PN ∧ i = .int .i64 j ∧ Hid (Lst size M j l) ∧ Hid (l.length ≤ j) ∧ Hid (w.heap.size ≤ wz.heap.size ∧ But [b] w wz) ∧ Hid (St wz (w.heap.size + 1 + 1) wl [(w.heap.size, #[.int .i64 0, .slice none 0 0], 57), (w.heap.size + 1, #[.int .i64 M, .slice a l.length c], 57)]) ∧ Hid (AccP (fun z => w.heap.size + 1 + 1 ≤ z ∧ z < wl.heap.size) 47 wl (.slice a l.length c) l) ∧ Hid (Src L B wl b (k + 1 + 2 * j))) (fun i _ => PN - (intOf i).toNat)
  case atStart => exact ⟨0, wz6, none, 0, [], Nat.zero_le _, rfl, lst_nil _ _, Nat.le_refl _, ⟨by omega, HBT9.out⟩, HST.out, AccP.nil _ _ _, HSR9.out⟩
  case round =>
    clear HST HSR9 HBT9
    obtain ⟨j, wz, a, c, l, hj, rfl, hl, hln, hwz, hst, hac, hsr⟩ := hrel
    have HAC := hac
    have HSR := hsr
    have hwz1 := hwz.out.1
    have HBT := Lib.hid hwz.out.2
    have hs0 := hst.out
    have hszr := hst.out.hi
    have hlo0 := hst.out.lo
    clear hac hsr
    have k0_0 := hs0.cellAt 0 rfl 0 rfl
    have k0_1 := hs0.cellAt 0 rfl 1 rfl
    have k1_0 := hs0.cellAt 1 rfl 0 rfl
    have k1_1 := hs0.cellAt 1 rfl 1 rfl
    by_cases hlt : j < PN
    · have hltI : (j : Int) < PN := by omega
      go_wp2_with fail
      refine (pick_c 5 L B b (k + 1 + 2 * j) _ HSR.out (by omega) (by omega) (by omega)).mono ?_
      rintro e w11 ⟨r1, rfl, hr0, hr1, hrw11, hbw11⟩
      obtain ⟨wz12, hs13, hz_wz12, hy_wz12, hc_wz12⟩ := hs0.cut hbw11 (by intro k hk; simp only [List.mem_singleton] at hk; omega)
      have hz_w11 : wr.heap.size ≤ w11.heap.size := by have h9 := hbw11.size; (try simp at h9); omega
      have HAC_14 := Lib.hid (AccP.butL HAC.out hbw11 (by intro k hk; simp only [List.mem_singleton] at hk; omega))
      clear HAC
      have HSR_15 := Lib.hid hrw11
      clear HSR
      have HBT_16 := Lib.hid (HBT.out.trans hc_wz12)
      clear HBT
      clear hrw11 hc_wz12
      clear k0_0 k0_1 k1_0 k1_1
      have k0_0 := hs13.cellAt 0 rfl 0 rfl
      have k0_1 := hs13.cellAt 0 rfl 1 rfl
      have k1_0 := hs13.cellAt 1 rfl 0 rfl
      have k1_1 := hs13.cellAt 1 rfl 1 rfl
      by_cases hle : r1 ≤ OF
      · go_upto_region 8 with fail
        refine wp_region_noPanic (wp_region_tree4 (fun w' => w'.cell? ⟨w.heap.size, 0, none⟩ = some (.int .i64 0) ∧ w'.cell? ⟨w.heap.size, 1, none⟩ = some (.slice none 0 0) ∧ w'.cell? ⟨w.heap.size + 1, 0, none⟩ = some (.int .i64 M) ∧ w'.cell? ⟨w.heap.size + 1, 1, none⟩ = some (.slice a l.length c)) (.float 0 (.float 1 (.float 2 (.float 3 (.float 4 (.hard 5 (.hard 6 (.hard 7 (.float 8 (.last 9 .nil)))))))))) (by kernel_rfl) (by kernel_rfl) (by kernel_rfl) rfl ?_ (fun _ _ _ _ _ h => h) ?_)
        · exact ⟨(hs13.drew).cellAt 0 rfl 0 rfl, (hs13.drew).cellAt 0 rfl 1 rfl, (hs13.drew).cellAt 1 rfl 0 rfl, (hs13.drew).cellAt 1 rfl 1 rfl⟩
        have hs17 := hs13.drew
        have HAC_18 := Lib.hid (AccP.mono HAC_14.out (belowD _))
        clear HAC_14
        have HSR_19 := Lib.hid (Src.mono HSR_15.out (belowD _))
        clear HSR_15
        clear k0_0 k0_1 k1_0 k1_1
        have hz_wd20 : w11.heap.size ≤ (w11.drew).heap.size := by simp
        generalize hgen_wd20 : w11.drew = wd20 at *
        have HG_wd20 := Lib.hid hgen_wd20
        clear hgen_wd20
        (repeat (first | (apply t4_skip rfl (by rfl); try simp only [Act.put, List.setIfInBounds_toArray, List.set_cons_zero, List.set_cons_succ]) | (apply t4_float rfl (by rfl); (· (intro w' hS; go_simp <;> with_reducible rfl)); (try simp only [Act.put, List.setIfInBounds_toArray, List.set_cons_zero, List.set_cons_succ]))))
        refine t4_hard rfl (by rfl) (fun K hK => ?_)
        go_wp2_with (go_at_call 72; refine (l01Digits_c size M j _ (by omega) (by omega) (by omega) (by omega) (by omega) (by omega)).mono ?_; rintro e w21 ⟨vv, rfl, fr, hbw21⟩)
        have hz_w21 : wd20.heap.size ≤ w21.heap.size := by have h9 := hbw21.size; (try simp at h9); omega
        have hs22 := hs17.step hbw21
        have HAC_23 := Lib.hid (AccP.mono HAC_18.out hbw21)
        clear HAC_18
        have HSR_24 := Lib.hid (Src.mono HSR_19.out hbw21)
        clear HSR_19
        rw [Int.toNat_natCast] at fr
        obtain ⟨DG, hDG⟩ : ∃ DG, DG = digs size M j := ⟨_, rfl⟩
        rw [← hDG] at fr
        obtain ⟨av, cv, rfl, _⟩ := rd_list fr.rd
        have HDG := Lib.hid hDG
        clear hDG
        have HFR := Lib.hid fr
        clear fr
        refine ⟨⟨hs22.cellAt 0 rfl 0 rfl, hs22.cellAt 0 rfl 1 rfl, hs22.cellAt 1 rfl 0 rfl, hs22.cellAt 1 rfl 1 rfl⟩, ?_⟩
        (repeat (first | (apply t4_skip rfl (by rfl); try simp only [Act.put, List.setIfInBounds_toArray, List.set_cons_zero, List.set_cons_succ]) | (apply t4_float rfl (by rfl); (· (intro w' hS; go_simp <;> with_reducible rfl)); (try simp only [Act.put, List.setIfInBounds_toArray, List.set_cons_zero, List.set_cons_succ]))))
        refine t4_hard rfl (by rfl) (fun K hK => ?_)
        go_wp2_with fail
        have hs25 := hs22.alloc #[.slice av DG.length cv] 47 (n := w21.heap.size) (by simp)
        have HAC_26 := Lib.hid (AccP.mono HAC_23.out (belowA _ (.cells #[.slice av DG.length cv] 47)))
        clear HAC_23
        have HSR_27 := Lib.hid (Src.mono HSR_24.out (belowA _ (.cells #[.slice av DG.length cv] 47)))
        clear HSR_24
        have HFR_28 := Lib.hid (Fresh.mono HFR.out (belowA _ (.cells #[.slice av DG.length cv] 47)))
        clear HFR
        refine ⟨⟨hs25.cellAt 0 rfl 0 rfl, hs25.cellAt 0 rfl 1 rfl, hs25.cellAt 1 rfl 0 rfl, hs25.cellAt 1 rfl 1 rfl⟩, ?_⟩
        (repeat (first | (apply t4_skip rfl (by rfl); try simp only [Act.put, List.setIfInBounds_toArray, List.set_cons_zero, List.set_cons_succ]) | (apply t4_float rfl (by rfl); (· (intro w' hS; go_simp <;> with_reducible rfl)); (try simp only [Act.put, List.setIfInBounds_toArray, List.set_cons_zero, List.set_cons_succ]))))
        refine t4_hard rfl (by rfl) (fun K hK => ?_)
        have hsW := hs25.hi
        have hlnw := hln.out
        refine wp_append_accP _ _ _ _ rfl E_lists rfl HAC_26.out (HFR_28.out.ip) (fun z h1 h2 => by have h3 := h1.2; have h4 := h2.1; omega) ⟨w21.heap.size, 0, none⟩ 1 rfl (news1 (hs25.cellAt 2 rfl 0 rfl)) (by omega) ?_
        intro a8 c8 w8 hA8 hB8
        have hz8 := hB8.size
        have hs8 := hs25.butP hB8 (fun z hz => by have := hz.1; omega) (fun x hx hA => by have h1 := hA.1; have h2 := hA.2; simp at hx; rcases hx with rfl | rfl | rfl <;> (try simp only at h1 h2) <;> omega)
        have HA8 := Lib.hid (AccP.wk hA8.tight (C := fun z => w.heap.size + 1 + 1 ≤ z ∧ z < w8.heap.size) (fun z hz => ⟨by
          rcases hz.1 with h | h | h
          · exact h.1
          · have h4 := h.1; omega
          · rw [h]; (try simp); omega, hz.2⟩))
        have HR8 := Lib.hid (Src.below (B := B) HSR_27.out (hB8.below (fun z hz => by have := hz.1; omega) (by (try simp); omega)))
        have HBT8 := Lib.hid HBT_16.out
        clear hA8
        clear HAC_26
        clear HFR_28
        clear HSR_27
        clear HBT_16
        refine hK _ _ ⟨⟨hs8.cellAt 0 rfl 0 rfl, hs8.cellAt 0 rfl 1 rfl, hs8.cellAt 1 rfl 0 rfl, hs8.cellAt 1 rfl 1 rfl⟩, ?_⟩
        (repeat (first | (apply t4_skip rfl (by rfl); try simp only [Act.put, List.setIfInBounds_toArray, List.set_cons_zero, List.set_cons_succ]) | (apply t4_float rfl (by rfl); (· (intro w' hS; go_simp <;> with_reducible rfl)); (try simp only [Act.put, List.setIfInBounds_toArray, List.set_cons_zero, List.set_cons_succ]))))
        refine t4_last rfl (by rfl) (fun K hK => ?_)
        have k0_0 := hs8.cellAt 0 rfl 0 rfl
        have k0_1 := hs8.cellAt 0 rfl 1 rfl
        have k1_0 := hs8.cellAt 1 rfl 0 rfl
        have k1_1 := hs8.cellAt 1 rfl 1 rfl
        have k2_0 := hs8.cellAt 2 rfl 0 rfl
        have hs29 := hs8.low (B' := w.heap.size + 1 + 1) (bx' := [(w.heap.size, #[.int .i64 0, .slice none 0 0], 57), (w.heap.size + 1, #[.int .i64 M, .slice a l.length c], 57)]) (by omega) (by (try simp) <;> omega) (fun x hx => by simp only [List.mem_cons, List.not_mem_nil, or_false] at hx; rcases hx with rfl | rfl <;> (refine ⟨?_, ?_⟩ <;> (try simp) <;> (try omega)))
        have f2 := (hs29.freeAt 1 rfl 1)
        have hq := hs29.set (p := [_]) (by simp <;> omega) 1 (.slice a8 (l.length + 1) c8)
        have HQ := Lib.hid hq
        have HA9 := Lib.hid (AccP.wk (AccP.setCell HA8.out (b := w.heap.size + 1) (o := 1) (.slice a8 (l.length + 1) c8) (by simp <;> omega)) (C := fun z => w.heap.size + 1 + 1 ≤ z ∧ z < (w8.setCell ⟨w.heap.size + 1, 1, none⟩ (.slice a8 (l.length + 1) c8)).heap.size) (fun z hz => by simpa [World.setCell] using hz))
        have HR9 := Lib.hid (Src.below HR8.out ((Below.refl B w8).setCell (p := ⟨w.heap.size + 1, 1, none⟩) (by (try simp); omega) (.slice a8 (l.length + 1) c8)))
        clear hq
        go_wp2_with fail
        refine t4_nil (NoPanic.normal ?_)
        go_wp2_with fail
        go_roundw
        case rel =>
          have hlnw := hln.out
          refine ⟨j + 1, wz12, a8, c8, l ++ [DG], by omega, by go_num, by rw [HDG.out]; exact lst_snoc hs.1 hl.out (by rw [HPN.out]; omega), by show (l ++ [DG]).length ≤ j + 1; simp; omega, ⟨by omega, HBT8.out⟩, ?_, ?_, HR9.out.more (by omega)⟩
          · simpa [Hid] using HQ.out
          · simpa [Hid] using HA9.out
        case measure => simp [intOf]; omega
      · have hle' := hle
        go_wp2_with fail
        refine (one_c 8 L B b (k + 1 + 2 * j + 1) _ HSR_15.out (by omega) (by omega) (by omega)).mono ?_
        rintro e w30 ⟨yes, rfl, hrw30, hbw30⟩
        obtain ⟨wz31, hs32, hz_wz31, hy_wz31, hc_wz31⟩ := hs13.cut hbw30 (by intro k hk; simp only [List.mem_singleton] at hk; omega)
        have hz_w30 : w11.heap.size ≤ w30.heap.size := by have h9 := hbw30.size; (try simp at h9); omega
        have HAC_33 := Lib.hid (AccP.butL HAC_14.out hbw30 (by intro k hk; simp only [List.mem_singleton] at hk; omega))
        clear HAC_14
        have HSR_34 := Lib.hid hrw30
        clear HSR_15
        have HBT_35 := Lib.hid (HBT_16.out.trans hc_wz31)
        clear HBT_16
        clear hrw30 hc_wz31
        clear k0_0 k0_1 k1_0 k1_1
        have k0_0 := hs32.cellAt 0 rfl 0 rfl
        have k0_1 := hs32.cellAt 0 rfl 1 rfl
        have k1_0 := hs32.cellAt 1 rfl 0 rfl
        have k1_1 := hs32.cellAt 1 rfl 1 rfl
        cases yes with
        | true =>
          go_upto_region 8 with fail
          refine wp_region_noPanic (wp_region_tree4 (fun w' => w'.cell? ⟨w.heap.size, 0, none⟩ = some (.int .i64 0) ∧ w'.cell? ⟨w.heap.size, 1, none⟩ = some (.slice none 0 0) ∧ w'.cell? ⟨w.heap.size + 1, 0, none⟩ = some (.int .i64 M) ∧ w'.cell? ⟨w.heap.size + 1, 1, none⟩ = some (.slice a l.length c)) (.float 0 (.float 1 (.float 2 (.float 3 (.float 4 (.hard 5 (.hard 6 (.hard 7 (.float 8 (.last 9 .nil)))))))))) (by kernel_rfl) (by kernel_rfl) (by kernel_rfl) rfl ?_ (fun _ _ _ _ _ h => h) ?_)
          · exact ⟨(hs32.drew).cellAt 0 rfl 0 rfl, (hs32.drew).cellAt 0 rfl 1 rfl, (hs32.drew).cellAt 1 rfl 0 rfl, (hs32.drew).cellAt 1 rfl 1 rfl⟩
          have hs36 := hs32.drew
          have HAC_37 := Lib.hid (AccP.mono HAC_33.out (belowD _))
          clear HAC_33
          have HSR_38 := Lib.hid (Src.mono HSR_34.out (belowD _))
          clear HSR_34
          clear k0_0 k0_1 k1_0 k1_1
          have hz_wd39 : w30.heap.size ≤ (w30.drew).heap.size := by simp
          generalize hgen_wd39 : w30.drew = wd39 at *
          have HG_wd39 := Lib.hid hgen_wd39
          clear hgen_wd39
          (repeat (first | (apply t4_skip rfl (by rfl); try simp only [Act.put, List.setIfInBounds_toArray, List.set_cons_zero, List.set_cons_succ]) | (apply t4_float rfl (by rfl); (· (intro w' hS; go_simp <;> with_reducible rfl)); (try simp only [Act.put, List.setIfInBounds_toArray, List.set_cons_zero, List.set_cons_succ]))))
          refine t4_hard rfl (by rfl) (fun K hK => ?_)
          go_wp2_with (go_at_call 72; refine (l01Digits_c size M j _ (by omega) (by omega) (by omega) (by omega) (by omega) (by omega)).mono ?_; rintro e w40 ⟨vv, rfl, fr, hbw40⟩)
          have hz_w40 : wd39.heap.size ≤ w40.heap.size := by have h9 := hbw40.size; (try simp at h9); omega
          have hs41 := hs36.step hbw40
          have HAC_42 := Lib.hid (AccP.mono HAC_37.out hbw40)
          clear HAC_37
          have HSR_43 := Lib.hid (Src.mono HSR_38.out hbw40)
          clear HSR_38
          rw [Int.toNat_natCast] at fr
          obtain ⟨DG, hDG⟩ : ∃ DG, DG = digs size M j := ⟨_, rfl⟩
          rw [← hDG] at fr
          obtain ⟨av, cv, rfl, _⟩ := rd_list fr.rd
          have HDG := Lib.hid hDG
          clear hDG
          have HFR := Lib.hid fr
          clear fr
          refine ⟨⟨hs41.cellAt 0 rfl 0 rfl, hs41.cellAt 0 rfl 1 rfl, hs41.cellAt 1 rfl 0 rfl, hs41.cellAt 1 rfl 1 rfl⟩, ?_⟩
          (repeat (first | (apply t4_skip rfl (by rfl); try simp only [Act.put, List.setIfInBounds_toArray, List.set_cons_zero, List.set_cons_succ]) | (apply t4_float rfl (by rfl); (· (intro w' hS; go_simp <;> with_reducible rfl)); (try simp only [Act.put, List.setIfInBounds_toArray, List.set_cons_zero, List.set_cons_succ]))))
          refine t4_hard rfl (by rfl) (fun K hK => ?_)
          go_wp2_with fail
          have hs44 := hs41.alloc #[.slice av DG.length cv] 47 (n := w40.heap.size) (by simp)
          have HAC_45 := Lib.hid (AccP.mono HAC_42.out (belowA _ (.cells #[.slice av DG.length cv] 47)))
          clear HAC_42
          have HSR_46 := Lib.hid (Src.mono HSR_43.out (belowA _ (.cells #[.slice av DG.length cv] 47)))
          clear HSR_43
          have HFR_47 := Lib.hid (Fresh.mono HFR.out (belowA _ (.cells #[.slice av DG.length cv] 47)))
          clear HFR
          refine ⟨⟨hs44.cellAt 0 rfl 0 rfl, hs44.cellAt 0 rfl 1 rfl, hs44.cellAt 1 rfl 0 rfl, hs44.cellAt 1 rfl 1 rfl⟩, ?_⟩
          (repeat (first | (apply t4_skip rfl (by rfl); try simp only [Act.put, List.setIfInBounds_toArray, List.set_cons_zero, List.set_cons_succ]) | (apply t4_float rfl (by rfl); (· (intro w' hS; go_simp <;> with_reducible rfl)); (try simp only [Act.put, List.setIfInBounds_toArray, List.set_cons_zero, List.set_cons_succ]))))
          refine t4_hard rfl (by rfl) (fun K hK => ?_)
          have hsW := hs44.hi
          have hlnw := hln.out
          refine wp_append_accP _ _ _ _ rfl E_lists rfl HAC_45.out (HFR_47.out.ip) (fun z h1 h2 => by have h3 := h1.2; have h4 := h2.1; omega) ⟨w40.heap.size, 0, none⟩ 1 rfl (news1 (hs44.cellAt 2 rfl 0 rfl)) (by omega) ?_
          intro a8 c8 w8 hA8 hB8
          have hz8 := hB8.size
          have hs8 := hs44.butP hB8 (fun z hz => by have := hz.1; omega) (fun x hx hA => by have h1 := hA.1; have h2 := hA.2; simp at hx; rcases hx with rfl | rfl | rfl <;> (try simp only at h1 h2) <;> omega)
          have HA8 := Lib.hid (AccP.wk hA8.tight (C := fun z => w.heap.size + 1 + 1 ≤ z ∧ z < w8.heap.size) (fun z hz => ⟨by
            rcases hz.1 with h | h | h
            · exact h.1
            · have h4 := h.1; omega
            · rw [h]; (try simp); omega, hz.2⟩))
          have HR8 := Lib.hid (Src.below (B := B) HSR_46.out (hB8.below (fun z hz => by have := hz.1; omega) (by (try simp); omega)))
          have HBT8 := Lib.hid HBT_35.out
          clear hA8
          clear HAC_45
          clear HFR_47
          clear HSR_46
          clear HBT_35
          refine hK _ _ ⟨⟨hs8.cellAt 0 rfl 0 rfl, hs8.cellAt 0 rfl 1 rfl, hs8.cellAt 1 rfl 0 rfl, hs8.cellAt 1 rfl 1 rfl⟩, ?_⟩
          (repeat (first | (apply t4_skip rfl (by rfl); try simp only [Act.put, List.setIfInBounds_toArray, List.set_cons_zero, List.set_cons_succ]) | (apply t4_float rfl (by rfl); (· (intro w' hS; go_simp <;> with_reducible rfl)); (try simp only [Act.put, List.setIfInBounds_toArray, List.set_cons_zero, List.set_cons_succ]))))
          refine t4_last rfl (by rfl) (fun K hK => ?_)
          have k0_0 := hs8.cellAt 0 rfl 0 rfl
          have k0_1 := hs8.cellAt 0 rfl 1 rfl
          have k1_0 := hs8.cellAt 1 rfl 0 rfl
          have k1_1 := hs8.cellAt 1 rfl 1 rfl
          have k2_0 := hs8.cellAt 2 rfl 0 rfl
          have hs48 := hs8.low (B' := w.heap.size + 1 + 1) (bx' := [(w.heap.size, #[.int .i64 0, .slice none 0 0], 57), (w.heap.size + 1, #[.int .i64 M, .slice a l.length c], 57)]) (by omega) (by (try simp) <;> omega) (fun x hx => by simp only [List.mem_cons, List.not_mem_nil, or_false] at hx; rcases hx with rfl | rfl <;> (refine ⟨?_, ?_⟩ <;> (try simp) <;> (try omega)))
          have f2 := (hs48.freeAt 1 rfl 1)
          have hq := hs48.set (p := [_]) (by simp <;> omega) 1 (.slice a8 (l.length + 1) c8)
          have HQ := Lib.hid hq
          have HA9 := Lib.hid (AccP.wk (AccP.setCell HA8.out (b := w.heap.size + 1) (o := 1) (.slice a8 (l.length + 1) c8) (by simp <;> omega)) (C := fun z => w.heap.size + 1 + 1 ≤ z ∧ z < (w8.setCell ⟨w.heap.size + 1, 1, none⟩ (.slice a8 (l.length + 1) c8)).heap.size) (fun z hz => by simpa [World.setCell] using hz))
          have HR9 := Lib.hid (Src.below HR8.out ((Below.refl B w8).setCell (p := ⟨w.heap.size + 1, 1, none⟩) (by (try simp); omega) (.slice a8 (l.length + 1) c8)))
          clear hq
          go_wp2_with fail
          refine t4_nil (NoPanic.normal ?_)
          go_wp2_with fail
          go_roundw
          case rel =>
            have hlnw := hln.out
            refine ⟨j + 1, wz31, a8, c8, l ++ [DG], by omega, by go_num, by rw [HDG.out]; exact lst_snoc hs.1 hl.out (by rw [HPN.out]; omega), by show (l ++ [DG]).length ≤ j + 1; simp; omega, ⟨by omega, HBT8.out⟩, ?_, ?_, HR9.out.more (by omega)⟩
            · simpa [Hid] using HQ.out
            · simpa [Hid] using HA9.out
          case measure => simp [intOf]; omega
        | false =>
          go_wp2_with fail
          go_roundw
          case rel =>
            have hlnw := hln.out
            exact ⟨j + 1, wz31, a, c, l, by omega, by go_num, lst_up hl.out, by show l.length ≤ j + 1; omega, ⟨by omega, HBT_35.out⟩, hs32, HAC_33.out.wk (fun z hz => ⟨hz.1, by omega⟩), HSR_34.out.more (by omega)⟩
          case measure => simp [intOf]; omega
    · obtain rfl : j = PN := by omega
      have hnl : ¬ ((j : Int) < j) := by omega
      have f0_0 := hs0.freeAt 0 rfl 0
      have f0_1 := hs0.freeAt 0 rfl 1
      go_wp2_with fail
      have HFR := Lib.hid (HAC.out.ip.fresh (lo := w.heap.size) (fun k hk => by have := hk.1; omega))
      have hs9 := (hs0.set (p := []) (by simp <;> omega) 0 (.int .i64 M)).set (p := []) (by simp <;> omega) 1 (.slice a l.length c)
      have x0 := hs9.cellAt 0 rfl 0 rfl
      have x1 := hs9.cellAt 0 rfl 1 rfl
      have HSF := Lib.hid ((HSR.out.below ((Below.refl B _).setCell (p := ⟨w.heap.size, 0, none⟩) (by simp; omega) (.int .i64 M))).below ((Below.refl B _).setCell (p := ⟨w.heap.size, 1, none⟩) (by simp; omega) (.slice a l.length c)))
      have HAS := AccP.setCell (AccP.setCell HAC.out (b := w.heap.size) (o := 0) (.int .i64 M) (by simp; omega)) (b := w.heap.size) (o := 1) (.slice a l.length c) (by simp; omega)
      refine bodyPost_ret (v := .agg #[.int .i64 M, .slice a l.length c]) (by simp [results, Tryz.results41, go_sem, x0, x1]) rfl ⟨.slice a l.length c, rfl, l, HAS.wk (fun k hk => by have := hk.1; omega), ?_, HSF.out.more (by omega), HBT.out.trans (but_of hs9.bel)⟩
      unfold relOk
      simp only [Bool.and_eq_true]
      exact ⟨⟨inB_mk hs, inB_mk (by show 1 ≤ (M : Int) ∧ (M : Int) ≤ 4; omega)⟩, hl.out.1⟩
theorem l01Drawn_c (size : Int) (M : Nat) (L B b k : Nat) (w : World) (h : Src L B w b k) (hB : B ≤ w.heap.size) (hk : k ≤ 800000000) (hs : 1 ≤ size ∧ size ≤ 4) (hM : 1 ≤ M ∧ M ≤ 4) :
    Calls Tryz.prog 41 #[.pointer (some ⟨b, 0, none⟩), .int .i64 size, .int .i64 M] w fun e w' => ∃ v : Value, e = .returned (.agg #[.int .i64 M, v]) ∧ ∃ l : List (List Int), Fresh w.heap.size w' [.int .i64 M, v] (((M : Int), l) : RelT) ∧ relOk size ((M : Int), l) = true ∧ Src L B w' b (k + 1000) ∧ But [b] w w' :=
  (l01DrawnA_c size M L B b k w h hB hk hs hM).mono fun e w' ⟨v, h1, l, h2, h3⟩ => ⟨v, h1, l, fresh_icD ⟨by omega, by omega⟩ (h2.ip.fresh (fun z hz => hz)), h3⟩

end Go.Proofs.YtamkfnkikiekaaaGreat

