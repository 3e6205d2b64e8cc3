/-
  CONTRACT: ReadSystem; the program's side.
-/
import Derived.Test.YthceklaoikeokaaGreatDoorReadN
namespace Go.Proofs.YthceklaoikeokaaGreatDoor
open Go.RowKit Go.Shelf Go.IntWalk
open Rep (Rd Own sz)
set_option linter.unusedSimpArgs false
set_option linter.unusedVariables false

/-- A text, as a value. -/
instance : Rep (List UInt8) where
  sz := 1
  Rd _ vs x := vs = [.string ⟨x.toArray⟩]
  Own ps _ vs x := ps = [] ∧ vs = [.string ⟨x.toArray⟩]
  rd_len h := by rw [h]; rfl
  rd_mono _ h := h
  own_rd h := h.2
  own_frame _ h := h
  own_lt h k hk := by rw [h.1] at hk; cases hk
  rd_one h u hu := by rw [h] at hu; simp only [List.mem_singleton] at hu; subst hu; rfl
theorem rd_str_at {w : World} {a : Option Addr} {n c : Nat} {l : List (List UInt8)} (h : Rd w [.slice a n c] l) (i : Nat) (hi : i < l.length) :
    ∃ b o, a = some ⟨b, o, none⟩ ∧ w.cell? ⟨b, o + i, none⟩ = some (.string ⟨l[i].toArray⟩) := by
  obtain ⟨a', c', e, h⟩ := rd_list h
  simp only [Value.slice.injEq] at e
  obtain ⟨rfl, rfl, rfl⟩ := e
  obtain ⟨b, o, u0, rfl, hc, hr⟩ := rdSl_one rfl h i hi
  have e2 : [u0] = [Value.string ⟨l[i].toArray⟩] := hr
  simp only [List.cons.injEq, and_true] at e2
  subst e2
  exact ⟨b, o, rfl, hc⟩
theorem splitB_lists (c : UInt8) (s : List UInt8) : (Lib.splitB ⟨#[c]⟩ 0 (Lib.countB ⟨s.toArray⟩ ⟨#[c]⟩) ⟨s.toArray⟩).map (·.data.toList) = splitC c s := by
  rw [Lib.splitB_data]
  exact (show Lib.splitK [c] 0 (Lib.count s [c]) s = splitC c s from split_C c s)
theorem split_c (s : List UInt8) (c : UInt8) (w : World) (he : RdEnv w) (hs : s.length ≤ 1048576) :
    Calls Tryz.prog 51 #[.string ⟨s.toArray⟩, .string ⟨#[c]⟩] w fun e w' => ∃ v, e = .returned v ∧ Rd w' [v] (splitC c s) ∧ Below w.heap.size w w' := by
  obtain ⟨m, hm⟩ := he.ml
  have hsz : (⟨s.toArray⟩ : ByteArray).size = s.length := by simp [ByteArray.size]
  refine (Tryz.strings_Split ⟨s.toArray⟩ ⟨#[c]⟩ m w (by rw [hsz]; omega) hm (Nat.le_refl 1)).mono ?_
  rintro e w1 ⟨rfl, rfl⟩
  have hL := splitB_lists c s
  have hlen := Lib.splitB_all ⟨#[c]⟩ (Nat.le_refl 1) 0 _ ⟨s.toArray⟩ rfl
  have hle := Lib.countB_le ⟨#[c]⟩ (Nat.le_refl 1) (⟨s.toArray⟩ : ByteArray).size ⟨s.toArray⟩ (Nat.le_refl _)
  generalize Lib.countB ⟨s.toArray⟩ ⟨#[c]⟩ = n at *
  generalize Lib.splitB ⟨#[c]⟩ 0 n ⟨s.toArray⟩ = L at *
  have hn : (splitC c s).length = n + 1 := by rw [← hL, List.length_map, hlen]
  refine ⟨_, rfl, ⟨_, _, by rw [hn], by rw [hn]; exact Nat.le_refl _, by unfold maxLen; omega, fun i hi => ?_⟩, belowA _ _⟩
  have hiL : i < L.length := by omega
  refine ⟨w.heap.size, 0, [.string ⟨(splitC c s)[i].toArray⟩], rfl, rfl, fun k hk => ?_⟩
  obtain rfl : k = 0 := by simpa using hk
  rw [cell_at_block (heap_alloc_new _ _)]
  have e1 : (splitC c s)[i] = L[i].data.toList := by simp only [← hL, List.getElem_map]
  rw [e1]
  simp [sz, hiL]
theorem splitC_len (c : UInt8) : ∀ l : List UInt8, (splitC c l).length ≤ l.length + 1 ∧ ∀ x, x ∈ splitC c l → x.length ≤ l.length
  | [] => by simp [splitC]
  | b :: l => by
    obtain ⟨h1, h2⟩ := splitC_len c l
    rw [splitC]
    split
    · refine ⟨by simp only [List.length_cons]; omega, fun x hx => ?_⟩
      rcases List.mem_cons.1 hx with rfl | hx
      · simp
      · have := h2 x hx; simp only [List.length_cons]; omega
    · split
      · exact ⟨by simp, fun x hx => by simp at hx; subst hx; simp⟩
      · next y ys hs =>
        rw [hs] at h1 h2
        refine ⟨by simp only [List.length_cons] at h1 ⊢; omega, fun x hx => ?_⟩
        rcases List.mem_cons.1 hx with rfl | hx
        · have := h2 y (List.mem_cons_self ..); simp only [List.length_cons]; omega
        · have := h2 x (List.mem_cons_of_mem _ hx); simp only [List.length_cons]; omega
theorem cut_len (s sep : List UInt8) : (Lib.cut s sep).1.length ≤ s.length ∧ (Lib.cut s sep).2.1.length ≤ s.length := by
  unfold Lib.cut
  split
  · simp only [List.length_take, List.length_drop]; omega
  · simp
theorem trim_c (t : List UInt8) (w : World) (hs : t.length ≤ 1048576) :
    Calls Tryz.prog 52 #[.string ⟨t.toArray⟩, .string ⟨#[10]⟩] w fun e w' => e = .returned (.string ⟨(Lib.trimSuffix t [10]).toArray⟩) ∧ w = w' := by
  have hsz : (⟨t.toArray⟩ : ByteArray).size = t.length := by simp [ByteArray.size]
  exact (Tryz.strings_TrimSuffix ⟨t.toArray⟩ ⟨#[10]⟩ w (by rw [hsz]; omega)).mono fun e w' h => ⟨h.1, h.2.symm⟩
theorem cut_c (s : List UInt8) (w : World) (he : RdEnv w) (hs : s.length ≤ 1048576) :
    Calls Tryz.prog 54 #[.string ⟨s.toArray⟩, .string ⟨#[32, 61, 32]⟩] w fun e w' => e = .returned (.tuple #[.string ⟨(Lib.cut s [32, 61, 32]).1.toArray⟩, .string ⟨(Lib.cut s [32, 61, 32]).2.1.toArray⟩, .bool (Lib.cut s [32, 61, 32]).2.2]) ∧ Below w.heap.size w w' := by
  have hsz : (⟨s.toArray⟩ : ByteArray).size = s.length := by simp [ByteArray.size]
  obtain ⟨m, hm⟩ := he.ml
  refine (Tryz.strings_Cut ⟨s.toArray⟩ ⟨#[32, 61, 32]⟩ m w (by rw [hsz]; omega) hm).mono ?_
  rintro e w1 ⟨rfl, n, rfl⟩
  exact ⟨rfl, drewN_below w n⟩
theorem fresh_sys0 {H : Nat} {w : World} : Fresh H w [.int .i64 0, .int .i64 0, .slice none 0 0] ((0, 0, []) : Sys) :=
  ⟨[], ⟨[], [], [_], _, rfl, rfl, ⟨rfl, rfl, by decide, by decide⟩, ⟨[], [], [_], _, rfl, rfl, ⟨rfl, rfl, by decide, by decide⟩, ⟨_, rfl, .inl ⟨rfl, rfl, none, 0, rfl, Nat.zero_le _⟩⟩⟩⟩, List.nodup_nil, fun k hk => by cases hk⟩
theorem fresh_sysR {H : Nat} {w : World} {p u : Int} {v : Value} {l : List Eqn} (hp : I64 p) (hu : I64 u) (h : Fresh H w [v] l) : Fresh H w [.int .i64 p, .int .i64 u, v] ((p, u, l) : Sys) := by
  obtain ⟨ps, ho, hn, hH⟩ := h
  exact ⟨ps, ⟨[], ps, [_], _, rfl, rfl, ⟨rfl, rfl, hp⟩, ⟨[], ps, [_], _, rfl, rfl, ⟨rfl, rfl, hu⟩, ho⟩⟩, hn, hH⟩
theorem len3 {α : Type} {l : List α} (h : l.length = 3) : ∃ a b c, l = [a, b, c] := by
  match l, h with
  | [a, b, c], _ => exact ⟨a, b, c, rfl⟩
theorem numI_i64 (s : List UInt8) : I64 (numI s) := by
  unfold numI
  split
  · next v hv =>
    split
    · exact parseInt_i64 hv
    · exact ⟨by decide, by decide⟩
  · exact ⟨by decide, by decide⟩
set_option maxRecDepth 100000 in
set_option maxHeartbeats 16000000 in
theorem ReadSystem_c (t : List UInt8) (w : World) (he : RdEnv w) (hs : t.length ≤ 1048576) :
    Calls Tryz.prog 20 #[.string ⟨t.toArray⟩] w fun e w' => ∃ u0 u1 u2, e = .returned (.tuple #[.agg #[u0, u1, u2], .int .i64 (readI t).2]) ∧ Fresh w.heap.size w' [u0, u1, u2] (readI t).1 ∧ Below w.heap.size w w' := by
  have HE := Lib.hid he
  clear he
  have hxl := Lib.trimSuffix_le t [10]
  obtain ⟨X, hX⟩ : ∃ X, X = Lib.trimSuffix t [10] := ⟨_, rfl⟩
  obtain ⟨L0, LT, hLS⟩ : ∃ x xs, splitC 10 X = x :: xs := by
    have hne := splitC_ne 10 X
    match splitC 10 X, hne with
    | x :: xs, _ => exact ⟨x, xs, rfl⟩
  obtain ⟨HD, hHD⟩ : ∃ HD, HD = splitC 32 L0 := ⟨_, rfl⟩
  rw [← hX] at hxl
  obtain ⟨hn1, hn2⟩ := splitC_len 10 X
  rw [hLS] at hn1 hn2
  have hLT : LT.length ≤ 1048576 := by simp only [List.length_cons] at hn1; omega
  have h0l := hn2 L0 (List.mem_cons_self ..)
  have HN2 := Lib.hid (show ∀ x, x ∈ LT → x.length ≤ 1048576 from fun x hx => by have := hn2 x (List.mem_cons_of_mem _ hx); omega)
  have HM2 := Lib.hid (show ∀ x, x ∈ HD → x.length ≤ 1048576 from fun x hx => by rw [hHD] at hx; have := (splitC_len 32 L0).2 x hx; omega)
  have HQ := Lib.hid (show readI t = if HD.length = 3 then (if textF (numI (HD.getD 1 []), numI (HD.getD 2 []), LT.map eqnI) ≠ [] ∧ textF (numI (HD.getD 1 []), numI (HD.getD 2 []), LT.map eqnI) = t then ((numI (HD.getD 1 []), numI (HD.getD 2 []), LT.map eqnI), 0) else ((0, 0, []), 5)) else ((0, 0, []), 5) from by
    have e : sysI (splitC 10 X) = (numI (HD.getD 1 []), numI (HD.getD 2 []), LT.map eqnI) := by unfold sysI; rw [hLS, hHD]; rfl
    have e3 : splitC 32 ((splitC 10 X).headD []) = HD := by rw [hLS, hHD]; rfl
    unfold readI
    rw [← hX, e, e3])
  have HTR := Lib.hid (show ∀ W : World, Calls Tryz.prog 52 #[.string ⟨t.toArray⟩, .string ⟨#[10]⟩] W fun e w' => e = .returned (.string ⟨X.toArray⟩) ∧ W = w' from fun W => by rw [hX]; exact trim_c t W hs)
  have HSP := Lib.hid (show ∀ W : World, RdEnv W → Calls Tryz.prog 51 #[.string ⟨X.toArray⟩, .string ⟨#[10]⟩] W fun e w' => ∃ v, e = .returned v ∧ Rd w' [v] (L0 :: LT) ∧ Below W.heap.size W w' from fun W h => by
    have h1 := split_c X 10 W h (by omega)
    rw [hLS] at h1
    exact h1)
  have HSQ := Lib.hid (show ∀ W : World, RdEnv W → Calls Tryz.prog 51 #[.string ⟨L0.toArray⟩, .string ⟨#[32]⟩] W fun e w' => ∃ v, e = .returned v ∧ Rd w' [v] HD ∧ Below W.heap.size W w' from fun W h => by
    have h1 := split_c L0 32 W h (by omega)
    rw [← hHD] at h1
    exact h1)
  clear hX hLS hHD hn1 hn2
  have hs1 := (St.start w).alloc #[.int .i64 0, .int .i64 0, .slice none 0 0] 26 (n := w.heap.size) (by simp)
  have k0_0 := hs1.cellAt 0 rfl 0 rfl
  have k0_1 := hs1.cellAt 0 rfl 1 rfl
  have k0_2 := hs1.cellAt 0 rfl 2 rfl
  clear k0_0 k0_1 k0_2
  have k0_0 := hs1.cellAt 0 rfl 0 rfl
  have k0_1 := hs1.cellAt 0 rfl 1 rfl
  have k0_2 := hs1.cellAt 0 rfl 2 rfl
  go_enter Tryz.func20, Tryz.ntmps20
  go_wp2_with fail
  refine (HTR.out _).mono ?_
  rintro e w2 ⟨rfl, rfl⟩
  go_wp2_with fail
  refine (HSP.out _ (HE.out.mono hs1.bel)).mono ?_
  rintro e w3 ⟨v1, rfl, hL1, hbw3⟩
  have hz_w3 : w.heap.size + 1 ≤ w3.heap.size := by have h9 := hbw3.size; (try simp at h9); omega
  have hs4 := hs1.step hbw3
  clear k0_0 k0_1 k0_2
  have k0_0 := hs4.cellAt 0 rfl 0 rfl
  have k0_1 := hs4.cellAt 0 rfl 1 rfl
  have k0_2 := hs4.cellAt 0 rfl 2 rfl
  have HL1 := Lib.hid hL1
  clear hL1
  obtain ⟨a1, c1, rfl, hr1⟩ := rd_list HL1.out
  have HCAP := Lib.hid (show LT.length + 1 ≤ c1 from by have := hr1.1; simpa using this)
  clear hr1
  obtain ⟨b1, o1, rfl, q0⟩ := rd_str_at HL1.out 0 (by simp)
  rw [Nat.add_zero] at q0
  have q0' : w3.cell? ⟨b1, o1, none⟩ = some (.string ⟨L0.toArray⟩) := q0
  clear q0
  have HCB := Lib.hid (show ∀ j (hj : j < LT.length), w3.cell? ⟨b1, o1 + 1 + j, none⟩ = some (.string ⟨LT[j].toArray⟩) from fun j hj => by
    obtain ⟨b, o, e, q⟩ := rd_str_at HL1.out (j + 1) (by simpa using hj)
    simp only [Option.some.injEq, Addr.mk.injEq] at e
    obtain ⟨rfl, rfl, -⟩ := e
    rw [show o1 + 1 + j = o1 + (j + 1) by omega]
    simpa using q)
  have hb1 : b1 < w3.heap.size := World.block_lt_of_cell? _ _ q0'
  clear HL1 HTR HSP
  obtain ⟨wL, hwL⟩ : ∃ x, x = w3 := ⟨_, rfl⟩
  subst hwL
  have HBL := Lib.hid (Below.refl wL.heap.size wL)
  go_wp2_with fail
  refine (HSQ.out _ (HE.out.mono hs4.bel)).mono ?_
  rintro e w5 ⟨v2, rfl, hL2, hbw5⟩
  have hz_w5 : wL.heap.size ≤ w5.heap.size := by have h9 := hbw5.size; (try simp at h9); omega
  have hs6 := hs4.step hbw5
  have HBL_7 := Lib.hid (HBL.out.trans ((hbw5).mono HBL.out.size))
  clear HBL
  clear k0_0 k0_1 k0_2
  have k0_0 := hs6.cellAt 0 rfl 0 rfl
  have k0_1 := hs6.cellAt 0 rfl 1 rfl
  have k0_2 := hs6.cellAt 0 rfl 2 rfl
  clear q0' HSQ
  have HL2 := Lib.hid hL2
  clear hL2
  obtain ⟨a2, c2, rfl, _⟩ := rd_list HL2.out
  by_cases h3 : HD.length = 3
  · obtain ⟨h0, h1, h2, rfl⟩ := len3 h3
    have hl1 : h1.length ≤ 1048576 := HM2.out h1 (by simp)
    have hl2 : h2.length ≤ 1048576 := HM2.out h2 (by simp)
    obtain ⟨b2, o2, rfl, q1⟩ := rd_str_at HL2.out 1 (by simp)
    obtain ⟨b2', o2', e2, q2⟩ := rd_str_at HL2.out 2 (by simp)
    simp only [Option.some.injEq, Addr.mk.injEq] at e2
    obtain ⟨rfl, rfl, -⟩ := e2
    simp only [List.getElem_cons_succ, List.getElem_cons_zero] at q1 q2
    have HSI := Lib.hid (show readI t = if textF (numI h1, numI h2, LT.map eqnI) ≠ [] ∧ textF (numI h1, numI h2, LT.map eqnI) = t then ((numI h1, numI h2, LT.map eqnI), 0) else ((0, 0, []), 5) from HQ.out)
    clear h3 HM2 HL2 HQ
    have hb2 : b2 < w5.heap.size := World.block_lt_of_cell? _ _ q1
    go_upto_region 5 with fail
    have hz_wB : w5.heap.size ≤ (w5).heap.size := by simp
    generalize hgen_wB : w5 = wB at *
    clear hgen_wB
    have HBB := Lib.hid (Below.refl wB.heap.size wB)
    go_cut [6] from 24 to 32 (fun x6 wx => ∃ sb : Nat, x6 = .pointer (some ⟨sb, 0, none⟩) ∧ wB.heap.size ≤ sb ∧ Hid (St w wx.heap.size wx [(w.heap.size, #[.int .i64 0, .int .i64 0, .slice none 0 0], 26), (sb, #[.int .i64 (numI h1), .int .i64 (numI h2), .slice none 0 0], 26)]) ∧ Hid (Below wB.heap.size wB wx))
    case first =>
      refine wp_region_noPanic (wp_region_tree4 (fun w' => w'.cell? ⟨w.heap.size, 0, none⟩ = some (.int .i64 0) ∧ w'.cell? ⟨w.heap.size, 1, none⟩ = some (.int .i64 0) ∧ w'.cell? ⟨w.heap.size, 2, none⟩ = some (.slice none 0 0) ∧ w'.cell? ⟨b2, o2 + 1, none⟩ = some (.string ⟨h1.toArray⟩) ∧ w'.cell? ⟨b2, o2 + 2, none⟩ = some (.string ⟨h2.toArray⟩)) (.float 0 (.float 1 (.float 2 (.float 4 (.float 5 (.float 6 (.fork2 3 (.fork2 7 (.float 8 (.hard 9 (.last 10 .nil))) 9 (.hard 7 (.float 8 (.last 10 .nil)))) 9 (.hard 3 (.hard 7 (.float 8 (.last 10 .nil))))))))))) (by kernel_rfl) (by kernel_rfl) (by kernel_rfl) rfl ?_ (fun _ _ _ _ _ h => h) ?_)
      · exact ⟨(hs6.drew).cellAt 0 rfl 0 rfl, (hs6.drew).cellAt 0 rfl 1 rfl, (hs6.drew).cellAt 0 rfl 2 rfl, cellL (belowD _) q1, cellL (belowD _) q2⟩
      have hs8 := hs6.drew
      have q1_9 := cellL (belowD _) q1
      clear q1
      have q2_10 := cellL (belowD _) q2
      clear q2
      have HBL_11 := Lib.hid (HBL_7.out.trans (((belowD _)).mono HBL_7.out.size))
      clear HBL_7
      have HBB_12 := Lib.hid (HBB.out.trans (((belowD _)).mono HBB.out.size))
      clear HBB
      clear k0_0 k0_1 k0_2
      have hz_wd13 : wB.heap.size ≤ (wB.drew).heap.size := by simp
      generalize hgen_wd13 : wB.drew = wd13 at *
      have HG_wd13 := Lib.hid hgen_wd13
      clear hgen_wd13
      (repeat (first | (apply t4_skip rfl (by rfl); try simp only [Act.put, List.setIfInBounds_toArray, List.set_cons_zero, List.set_cons_succ]) | (apply t4_float rfl (by rfl); (· (intro w' hS; go_simp <;> with_reducible rfl)); (try simp only [Act.put, List.setIfInBounds_toArray, List.set_cons_zero, List.set_cons_succ]))))
      refine t4_fork2 ?_ ?_
      · refine t4_hard rfl (by rfl) (fun K hK => ?_)
        go_wp2_with (go_at_call 53; refine (readNumber_c h1 _ (HE.out.mono hs8.bel) hl1).mono ?_; rintro e w14 ⟨rfl, hbw14⟩)
        have hz_w14 : wd13.heap.size ≤ w14.heap.size := by have h9 := hbw14.size; (try simp at h9); omega
        have hs15 := hs8.step hbw14
        have q1_16 := cellL hbw14 q1_9
        clear q1_9
        have q2_17 := cellL hbw14 q2_10
        clear q2_10
        have HBL_18 := Lib.hid (HBL_11.out.trans ((hbw14).mono HBL_11.out.size))
        clear HBL_11
        have HBB_19 := Lib.hid (HBB_12.out.trans ((hbw14).mono HBB_12.out.size))
        clear HBB_12
        refine ⟨⟨hs15.cellAt 0 rfl 0 rfl, hs15.cellAt 0 rfl 1 rfl, hs15.cellAt 0 rfl 2 rfl, q1_16, q2_17⟩, ?_⟩
        (repeat (first | (apply t4_skip rfl (by rfl); try simp only [Act.put, List.setIfInBounds_toArray, List.set_cons_zero, List.set_cons_succ]) | (apply t4_float rfl (by rfl); (· (intro w' hS; go_simp <;> with_reducible rfl)); (try simp only [Act.put, List.setIfInBounds_toArray, List.set_cons_zero, List.set_cons_succ]))))
        refine t4_fork2 ?_ ?_
        · refine t4_hard rfl (by rfl) (fun K hK => ?_)
          go_wp2_with (go_at_call 53; refine (readNumber_c h2 _ (HE.out.mono hs15.bel) hl2).mono ?_; rintro e w20 ⟨rfl, hbw20⟩)
          have hz_w20 : w14.heap.size ≤ w20.heap.size := by have h9 := hbw20.size; (try simp at h9); omega
          have hs21 := hs15.step hbw20
          have q1_22 := cellL hbw20 q1_16
          clear q1_16
          have q2_23 := cellL hbw20 q2_17
          clear q2_17
          have HBL_24 := Lib.hid (HBL_18.out.trans ((hbw20).mono HBL_18.out.size))
          clear HBL_18
          have HBB_25 := Lib.hid (HBB_19.out.trans ((hbw20).mono HBB_19.out.size))
          clear HBB_19
          refine ⟨⟨hs21.cellAt 0 rfl 0 rfl, hs21.cellAt 0 rfl 1 rfl, hs21.cellAt 0 rfl 2 rfl, q1_22, q2_23⟩, ?_⟩
          (repeat (first | (apply t4_skip rfl (by rfl); try simp only [Act.put, List.setIfInBounds_toArray, List.set_cons_zero, List.set_cons_succ]) | (apply t4_float rfl (by rfl); (· (intro w' hS; go_simp <;> with_reducible rfl)); (try simp only [Act.put, List.setIfInBounds_toArray, List.set_cons_zero, List.set_cons_succ]))))
          refine t4_hard rfl (by rfl) (fun K hK => ?_)
          go_wp2_with fail
          have hs26 := hs21.alloc #[.int .i64 0, .int .i64 0, .slice none 0 0] 26 (n := w20.heap.size) (by simp)
          have q1_27 := cellL (belowA _ (.cells #[.int .i64 0, .int .i64 0, .slice none 0 0] 26)) q1_22
          clear q1_22
          have q2_28 := cellL (belowA _ (.cells #[.int .i64 0, .int .i64 0, .slice none 0 0] 26)) q2_23
          clear q2_23
          have HBL_29 := Lib.hid (HBL_24.out.trans (((belowA _ (.cells #[.int .i64 0, .int .i64 0, .slice none 0 0] 26))).mono HBL_24.out.size))
          clear HBL_24
          have HBB_30 := Lib.hid (HBB_25.out.trans (((belowA _ (.cells #[.int .i64 0, .int .i64 0, .slice none 0 0] 26))).mono HBB_25.out.size))
          clear HBB_25
          have hz_wS : w20.heap.size + 1 ≤ ((w20.alloc (.cells #[.int .i64 0, .int .i64 0, .slice none 0 0] 26))).heap.size := by simp
          generalize hgen_wS : (w20.alloc (.cells #[.int .i64 0, .int .i64 0, .slice none 0 0] 26)) = wS at *
          clear hgen_wS
          refine ⟨⟨hs26.cellAt 0 rfl 0 rfl, hs26.cellAt 0 rfl 1 rfl, hs26.cellAt 0 rfl 2 rfl, q1_27, q2_28⟩, ?_⟩
          (repeat (first | (apply t4_skip rfl (by rfl); try simp only [Act.put, List.setIfInBounds_toArray, List.set_cons_zero, List.set_cons_succ]) | (apply t4_float rfl (by rfl); (· (intro w' hS; go_simp <;> with_reducible rfl)); (try simp only [Act.put, List.setIfInBounds_toArray, List.set_cons_zero, List.set_cons_succ]))))
          refine t4_last rfl (by rfl) (fun K hK => ?_)
          have k0_0 := hs26.cellAt 0 rfl 0 rfl
          have k0_1 := hs26.cellAt 0 rfl 1 rfl
          have k0_2 := hs26.cellAt 0 rfl 2 rfl
          have k1_0 := hs26.cellAt 1 rfl 0 rfl
          have k1_1 := hs26.cellAt 1 rfl 1 rfl
          have k1_2 := hs26.cellAt 1 rfl 2 rfl
          have f1_0 := hs26.freeAt 1 rfl 0
          have f1_1 := hs26.freeAt 1 rfl 1
          have f1_2 := hs26.freeAt 1 rfl 2
          go_wp2_with fail
          refine t4_nil (NoPanic.normal ?_)
          have hs31 := hs26.set (p := [_]) (by simp <;> omega) 0 (.int .i64 (numI h1))
          have hs32 := hs31.set (p := [_]) (by simp <;> omega) 1 (.int .i64 (numI h2))
          have hs33 := hs32.set (p := [_]) (by simp <;> omega) 2 (.slice none 0 0)
          have q1_34 := (cell_put (b' := w20.heap.size) (o' := 2) (u := .slice none 0 0) (cell_put (b' := w20.heap.size) (o' := 1) (u := .int .i64 (numI h2)) (cell_put (b' := w20.heap.size) (o' := 0) (u := .int .i64 (numI h1)) q1_27 (by (try simp) <;> omega)) (by (try simp) <;> omega)) (by (try simp) <;> omega))
          clear q1_27
          have q2_35 := (cell_put (b' := w20.heap.size) (o' := 2) (u := .slice none 0 0) (cell_put (b' := w20.heap.size) (o' := 1) (u := .int .i64 (numI h2)) (cell_put (b' := w20.heap.size) (o' := 0) (u := .int .i64 (numI h1)) q2_28 (by (try simp) <;> omega)) (by (try simp) <;> omega)) (by (try simp) <;> omega))
          clear q2_28
          have HBL_36 := Lib.hid (((HBL_29.out.setCell (p := ⟨w20.heap.size, 0, none⟩) (by (try simp) <;> omega) (.int .i64 (numI h1))).setCell (p := ⟨w20.heap.size, 1, none⟩) (by (try simp) <;> omega) (.int .i64 (numI h2))).setCell (p := ⟨w20.heap.size, 2, none⟩) (by (try simp) <;> omega) (.slice none 0 0))
          clear HBL_29
          have HBB_37 := Lib.hid (((HBB_30.out.setCell (p := ⟨w20.heap.size, 0, none⟩) (by (try simp) <;> omega) (.int .i64 (numI h1))).setCell (p := ⟨w20.heap.size, 1, none⟩) (by (try simp) <;> omega) (.int .i64 (numI h2))).setCell (p := ⟨w20.heap.size, 2, none⟩) (by (try simp) <;> omega) (.slice none 0 0))
          clear HBB_30
          clear k0_0 k0_1 k0_2 k1_0 k1_1 k1_2
          have hz_wP : wS.heap.size ≤ ((((wS.setCell ⟨w20.heap.size, 0, none⟩ (.int .i64 (numI h1))).setCell ⟨w20.heap.size, 1, none⟩ (.int .i64 (numI h2))).setCell ⟨w20.heap.size, 2, none⟩ (.slice none 0 0))).heap.size := by simp [World.setCell]
          generalize hgen_wP : (((wS.setCell ⟨w20.heap.size, 0, none⟩ (.int .i64 (numI h1))).setCell ⟨w20.heap.size, 1, none⟩ (.int .i64 (numI h2))).setCell ⟨w20.heap.size, 2, none⟩ (.slice none 0 0)) = wP at *
          clear hgen_wP
          have k0_0 := hs33.cellAt 0 rfl 0 rfl
          have k0_1 := hs33.cellAt 0 rfl 1 rfl
          have k0_2 := hs33.cellAt 0 rfl 2 rfl
          have k1_0 := hs33.cellAt 1 rfl 0 rfl
          have k1_1 := hs33.cellAt 1 rfl 1 rfl
          have k1_2 := hs33.cellAt 1 rfl 2 rfl
          go_wp2_with fail
          go_meet
          case rel => exact ⟨w20.heap.size, rfl, by omega, (hs33.sub (fun x hx => by simpa using hx)).up hs33.hi (Nat.le_refl _), HBB_37.out⟩
        · refine t4_hard rfl (by rfl) (fun K hK => ?_)
          go_wp2_with fail
          have hs38 := hs15.alloc #[.int .i64 0, .int .i64 0, .slice none 0 0] 26 (n := w14.heap.size) (by simp)
          have q1_39 := cellL (belowA _ (.cells #[.int .i64 0, .int .i64 0, .slice none 0 0] 26)) q1_16
          clear q1_16
          have q2_40 := cellL (belowA _ (.cells #[.int .i64 0, .int .i64 0, .slice none 0 0] 26)) q2_17
          clear q2_17
          have HBL_41 := Lib.hid (HBL_18.out.trans (((belowA _ (.cells #[.int .i64 0, .int .i64 0, .slice none 0 0] 26))).mono HBL_18.out.size))
          clear HBL_18
          have HBB_42 := Lib.hid (HBB_19.out.trans (((belowA _ (.cells #[.int .i64 0, .int .i64 0, .slice none 0 0] 26))).mono HBB_19.out.size))
          clear HBB_19
          have hz_wS : w14.heap.size + 1 ≤ ((w14.alloc (.cells #[.int .i64 0, .int .i64 0, .slice none 0 0] 26))).heap.size := by simp
          generalize hgen_wS : (w14.alloc (.cells #[.int .i64 0, .int .i64 0, .slice none 0 0] 26)) = wS at *
          clear hgen_wS
          refine ⟨⟨hs38.cellAt 0 rfl 0 rfl, hs38.cellAt 0 rfl 1 rfl, hs38.cellAt 0 rfl 2 rfl, q1_39, q2_40⟩, ?_⟩
          (repeat (first | (apply t4_skip rfl (by rfl); try simp only [Act.put, List.setIfInBounds_toArray, List.set_cons_zero, List.set_cons_succ]) | (apply t4_float rfl (by rfl); (· (intro w' hS; go_simp <;> with_reducible rfl)); (try simp only [Act.put, List.setIfInBounds_toArray, List.set_cons_zero, List.set_cons_succ]))))
          refine t4_hard rfl (by rfl) (fun K hK => ?_)
          go_wp2_with (go_at_call 53; refine (readNumber_c h2 _ (HE.out.mono hs38.bel) hl2).mono ?_; rintro e w43 ⟨rfl, hbw43⟩)
          have hz_w43 : wS.heap.size ≤ w43.heap.size := by have h9 := hbw43.size; (try simp at h9); omega
          have hs44 := hs38.step hbw43
          have q1_45 := cellL hbw43 q1_39
          clear q1_39
          have q2_46 := cellL hbw43 q2_40
          clear q2_40
          have HBL_47 := Lib.hid (HBL_41.out.trans ((hbw43).mono HBL_41.out.size))
          clear HBL_41
          have HBB_48 := Lib.hid (HBB_42.out.trans ((hbw43).mono HBB_42.out.size))
          clear HBB_42
          refine ⟨⟨hs44.cellAt 0 rfl 0 rfl, hs44.cellAt 0 rfl 1 rfl, hs44.cellAt 0 rfl 2 rfl, q1_45, q2_46⟩, ?_⟩
          (repeat (first | (apply t4_skip rfl (by rfl); try simp only [Act.put, List.setIfInBounds_toArray, List.set_cons_zero, List.set_cons_succ]) | (apply t4_float rfl (by rfl); (· (intro w' hS; go_simp <;> with_reducible rfl)); (try simp only [Act.put, List.setIfInBounds_toArray, List.set_cons_zero, List.set_cons_succ]))))
          refine t4_last rfl (by rfl) (fun K hK => ?_)
          have k0_0 := hs44.cellAt 0 rfl 0 rfl
          have k0_1 := hs44.cellAt 0 rfl 1 rfl
          have k0_2 := hs44.cellAt 0 rfl 2 rfl
          have k1_0 := hs44.cellAt 1 rfl 0 rfl
          have k1_1 := hs44.cellAt 1 rfl 1 rfl
          have k1_2 := hs44.cellAt 1 rfl 2 rfl
          have f1_0 := hs44.freeAt 1 rfl 0
          have f1_1 := hs44.freeAt 1 rfl 1
          have f1_2 := hs44.freeAt 1 rfl 2
          go_wp2_with fail
          refine t4_nil (NoPanic.normal ?_)
          have hs49 := hs44.set (p := [_]) (by simp <;> omega) 0 (.int .i64 (numI h1))
          have hs50 := hs49.set (p := [_]) (by simp <;> omega) 1 (.int .i64 (numI h2))
          have hs51 := hs50.set (p := [_]) (by simp <;> omega) 2 (.slice none 0 0)
          have q1_52 := (cell_put (b' := w14.heap.size) (o' := 2) (u := .slice none 0 0) (cell_put (b' := w14.heap.size) (o' := 1) (u := .int .i64 (numI h2)) (cell_put (b' := w14.heap.size) (o' := 0) (u := .int .i64 (numI h1)) q1_45 (by (try simp) <;> omega)) (by (try simp) <;> omega)) (by (try simp) <;> omega))
          clear q1_45
          have q2_53 := (cell_put (b' := w14.heap.size) (o' := 2) (u := .slice none 0 0) (cell_put (b' := w14.heap.size) (o' := 1) (u := .int .i64 (numI h2)) (cell_put (b' := w14.heap.size) (o' := 0) (u := .int .i64 (numI h1)) q2_46 (by (try simp) <;> omega)) (by (try simp) <;> omega)) (by (try simp) <;> omega))
          clear q2_46
          have HBL_54 := Lib.hid (((HBL_47.out.setCell (p := ⟨w14.heap.size, 0, none⟩) (by (try simp) <;> omega) (.int .i64 (numI h1))).setCell (p := ⟨w14.heap.size, 1, none⟩) (by (try simp) <;> omega) (.int .i64 (numI h2))).setCell (p := ⟨w14.heap.size, 2, none⟩) (by (try simp) <;> omega) (.slice none 0 0))
          clear HBL_47
          have HBB_55 := Lib.hid (((HBB_48.out.setCell (p := ⟨w14.heap.size, 0, none⟩) (by (try simp) <;> omega) (.int .i64 (numI h1))).setCell (p := ⟨w14.heap.size, 1, none⟩) (by (try simp) <;> omega) (.int .i64 (numI h2))).setCell (p := ⟨w14.heap.size, 2, none⟩) (by (try simp) <;> omega) (.slice none 0 0))
          clear HBB_48
          clear k0_0 k0_1 k0_2 k1_0 k1_1 k1_2
          have hz_wP : w43.heap.size ≤ ((((w43.setCell ⟨w14.heap.size, 0, none⟩ (.int .i64 (numI h1))).setCell ⟨w14.heap.size, 1, none⟩ (.int .i64 (numI h2))).setCell ⟨w14.heap.size, 2, none⟩ (.slice none 0 0))).heap.size := by simp [World.setCell]
          generalize hgen_wP : (((w43.setCell ⟨w14.heap.size, 0, none⟩ (.int .i64 (numI h1))).setCell ⟨w14.heap.size, 1, none⟩ (.int .i64 (numI h2))).setCell ⟨w14.heap.size, 2, none⟩ (.slice none 0 0)) = wP at *
          clear hgen_wP
          have k0_0 := hs51.cellAt 0 rfl 0 rfl
          have k0_1 := hs51.cellAt 0 rfl 1 rfl
          have k0_2 := hs51.cellAt 0 rfl 2 rfl
          have k1_0 := hs51.cellAt 1 rfl 0 rfl
          have k1_1 := hs51.cellAt 1 rfl 1 rfl
          have k1_2 := hs51.cellAt 1 rfl 2 rfl
          go_wp2_with fail
          go_meet
          case rel => exact ⟨w14.heap.size, rfl, by omega, (hs51.sub (fun x hx => by simpa using hx)).up hs51.hi (Nat.le_refl _), HBB_55.out⟩
      · refine t4_hard rfl (by rfl) (fun K hK => ?_)
        go_wp2_with fail
        have hs56 := hs8.alloc #[.int .i64 0, .int .i64 0, .slice none 0 0] 26 (n := wd13.heap.size) (by simp)
        have q1_57 := cellL (belowA _ (.cells #[.int .i64 0, .int .i64 0, .slice none 0 0] 26)) q1_9
        clear q1_9
        have q2_58 := cellL (belowA _ (.cells #[.int .i64 0, .int .i64 0, .slice none 0 0] 26)) q2_10
        clear q2_10
        have HBL_59 := Lib.hid (HBL_11.out.trans (((belowA _ (.cells #[.int .i64 0, .int .i64 0, .slice none 0 0] 26))).mono HBL_11.out.size))
        clear HBL_11
        have HBB_60 := Lib.hid (HBB_12.out.trans (((belowA _ (.cells #[.int .i64 0, .int .i64 0, .slice none 0 0] 26))).mono HBB_12.out.size))
        clear HBB_12
        have hz_wS : wd13.heap.size + 1 ≤ ((wd13.alloc (.cells #[.int .i64 0, .int .i64 0, .slice none 0 0] 26))).heap.size := by simp
        generalize hgen_wS : (wd13.alloc (.cells #[.int .i64 0, .int .i64 0, .slice none 0 0] 26)) = wS at *
        clear hgen_wS
        refine ⟨⟨hs56.cellAt 0 rfl 0 rfl, hs56.cellAt 0 rfl 1 rfl, hs56.cellAt 0 rfl 2 rfl, q1_57, q2_58⟩, ?_⟩
        (repeat (first | (apply t4_skip rfl (by rfl); try simp only [Act.put, List.setIfInBounds_toArray, List.set_cons_zero, List.set_cons_succ]) | (apply t4_float rfl (by rfl); (· (intro w' hS; go_simp <;> with_reducible rfl)); (try simp only [Act.put, List.setIfInBounds_toArray, List.set_cons_zero, List.set_cons_succ]))))
        refine t4_hard rfl (by rfl) (fun K hK => ?_)
        go_wp2_with (go_at_call 53; refine (readNumber_c h1 _ (HE.out.mono hs56.bel) hl1).mono ?_; rintro e w61 ⟨rfl, hbw61⟩)
        have hz_w61 : wS.heap.size ≤ w61.heap.size := by have h9 := hbw61.size; (try simp at h9); omega
        have hs62 := hs56.step hbw61
        have q1_63 := cellL hbw61 q1_57
        clear q1_57
        have q2_64 := cellL hbw61 q2_58
        clear q2_58
        have HBL_65 := Lib.hid (HBL_59.out.trans ((hbw61).mono HBL_59.out.size))
        clear HBL_59
        have HBB_66 := Lib.hid (HBB_60.out.trans ((hbw61).mono HBB_60.out.size))
        clear HBB_60
        refine ⟨⟨hs62.cellAt 0 rfl 0 rfl, hs62.cellAt 0 rfl 1 rfl, hs62.cellAt 0 rfl 2 rfl, q1_63, q2_64⟩, ?_⟩
        (repeat (first | (apply t4_skip rfl (by rfl); try simp only [Act.put, List.setIfInBounds_toArray, List.set_cons_zero, List.set_cons_succ]) | (apply t4_float rfl (by rfl); (· (intro w' hS; go_simp <;> with_reducible rfl)); (try simp only [Act.put, List.setIfInBounds_toArray, List.set_cons_zero, List.set_cons_succ]))))
        refine t4_hard rfl (by rfl) (fun K hK => ?_)
        go_wp2_with (go_at_call 53; refine (readNumber_c h2 _ (HE.out.mono hs62.bel) hl2).mono ?_; rintro e w67 ⟨rfl, hbw67⟩)
        have hz_w67 : w61.heap.size ≤ w67.heap.size := by have h9 := hbw67.size; (try simp at h9); omega
        have hs68 := hs62.step hbw67
        have q1_69 := cellL hbw67 q1_63
        clear q1_63
        have q2_70 := cellL hbw67 q2_64
        clear q2_64
        have HBL_71 := Lib.hid (HBL_65.out.trans ((hbw67).mono HBL_65.out.size))
        clear HBL_65
        have HBB_72 := Lib.hid (HBB_66.out.trans ((hbw67).mono HBB_66.out.size))
        clear HBB_66
        refine ⟨⟨hs68.cellAt 0 rfl 0 rfl, hs68.cellAt 0 rfl 1 rfl, hs68.cellAt 0 rfl 2 rfl, q1_69, q2_70⟩, ?_⟩
        (repeat (first | (apply t4_skip rfl (by rfl); try simp only [Act.put, List.setIfInBounds_toArray, List.set_cons_zero, List.set_cons_succ]) | (apply t4_float rfl (by rfl); (· (intro w' hS; go_simp <;> with_reducible rfl)); (try simp only [Act.put, List.setIfInBounds_toArray, List.set_cons_zero, List.set_cons_succ]))))
        refine t4_last rfl (by rfl) (fun K hK => ?_)
        have k0_0 := hs68.cellAt 0 rfl 0 rfl
        have k0_1 := hs68.cellAt 0 rfl 1 rfl
        have k0_2 := hs68.cellAt 0 rfl 2 rfl
        have k1_0 := hs68.cellAt 1 rfl 0 rfl
        have k1_1 := hs68.cellAt 1 rfl 1 rfl
        have k1_2 := hs68.cellAt 1 rfl 2 rfl
        have f1_0 := hs68.freeAt 1 rfl 0
        have f1_1 := hs68.freeAt 1 rfl 1
        have f1_2 := hs68.freeAt 1 rfl 2
        go_wp2_with fail
        refine t4_nil (NoPanic.normal ?_)
        have hs73 := hs68.set (p := [_]) (by simp <;> omega) 0 (.int .i64 (numI h1))
        have hs74 := hs73.set (p := [_]) (by simp <;> omega) 1 (.int .i64 (numI h2))
        have hs75 := hs74.set (p := [_]) (by simp <;> omega) 2 (.slice none 0 0)
        have q1_76 := (cell_put (b' := wd13.heap.size) (o' := 2) (u := .slice none 0 0) (cell_put (b' := wd13.heap.size) (o' := 1) (u := .int .i64 (numI h2)) (cell_put (b' := wd13.heap.size) (o' := 0) (u := .int .i64 (numI h1)) q1_69 (by (try simp) <;> omega)) (by (try simp) <;> omega)) (by (try simp) <;> omega))
        clear q1_69
        have q2_77 := (cell_put (b' := wd13.heap.size) (o' := 2) (u := .slice none 0 0) (cell_put (b' := wd13.heap.size) (o' := 1) (u := .int .i64 (numI h2)) (cell_put (b' := wd13.heap.size) (o' := 0) (u := .int .i64 (numI h1)) q2_70 (by (try simp) <;> omega)) (by (try simp) <;> omega)) (by (try simp) <;> omega))
        clear q2_70
        have HBL_78 := Lib.hid (((HBL_71.out.setCell (p := ⟨wd13.heap.size, 0, none⟩) (by (try simp) <;> omega) (.int .i64 (numI h1))).setCell (p := ⟨wd13.heap.size, 1, none⟩) (by (try simp) <;> omega) (.int .i64 (numI h2))).setCell (p := ⟨wd13.heap.size, 2, none⟩) (by (try simp) <;> omega) (.slice none 0 0))
        clear HBL_71
        have HBB_79 := Lib.hid (((HBB_72.out.setCell (p := ⟨wd13.heap.size, 0, none⟩) (by (try simp) <;> omega) (.int .i64 (numI h1))).setCell (p := ⟨wd13.heap.size, 1, none⟩) (by (try simp) <;> omega) (.int .i64 (numI h2))).setCell (p := ⟨wd13.heap.size, 2, none⟩) (by (try simp) <;> omega) (.slice none 0 0))
        clear HBB_72
        clear k0_0 k0_1 k0_2 k1_0 k1_1 k1_2
        have hz_wP : w67.heap.size ≤ ((((w67.setCell ⟨wd13.heap.size, 0, none⟩ (.int .i64 (numI h1))).setCell ⟨wd13.heap.size, 1, none⟩ (.int .i64 (numI h2))).setCell ⟨wd13.heap.size, 2, none⟩ (.slice none 0 0))).heap.size := by simp [World.setCell]
        generalize hgen_wP : (((w67.setCell ⟨wd13.heap.size, 0, none⟩ (.int .i64 (numI h1))).setCell ⟨wd13.heap.size, 1, none⟩ (.int .i64 (numI h2))).setCell ⟨wd13.heap.size, 2, none⟩ (.slice none 0 0)) = wP at *
        clear hgen_wP
        have k0_0 := hs75.cellAt 0 rfl 0 rfl
        have k0_1 := hs75.cellAt 0 rfl 1 rfl
        have k0_2 := hs75.cellAt 0 rfl 2 rfl
        have k1_0 := hs75.cellAt 1 rfl 0 rfl
        have k1_1 := hs75.cellAt 1 rfl 1 rfl
        have k1_2 := hs75.cellAt 1 rfl 2 rfl
        go_wp2_with fail
        go_meet
        case rel => exact ⟨wd13.heap.size, rfl, by omega, (hs75.sub (fun x hx => by simpa using hx)).up hs75.hi (Nat.le_refl _), HBB_79.out⟩
    case rest =>
      obtain ⟨sb, rfl, hsb, hst, hbb⟩ := hcut
      have hsb2 : sb < wc.heap.size := by have h1 := hst.out.box _ (List.mem_cons_of_mem _ (List.mem_cons_self ..)); exact h1.2.1
      have hzb := hbb.out.size
      have hzL := HBL_7.out.size
      have HCC := Lib.hid (fun j hj => cellL hbb.out (cellL HBL_7.out (HCB.out j hj)))
      have hb1b : b1 < wB.heap.size := by omega
      clear HCB hbb
      clear HBL_7
      clear HBB
      clear k0_0 k0_1 k0_2
      clear q1
      clear q2
      have k0_0 := hst.out.cellAt 0 rfl 0 rfl
      have k0_1 := hst.out.cellAt 0 rfl 1 rfl
      have k0_2 := hst.out.cellAt 0 rfl 2 rfl
      have k1_0 := hst.out.cellAt 1 rfl 0 rfl
      have k1_1 := hst.out.cellAt 1 rfl 1 rfl
      have k1_2 := hst.out.cellAt 1 rfl 2 rfl
      have HS1 := Lib.hid hst.out
      have hIp := numI_i64 h1
      have hIu := numI_i64 h2
      generalize hPP : numI h1 = PP at *
      generalize hUU : numI h2 = UU at *
      clear hPP hUU
      go_upto_region 6 with fail
      obtain ⟨wE, hwE⟩ : ∃ x, x = wc := ⟨_, rfl⟩
      subst hwE
      go_cut [4, 34, 35, 36] from 13 to 33 (fun x4 x34 x35 x36 wx => ∃ (aT : Option Addr) (cT : Nat), x34 = .slice aT LT.length cT ∧ x35 = .int .i64 LT.length ∧ x36 = .int .i64 0 ∧ Hid (0 < LT.length → aT = some ⟨b1, o1 + 1, none⟩) ∧ Hid (wE = wx))
      case first =>
        have hcL : LT.length + 1 ≤ c1 := HCAP.out
        go_wp2_with fail
        all_goals go_meet
        all_goals exact ⟨_, _, rfl, rfl, rfl, (fun h9 => by first | rfl | (exfalso; omega)), rfl⟩
      case rest =>
        obtain ⟨aT, cT, rfl, rfl, rfl, haT, hwx⟩ := hcut
        obtain rfl : wE = wc := hwx.out
        have hzE : sb < wE.heap.size := hsb2
        clear hwx
        go_wp2_with fail
        go_loopw [36] (fun iv wl => ∃ (k : Nat) (av : Option Addr) (cv : Nat), k ≤ LT.length ∧ iv = .int .i64 k ∧ Hid (St w wE.heap.size wl [(w.heap.size, #[.int .i64 0, .int .i64 0, .slice none 0 0], 26), (sb, #[.int .i64 PP, .int .i64 UU, .slice av k cv], 26)]) ∧ Hid (∀ j (hj : j < LT.length), wl.cell? ⟨b1, o1 + 1 + j, none⟩ = some (.string ⟨LT[j].toArray⟩)) ∧
          Hid (AccP (fun z => wE.heap.size ≤ z ∧ z < wl.heap.size) 73 wl (.slice av k cv) ((LT.take k).map eqnI))) (fun iv _ => LT.length - (intOf iv).toNat)
        case atStart => exact ⟨0, none, 0, Nat.zero_le _, rfl, HS1.out, HCC.out, AccP.nil _ _ _⟩
        case round =>
          clear HS1 HCC
          obtain ⟨k, av, cv, hk, rfl, hst2, hcb, hac⟩ := hrel
          have hzr : wE.heap.size ≤ wr.heap.size := hst2.out.hi
          have HAV := Lib.hid (AccP.wk hac.out.tight (C := fun z => wE.heap.size ≤ z ∧ z < wr.heap.size) (fun z h => h.1))
          clear hac
          have k0_0 := hst2.out.cellAt 0 rfl 0 rfl
          have k0_1 := hst2.out.cellAt 0 rfl 1 rfl
          have k0_2 := hst2.out.cellAt 0 rfl 2 rfl
          have k1_0 := hst2.out.cellAt 1 rfl 0 rfl
          have k1_1 := hst2.out.cellAt 1 rfl 1 rfl
          have k1_2 := hst2.out.cellAt 1 rfl 2 rfl
          by_cases hlt : k < LT.length
          · have hkl : (k : Int) < LT.length := by omega
            obtain rfl := haT.out (by omega)
            have q0 := hcb.out k hlt
            have hln := HN2.out _ (List.getElem_mem hlt)
            have HTK := Lib.hid (map_takeD eqnI LT hlt)
            have HLK := Lib.hid (show ((LT.take k).map eqnI).length = k by rw [List.length_map, List.length_take]; omega)
            obtain ⟨hc1, hc2⟩ := cut_len LT[k] [32, 61, 32]
            have HEQ := Lib.hid (show eqnI LT[k] = (digR (Lib.cut LT[k] [32, 61, 32]).1, numI (Lib.cut LT[k] [32, 61, 32]).2.1) from rfl)
            have HCT := Lib.hid (fun W h => cut_c LT[k] W h hln)
            generalize (Lib.cut LT[k] [32, 61, 32]).2.2 = F3 at *
            generalize (Lib.cut LT[k] [32, 61, 32]).2.1 = RR at *
            generalize (Lib.cut LT[k] [32, 61, 32]).1 = LL at *
            have HBR := Lib.hid (Below.refl wr.heap.size wr)
            have hLL : LL.length ≤ 1048576 := by omega
            have hRR : RR.length ≤ 1048576 := by omega
            have hIr := numI_i64 RR
            have HCB2 := Lib.hid hcb.out
            go_wp2_with fail
            refine (HCT.out _ (HE.out.mono hst2.out.bel)).mono ?_
            rintro e w80 ⟨rfl, hbw80⟩
            have hz_w80 : wr.heap.size ≤ w80.heap.size := by have h9 := hbw80.size; (try simp at h9); omega
            have hs81 := hst2.out.step hbw80
            have HAV_82 := Lib.hid (AccP.mono HAV.out hbw80)
            clear HAV
            have HBR_83 := Lib.hid (HBR.out.trans ((hbw80).mono HBR.out.size))
            clear HBR
            clear k0_0 k0_1 k0_2 k1_0 k1_1 k1_2
            have k0_0 := hs81.cellAt 0 rfl 0 rfl
            have k0_1 := hs81.cellAt 0 rfl 1 rfl
            have k0_2 := hs81.cellAt 0 rfl 2 rfl
            have k1_0 := hs81.cellAt 1 rfl 0 rfl
            have k1_1 := hs81.cellAt 1 rfl 1 rfl
            have k1_2 := hs81.cellAt 1 rfl 2 rfl
            go_upto_region 10 with fail
            clear q0
            refine wp_region_noPanic (wp_region_tree4 (fun w' => w'.cell? ⟨w.heap.size, 0, none⟩ = some (.int .i64 0) ∧ w'.cell? ⟨w.heap.size, 1, none⟩ = some (.int .i64 0) ∧ w'.cell? ⟨w.heap.size, 2, none⟩ = some (.slice none 0 0) ∧ w'.cell? ⟨sb, 0, none⟩ = some (.int .i64 PP) ∧ w'.cell? ⟨sb, 1, none⟩ = some (.int .i64 UU) ∧ w'.cell? ⟨sb, 2, none⟩ = some (.slice av k cv)) (.float 0 (.float 1 (.float 2 (.float 4 (.hard 3 (.hard 5 (.float 6 (.hard 7 (.hard 8 (.float 9 (.last 10 .nil))))))))))) (by kernel_rfl) (by kernel_rfl) (by kernel_rfl) rfl ?_ (fun _ _ _ _ _ h => h) ?_)
            · exact ⟨(hs81.drew).cellAt 0 rfl 0 rfl, (hs81.drew).cellAt 0 rfl 1 rfl, (hs81.drew).cellAt 0 rfl 2 rfl, (hs81.drew).cellAt 1 rfl 0 rfl, (hs81.drew).cellAt 1 rfl 1 rfl, (hs81.drew).cellAt 1 rfl 2 rfl⟩
            have hs84 := hs81.drew
            have HAV_85 := Lib.hid (AccP.mono HAV_82.out (belowD _))
            clear HAV_82
            have HBR_86 := Lib.hid (HBR_83.out.trans (((belowD _)).mono HBR_83.out.size))
            clear HBR_83
            clear k0_0 k0_1 k0_2 k1_0 k1_1 k1_2
            have hz_wd87 : w80.heap.size ≤ (w80.drew).heap.size := by simp
            generalize hgen_wd87 : w80.drew = wd87 at *
            have HG_wd87 := Lib.hid hgen_wd87
            clear hgen_wd87
            (repeat (first | (apply t4_skip rfl (by rfl); try simp only [Act.put, List.setIfInBounds_toArray, List.set_cons_zero, List.set_cons_succ]) | (apply t4_float rfl (by rfl); (· (intro w' hS; go_simp <;> with_reducible rfl)); (try simp only [Act.put, List.setIfInBounds_toArray, List.set_cons_zero, List.set_cons_succ]))))
            refine t4_hard rfl (by rfl) (fun K hK => ?_)
            go_wp2_with (go_at_call 55; refine (readDigits_c LL _ hLL).mono ?_; rintro e w88 ⟨v5, rfl, hF5, hbw88⟩)
            have hz_w88 : wd87.heap.size ≤ w88.heap.size := by have h9 := hbw88.size; (try simp at h9); omega
            have hs89 := hs84.step hbw88
            have HAV_90 := Lib.hid (AccP.mono HAV_85.out hbw88)
            clear HAV_85
            have HBR_91 := Lib.hid (HBR_86.out.trans ((hbw88).mono HBR_86.out.size))
            clear HBR_86
            have HF5 := Lib.hid hF5
            clear hF5
            obtain ⟨a5, c5, rfl, _⟩ := rd_list HF5.out.rd
            refine ⟨⟨hs89.cellAt 0 rfl 0 rfl, hs89.cellAt 0 rfl 1 rfl, hs89.cellAt 0 rfl 2 rfl, hs89.cellAt 1 rfl 0 rfl, hs89.cellAt 1 rfl 1 rfl, hs89.cellAt 1 rfl 2 rfl⟩, ?_⟩
            (repeat (first | (apply t4_skip rfl (by rfl); try simp only [Act.put, List.setIfInBounds_toArray, List.set_cons_zero, List.set_cons_succ]) | (apply t4_float rfl (by rfl); (· (intro w' hS; go_simp <;> with_reducible rfl)); (try simp only [Act.put, List.setIfInBounds_toArray, List.set_cons_zero, List.set_cons_succ]))))
            refine t4_hard rfl (by rfl) (fun K hK => ?_)
            go_wp2_with (go_at_call 53; refine (readNumber_c RR _ (HE.out.mono hs89.bel) hRR).mono ?_; rintro e w92 ⟨rfl, hbw92⟩)
            have hz_w92 : w88.heap.size ≤ w92.heap.size := by have h9 := hbw92.size; (try simp at h9); omega
            have hs93 := hs89.step hbw92
            have HAV_94 := Lib.hid (AccP.mono HAV_90.out hbw92)
            clear HAV_90
            have HBR_95 := Lib.hid (HBR_91.out.trans ((hbw92).mono HBR_91.out.size))
            clear HBR_91
            have HF5_96 := Lib.hid (Fresh.mono HF5.out hbw92)
            clear HF5
            refine ⟨⟨hs93.cellAt 0 rfl 0 rfl, hs93.cellAt 0 rfl 1 rfl, hs93.cellAt 0 rfl 2 rfl, hs93.cellAt 1 rfl 0 rfl, hs93.cellAt 1 rfl 1 rfl, hs93.cellAt 1 rfl 2 rfl⟩, ?_⟩
            (repeat (first | (apply t4_skip rfl (by rfl); try simp only [Act.put, List.setIfInBounds_toArray, List.set_cons_zero, List.set_cons_succ]) | (apply t4_float rfl (by rfl); (· (intro w' hS; go_simp <;> with_reducible rfl)); (try simp only [Act.put, List.setIfInBounds_toArray, List.set_cons_zero, List.set_cons_succ]))))
            refine t4_hard rfl (by rfl) (fun K hK => ?_)
            go_wp2_with fail
            have hs97 := hs93.alloc #[.slice a5 (digR LL).length c5, .int .i64 (numI RR)] 73 (n := w92.heap.size) (by simp)
            have HAV_98 := Lib.hid (AccP.mono HAV_94.out (belowA _ (.cells #[.slice a5 (digR LL).length c5, .int .i64 (numI RR)] 73)))
            clear HAV_94
            have HBR_99 := Lib.hid (HBR_95.out.trans (((belowA _ (.cells #[.slice a5 (digR LL).length c5, .int .i64 (numI RR)] 73))).mono HBR_95.out.size))
            clear HBR_95
            have HF5_100 := Lib.hid (Fresh.mono HF5_96.out (belowA _ (.cells #[.slice a5 (digR LL).length c5, .int .i64 (numI RR)] 73)))
            clear HF5_96
            refine ⟨⟨hs97.cellAt 0 rfl 0 rfl, hs97.cellAt 0 rfl 1 rfl, hs97.cellAt 0 rfl 2 rfl, hs97.cellAt 1 rfl 0 rfl, hs97.cellAt 1 rfl 1 rfl, hs97.cellAt 1 rfl 2 rfl⟩, ?_⟩
            (repeat (first | (apply t4_skip rfl (by rfl); try simp only [Act.put, List.setIfInBounds_toArray, List.set_cons_zero, List.set_cons_succ]) | (apply t4_float rfl (by rfl); (· (intro w' hS; go_simp <;> with_reducible rfl)); (try simp only [Act.put, List.setIfInBounds_toArray, List.set_cons_zero, List.set_cons_succ]))))
            refine t4_hard rfl (by rfl) (fun K hK => ?_)
            have hsW := hs97.hi
            have IY := ip_cons (C := fun z => wr.heap.size ≤ z) (HF5_100.out.ip) (ip_int1 (C := fun _ => False) hIr) (fun z h h2 => h2) (fun z h => by (try simp at h ⊢); omega) (fun z h => h.elim)
            refine wp_append_accP _ _ _ _ rfl E_eqns rfl HAV_98.out IY (fun z h1 h2 => by have h3 := h1.2; omega) ⟨w92.heap.size, 0, none⟩ 1 rfl (news2 (hs97.cellAt 2 rfl 0 rfl) (hs97.cellAt 2 rfl 1 rfl)) (by rw [HLK.out]; omega) ?_
            simp only [HLK.out]
            intro a8 c8 w8 hA8 hB8
            rw [← HEQ.out, HTK.out] at hA8
            have hz8 := hB8.size
            have hs8 := hs97.butP hB8 (fun z hz => by have := hz.1; omega) (fun x hx hA => by have h1 := hA.1; have h2 := hA.2; simp at hx; rcases hx with rfl | rfl | rfl <;> (try simp only at h1 h2) <;> omega)
            have HA8 := Lib.hid (AccP.wk hA8.tight (C := fun z => wE.heap.size ≤ z ∧ z < w8.heap.size) (fun z hz => ⟨by
              rcases hz.1 with h | h | h
              · exact h.1
              · omega
              · rw [h]; (try simp); omega, hz.2⟩))
            have HC8 := Lib.hid (fun j hj => cellB hB8 (cellL HBR_99.out (HCB2.out j hj)) (fun h => by have h3 := h.1; omega))
            clear hA8 IY
            clear HAV_98
            clear HF5_100
            clear HBR_99
            refine hK _ _ ⟨⟨hs8.cellAt 0 rfl 0 rfl, hs8.cellAt 0 rfl 1 rfl, hs8.cellAt 0 rfl 2 rfl, hs8.cellAt 1 rfl 0 rfl, hs8.cellAt 1 rfl 1 rfl, hs8.cellAt 1 rfl 2 rfl⟩, ?_⟩
            (repeat (first | (apply t4_skip rfl (by rfl); try simp only [Act.put, List.setIfInBounds_toArray, List.set_cons_zero, List.set_cons_succ]) | (apply t4_float rfl (by rfl); (· (intro w' hS; go_simp <;> with_reducible rfl)); (try simp only [Act.put, List.setIfInBounds_toArray, List.set_cons_zero, List.set_cons_succ]))))
            refine t4_last rfl (by rfl) (fun K hK => ?_)
            have k0_0 := hs8.cellAt 0 rfl 0 rfl
            have k0_1 := hs8.cellAt 0 rfl 1 rfl
            have k0_2 := hs8.cellAt 0 rfl 2 rfl
            have k1_0 := hs8.cellAt 1 rfl 0 rfl
            have k1_1 := hs8.cellAt 1 rfl 1 rfl
            have k1_2 := hs8.cellAt 1 rfl 2 rfl
            have k2_0 := hs8.cellAt 2 rfl 0 rfl
            have k2_1 := hs8.cellAt 2 rfl 1 rfl
            have hs101 := hs8.low (B' := wE.heap.size) (bx' := [(w.heap.size, #[.int .i64 0, .int .i64 0, .slice none 0 0], 26), (sb, #[.int .i64 PP, .int .i64 UU, .slice av k cv], 26)]) (by omega) (by (try simp) <;> omega) (fun x hx => by simp only [List.mem_cons, List.not_mem_nil, or_false] at hx; rcases hx with rfl | rfl <;> (refine ⟨?_, ?_⟩ <;> (try simp) <;> (try omega)))
            have f1_0 := hs101.freeAt 1 rfl 0
            have f1_1 := hs101.freeAt 1 rfl 1
            have f1_2 := hs101.freeAt 1 rfl 2
            have HC9 := Lib.hid (fun j hj => cell_put (b' := sb) (o' := 2) (u := .slice a8 (k + 1) c8) (HC8.out j hj) (by omega))
            have HAV := HA8
            clear HA8
            go_wp2_with fail
            refine t4_nil (NoPanic.normal ?_)
            have hs102 := hs101.set (p := [_]) (by simp <;> omega) 2 (.slice a8 (k + 1) c8)
            have HAV_103 := Lib.hid (AccP.setCell (b := sb) (o := 2) HAV.out (.slice a8 (k + 1) c8) (by intro hA9; (try simp only at hA9); omega))
            clear HAV
            clear k0_0 k0_1 k0_2 k1_0 k1_1 k1_2 k2_0 k2_1
            have hz_wP : w8.heap.size ≤ ((w8.setCell ⟨sb, 2, none⟩ (.slice a8 (k + 1) c8))).heap.size := by simp [World.setCell]
            generalize hgen_wP : (w8.setCell ⟨sb, 2, none⟩ (.slice a8 (k + 1) c8)) = wP at *
            clear hgen_wP
            have k0_0 := hs102.cellAt 0 rfl 0 rfl
            have k0_1 := hs102.cellAt 0 rfl 1 rfl
            have k0_2 := hs102.cellAt 0 rfl 2 rfl
            have k1_0 := hs102.cellAt 1 rfl 0 rfl
            have k1_1 := hs102.cellAt 1 rfl 1 rfl
            have k1_2 := hs102.cellAt 1 rfl 2 rfl
            go_wp2_with fail
            go_roundw
            case rel => exact ⟨k + 1, a8, c8, hlt, by go_num, hs102, HC9.out, AccP.wk HAV_103.out (fun z hz => ⟨hz.1, by have := hz.2; omega⟩)⟩
            case measure => simp [intOf]; omega
          · obtain rfl : k = LT.length := by omega
            have hnl : ¬ ((LT.length : Int) < LT.length) := by omega
            have HRD := Lib.hid (show Rd wr [.slice av LT.length cv] (LT.map eqnI) from by have h := HAV.out.rd; rwa [List.take_length] at h)
            have HFA := Lib.hid (show Fresh wE.heap.size wr [.slice av LT.length cv] (LT.map eqnI) from by
              have h := HAV.out
              rw [List.take_length] at h
              exact h.ip.fresh (fun k hk => hk.1))
            clear HAV
            have HTX := Lib.hid (show ∀ W : World, Rd W [.slice av LT.length cv] (LT.map eqnI) → ∀ TX, TX = textF (PP, UU, LT.map eqnI) → Calls Tryz.prog 21 #[.agg #[.int .i64 PP, .int .i64 UU, .slice av LT.length cv]] W fun e w' => e = .returned (.string ⟨TX.toArray⟩) ∧ Below W.heap.size W w' from fun W h TX hT => by
              rw [hT]
              exact SystemText_c (PP, UU, LT.map eqnI) _ _ _ W (mk_cons (mk_rdint hIp) (mk_cons (mk_rdint hIu) h)))
            obtain ⟨TX, hTX⟩ : ∃ TX, TX = textF (PP, UU, LT.map eqnI) := ⟨_, rfl⟩
            have HTW := Lib.hid (fun W h => HTX.out W h TX hTX)
            have HSJ := Lib.hid (show readI t = if TX ≠ [] ∧ TX = t then ((PP, UU, LT.map eqnI), 0) else ((0, 0, []), 5) by rw [HSI.out, hTX])
            clear hTX HTX HSI
            go_wp2_with fail
            refine (HTW.out _ HRD.out).mono ?_
            rintro e w104 ⟨rfl, hbw104⟩
            have hz_w104 : wr.heap.size ≤ w104.heap.size := by have h9 := hbw104.size; (try simp at h9); omega
            have hs105 := hst2.out.step hbw104
            have HFA_106 := Lib.hid (Fresh.mono HFA.out hbw104)
            clear HFA
            clear k0_0 k0_1 k0_2 k1_0 k1_1 k1_2
            have k0_0 := hs105.cellAt 0 rfl 0 rfl
            have k0_1 := hs105.cellAt 0 rfl 1 rfl
            have k0_2 := hs105.cellAt 0 rfl 2 rfl
            have k1_0 := hs105.cellAt 1 rfl 0 rfl
            have k1_1 := hs105.cellAt 1 rfl 1 rfl
            have k1_2 := hs105.cellAt 1 rfl 2 rfl
            clear HTW
            by_cases hA : TX = []
            · have H1 := Lib.hid (show readI t = ((0, 0, []), 5) by rw [HSJ.out, if_neg (fun h => h.1 hA)])
              have hb8 : (TX == []) = true := by simp [hA]
              have hb9 : TX.isEmpty = true := by simp [hA]
              clear hA
              have g0 := (hs105.freeAt 0 rfl 0)
              have g1 := (hs105.freeAt 0 rfl 1)
              have g2 := (hs105.freeAt 0 rfl 2)
              have hs9 := (((hs105.set (p := []) (by simp <;> omega) 0 (.int .i64 0)).set (p := []) (by simp <;> omega) 1 (.int .i64 0)).set (p := []) (by simp <;> omega) 2 (.slice none 0 0))
              have HB9 := Lib.hid hs9.bel
              have y0 := hs9.cellAt 0 rfl 0 rfl
              have y1 := hs9.cellAt 0 rfl 1 rfl
              have y2 := hs9.cellAt 0 rfl 2 rfl
              clear hs9
              go_wp2_with fail
              refine bodyPost_ret (v := .tuple #[.agg #[.int .i64 0, .int .i64 0, .slice none 0 0], .int .i64 5]) (by simp [results, Tryz.results20, go_sem, y0, y1, y2]) rfl ⟨_, _, _, by rw [H1.out], ?_, HB9.out⟩
              rw [H1.out]; exact fresh_sys0
            · have hb8 : (TX == []) = false := by simp [hA]
              have hb9 : TX.isEmpty = false := by simp [hA]
              by_cases hB : TX = t
              · have H1 := Lib.hid (show readI t = ((PP, UU, LT.map eqnI), 0) by rw [HSJ.out, if_pos ⟨hA, hB⟩])
                have hb7 : (TX == t) = true := by simp [hB]
                clear hA hB HSJ
                have g0 := (hs105.freeAt 0 rfl 0)
                have g1 := (hs105.freeAt 0 rfl 1)
                have g2 := (hs105.freeAt 0 rfl 2)
                have hs9 := (((hs105.set (p := []) (by simp <;> omega) 0 (.int .i64 PP)).set (p := []) (by simp <;> omega) 1 (.int .i64 UU)).set (p := []) (by simp <;> omega) 2 (.slice av LT.length cv))
                have HF9 := Lib.hid (show Fresh w.heap.size (((w104.setCell ⟨w.heap.size, 0, none⟩ (.int .i64 PP)).setCell ⟨w.heap.size, 1, none⟩ (.int .i64 UU)).setCell ⟨w.heap.size, 2, none⟩ (.slice av LT.length cv)) [.int .i64 PP, .int .i64 UU, .slice av LT.length cv] ((PP, UU, LT.map eqnI) : Sys) from
                  fresh_sysR hIp hIu ((((HFA_106.out.setCell (a := ⟨w.heap.size, 0, none⟩) (by simp <;> omega) (.int .i64 PP)).setCell (a := ⟨w.heap.size, 1, none⟩) (by simp <;> omega) (.int .i64 UU)).setCell (a := ⟨w.heap.size, 2, none⟩) (by simp <;> omega) (.slice av LT.length cv)).lower (by omega)))
                have HB9 := Lib.hid hs9.bel
                have y0 := hs9.cellAt 0 rfl 0 rfl
                have y1 := hs9.cellAt 0 rfl 1 rfl
                have y2 := hs9.cellAt 0 rfl 2 rfl
                clear hs9
                go_wp2_with fail
                refine bodyPost_ret (v := .tuple #[.agg #[.int .i64 PP, .int .i64 UU, .slice av LT.length cv], .int .i64 0]) (by simp [results, Tryz.results20, go_sem, y0, y1, y2]) rfl ⟨_, _, _, by rw [H1.out], ?_, HB9.out⟩
                rw [H1.out]; exact HF9.out
              · have H1 := Lib.hid (show readI t = ((0, 0, []), 5) by rw [HSJ.out, if_neg (fun h => hB h.2)])
                have hb7 : (TX == t) = false := by simp [hB]
                clear hA hB
                have g0 := (hs105.freeAt 0 rfl 0)
                have g1 := (hs105.freeAt 0 rfl 1)
                have g2 := (hs105.freeAt 0 rfl 2)
                have hs9 := (((hs105.set (p := []) (by simp <;> omega) 0 (.int .i64 0)).set (p := []) (by simp <;> omega) 1 (.int .i64 0)).set (p := []) (by simp <;> omega) 2 (.slice none 0 0))
                have HB9 := Lib.hid hs9.bel
                have y0 := hs9.cellAt 0 rfl 0 rfl
                have y1 := hs9.cellAt 0 rfl 1 rfl
                have y2 := hs9.cellAt 0 rfl 2 rfl
                clear hs9
                go_wp2_with fail
                refine bodyPost_ret (v := .tuple #[.agg #[.int .i64 0, .int .i64 0, .slice none 0 0], .int .i64 5]) (by simp [results, Tryz.results20, go_sem, y0, y1, y2]) rfl ⟨_, _, _, by rw [H1.out], ?_, HB9.out⟩
                rw [H1.out]; exact fresh_sys0
  · have H1 := Lib.hid (show readI t = ((0, 0, []), 5) by rw [HQ.out, if_neg h3])
    have hb : ((HD.length : Int) != 3) = true := by rw [bne_iff_ne]; omega
    clear h3
    have g0 := (hs6.freeAt 0 rfl 0)
    have g1 := (hs6.freeAt 0 rfl 1)
    have g2 := (hs6.freeAt 0 rfl 2)
    have hs9 := (((hs6.set (p := []) (by simp <;> omega) 0 (.int .i64 0)).set (p := []) (by simp <;> omega) 1 (.int .i64 0)).set (p := []) (by simp <;> omega) 2 (.slice none 0 0))
    have HB9 := Lib.hid hs9.bel
    have y0 := hs9.cellAt 0 rfl 0 rfl
    have y1 := hs9.cellAt 0 rfl 1 rfl
    have y2 := hs9.cellAt 0 rfl 2 rfl
    clear hs9
    go_wp2_with fail
    refine bodyPost_ret (v := .tuple #[.agg #[.int .i64 0, .int .i64 0, .slice none 0 0], .int .i64 5]) (by simp [results, Tryz.results20, go_sem, y0, y1, y2]) rfl ⟨_, _, _, by rw [H1.out], ?_, HB9.out⟩
    rw [H1.out]; exact fresh_sys0

end Go.Proofs.YthceklaoikeokaaGreatDoor
