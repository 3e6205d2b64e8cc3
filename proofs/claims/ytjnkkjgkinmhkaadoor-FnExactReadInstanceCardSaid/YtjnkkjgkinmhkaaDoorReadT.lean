/-
  CONTRACT: ReadSystem; the reference's side, whole.
-/
import Derived.Test.YtjnkkjgkinmhkaaDoorReadS
namespace Go.Proofs.YtjnkkjgkinmhkaaDoor
open Go.RowKit Go.Shelf Go.IntWalk
open Rep (Rd Own sz)
set_option linter.unusedSimpArgs false
set_option linter.unusedVariables false

theorem eqnsS_none : ∀ {l : List (List UInt8)} {x : List UInt8}, x ∈ l → eqnS x = none → eqnsS l = none
  | y :: ys, x, hm, h => by
    rcases List.mem_cons.1 hm with rfl | hm
    · unfold eqnsS; rw [h]
    · unfold eqnsS; rw [eqnsS_none hm h]; cases eqnS y <;> rfl
theorem eqnsS_snoc : ∀ {l : List (List UInt8)} {es : List Eqn} {x : List UInt8} {e : Eqn}, eqnsS l = some es → eqnS x = some e → eqnsS (l ++ [x]) = some (es ++ [e])
  | [], es, x, e, h, hx => by
    unfold eqnsS at h
    simp only [Option.some.injEq] at h
    subst h
    simp only [List.nil_append, eqnsS, hx]
  | y :: ys, es, x, e, h, hx => by
    unfold eqnsS at h
    cases hy : eqnS y with
    | none => rw [hy] at h; cases h
    | some ye =>
      rw [hy] at h
      cases hz : eqnsS ys with
      | none => rw [hz] at h; cases h
      | some ze =>
        rw [hz] at h
        simp only [Option.some.injEq] at h
        subst h
        have h2 := eqnsS_snoc hz hx
        rw [List.cons_append]
        unfold eqnsS
        rw [hy, h2]
        rfl
theorem numS_i64 {s : List UInt8} {n : Int} (h : numS s = some n) : I64 n := by
  unfold numS at h
  split at h
  · cases h
  · rename_i h0
    split at h
    · rename_i h1
      simp only [Option.some.injEq] at h
      subst h
      obtain ⟨h2, h3⟩ := valD_bd (s := s) s.length (Nat.le_refl _) (fun j hj _ => List.all_eq_true.1 h1 _ (List.getElem_mem hj))
      rw [List.take_length] at h2 h3
      have h4 : s.length ≤ 9 := by omega
      have h5 : (10 : Nat) ^ s.length ≤ 10 ^ 9 := Nat.pow_le_pow_right (by decide) h4
      have h6 : ((10 : Int)) ^ s.length = ((10 ^ s.length : Nat) : Int) := by rw [Int.natCast_pow]; rfl
      rw [h6] at h3
      exact ⟨by omega, by omega⟩
    · cases h
theorem readS_bad {t : List UInt8} (h : sysS t = none) : readS t = ((0, 0, []), 5) := by unfold readS; rw [h]
theorem readS_at {t L0 : List UInt8} {LT HD : List (List UInt8)} (hLS : splitC 10 t = L0 :: LT) (hHD : splitC 32 L0 = HD) :
    (¬ (HD.length = 3 ∧ HD.getD 0 [] = [115, 121, 115, 116, 101, 109] ∧ (L0 :: LT).getLastD [] = []) → readS t = ((0, 0, []), 5)) ∧
    (eqnsS LT.dropLast = none → readS t = ((0, 0, []), 5)) ∧ (numS (HD.getD 1 []) = none → readS t = ((0, 0, []), 5)) ∧ (numS (HD.getD 2 []) = none → readS t = ((0, 0, []), 5)) ∧
    (HD.length = 3 → HD.getD 0 [] = [115, 121, 115, 116, 101, 109] → (L0 :: LT).getLastD [] = [] → ∀ es p u, eqnsS LT.dropLast = some es → numS (HD.getD 1 []) = some p → numS (HD.getD 2 []) = some u →
      readS t = if validS (p, u, es) = true ∧ textB (p, u, es) = t then ((p, u, es), 0) else ((0, 0, []), 5)) := by
  have e1 : sysS t = if HD.length = 3 ∧ HD.getD 0 [] = [115, 121, 115, 116, 101, 109] ∧ (L0 :: LT).getLastD [] = [] then (match eqnsS LT.dropLast, numS (HD.getD 1 []), numS (HD.getD 2 []) with
      | some es, some p, some u => some (p, u, es)
      | _, _, _ => none) else none := by
    unfold sysS
    rw [hLS]
    simp only [List.headD_cons, List.tail_cons, hHD]
    rfl
  refine ⟨fun h => readS_bad (by rw [e1, if_neg h]), fun h => readS_bad ?_, fun h => readS_bad ?_, fun h => readS_bad ?_, fun h1 h2 h3 es p u he hp hu => ?_⟩
  · rw [e1, h]; split <;> rfl
  · rw [e1, h]
    cases eqnsS LT.dropLast <;> (split <;> rfl)
  · rw [e1, h]
    cases eqnsS LT.dropLast <;> cases numS (HD.getD 1 []) <;> (split <;> rfl)
  · unfold readS
    rw [e1, if_pos ⟨h1, h2, h3⟩, he, hp, hu]
theorem last_at (x : List UInt8) (xs : List (List UInt8)) : (x :: xs)[xs.length]'(by simp) = (x :: xs).getLastD [] := by
  rw [show (x :: xs).getLastD [] = (x :: xs).getLast (by simp) from rfl, List.getLast_eq_getElem]
  simp
theorem numP_shape (o : Option Int) : numP o = .tuple #[.int .i64 (o.getD 0), .bool o.isSome] := by cases o <;> rfl
theorem number_at (s : List UInt8) (hs : s.length ≤ 1048576) :
    ∃ (p : Int) (B : Bool), Hid (∀ W : World, Calls Tryd.prog 16 #[.string ⟨s.toArray⟩] W fun e w' => e = .returned (.tuple #[.int .i64 p, .bool B]) ∧ W = w') ∧ I64 p ∧ Hid (B = true → numS s = some p) ∧ Hid (B = false → numS s = none) := by
  have h := fun W => l01Number_c s W hs
  simp only [numP_shape] at h
  cases hn : numS s with
  | none =>
    rw [hn] at h
    exact ⟨0, false, Lib.hid h, ⟨by decide, by decide⟩, Lib.hid (fun h => by cases h), Lib.hid (fun _ => rfl)⟩
  | some p =>
    rw [hn] at h
    exact ⟨p, true, Lib.hid h, numS_i64 hn, Lib.hid (fun _ => rfl), Lib.hid (fun h => by cases h)⟩
theorem line_no (s : List UInt8) (w : World) (hs : s.length ≤ 1048576) (h : eqnS s = none) :
    Calls Tryd.prog 17 #[.string ⟨s.toArray⟩] w fun e w' => e = .returned (.tuple #[.agg #[.slice none 0 0, .int .i64 0], .bool false]) ∧ Below w.heap.size w w' :=
  (l07Line_c s w hs).mono (fun e w' ⟨v0, v1, he, hn, _, hb⟩ => ⟨by obtain ⟨rfl, rfl⟩ := hn h; rw [he, h]; rfl, hb⟩)
theorem line_yes (s : List UInt8) (w : World) (hs : s.length ≤ 1048576) (x : Eqn) (h : eqnS s = some x) :
    Calls Tryd.prog 17 #[.string ⟨s.toArray⟩] w fun e w' => ∃ v0 v1, e = .returned (.tuple #[.agg #[v0, v1], .bool true]) ∧ Fresh w.heap.size w' [v0, v1] x ∧ Below w.heap.size w w' :=
  (l07Line_c s w hs).mono (fun e w' ⟨v0, v1, he, _, hf, hb⟩ => ⟨v0, v1, by rw [he, h]; rfl, hf x h, hb⟩)
set_option maxRecDepth 100000 in
set_option maxHeartbeats 8000000 in
theorem sReadSystem_c (t : List UInt8) (w : World) (hs : t.length ≤ 1048576) :
    Calls Tryd.prog 5 #[.string ⟨t.toArray⟩] w fun e w' => ∃ u0 u1 u2, e = .returned (.tuple #[.agg #[u0, u1, u2], .int .i64 (readS t).2]) ∧ Fresh w.heap.size w' [u0, u1, u2] (readS t).1 ∧ Below w.heap.size w w' := by
  obtain ⟨L0, LT, hLS⟩ : ∃ x xs, splitC 10 t = x :: xs := by
    have hne := splitC_ne 10 t
    match splitC 10 t, hne with
    | x :: xs, _ => exact ⟨x, xs, rfl⟩
  obtain ⟨HD, hHD⟩ : ∃ HD, HD = splitC 32 L0 := ⟨_, rfl⟩
  obtain ⟨LZ, hLZ⟩ : ∃ LZ, LZ = (L0 :: LT).getLastD [] := ⟨_, rfl⟩
  obtain ⟨M, hM⟩ : ∃ M, M = LT.dropLast := ⟨_, rfl⟩
  obtain ⟨hn1, hn2⟩ := splitC_len 10 t
  rw [hLS] at hn1 hn2
  have hLT : LT.length ≤ 1048576 := by simp only [List.length_cons] at hn1; omega
  have h0l : L0.length ≤ 1048576 := by have := hn2 L0 (List.mem_cons_self ..); omega
  have HM2 := Lib.hid (show ∀ x, x ∈ HD → x.length ≤ 1048576 from fun x hx => by rw [hHD] at hx; have := (splitC_len 32 L0).2 x hx; omega)
  have HN2 := Lib.hid (show ∀ x, x ∈ M → x.length ≤ 1048576 from fun x hx => by rw [hM] at hx; have := hn2 x (List.mem_cons_of_mem _ (List.dropLast_subset _ hx)); omega)
  obtain ⟨R1, R2, R3, R4, R5⟩ := readS_at hLS hHD.symm
  rw [← hLZ] at R1 R5
  rw [← hM] at R2 R5
  have HR1 := Lib.hid R1
  have HR2 := Lib.hid R2
  have HR3 := Lib.hid R3
  have HR4 := Lib.hid R4
  have HR5 := Lib.hid R5
  have HMG := Lib.hid (show ∀ j (hj : j < M.length), ∃ h : j < LT.length, LT[j] = M[j] from fun j hj => by
    subst hM
    have h1 : j < LT.length := by rw [List.length_dropLast] at hj; omega
    exact ⟨h1, (List.getElem_dropLast hj).symm⟩)
  have HML := Lib.hid (show HD.length = 3 → LZ = [] → M.length + 1 = LT.length from fun h1 h2 => by
    cases LT with
    | nil =>
      have h3 : L0 = [] := by rw [hLZ] at h2; exact h2
      rw [hHD, h3] at h1
      exact absurd h1 (by decide)
    | cons y ys => rw [hM, List.length_dropLast]; simp)
  have HSP := Lib.hid (show ∀ W : World, Calls Tryd.prog 15 #[.string ⟨t.toArray⟩, .int .u8 10] W fun e w' => ∃ v, e = .returned v ∧ Rd w' [v] (L0 :: LT) ∧ Below W.heap.size W w' from fun W => by
    have h1 := l01Split_c t 10 W hs
    rw [hLS] at h1
    exact h1)
  have HSQ := Lib.hid (show ∀ W : World, Calls Tryd.prog 15 #[.string ⟨L0.toArray⟩, .int .u8 32] W fun e w' => ∃ v, e = .returned v ∧ Rd w' [v] HD ∧ Below W.heap.size W w' from fun W => by
    have h1 := l01Split_c L0 32 W h0l
    rw [← hHD] at h1
    exact h1)
  have HLZ := Lib.hid hLZ
  clear hLS hHD hn1 hn2 hLZ hM R1 R2 R3 R4 R5
  have hs1 := (St.start w).alloc #[.int .i64 0, .int .i64 0, .slice none 0 0] 24 (n := w.heap.size) (by simp)
  have k0_0 := hs1.cellAt 0 rfl 0 rfl
  have k0_1 := hs1.cellAt 0 rfl 1 rfl
  have k0_2 := hs1.cellAt 0 rfl 2 rfl
  clear k0_0 k0_1 k0_2
  have k0_0 := hs1.cellAt 0 rfl 0 rfl
  have k0_1 := hs1.cellAt 0 rfl 1 rfl
  have k0_2 := hs1.cellAt 0 rfl 2 rfl
  go_enter Tryd.func5, Tryd.ntmps5
  go_wp2_with fail
  refine (HSP.out _).mono ?_
  rintro e w2 ⟨v1, rfl, hL1, hbw2⟩
  have hz_w2 : w.heap.size + 1 ≤ w2.heap.size := by have h9 := hbw2.size; (try simp at h9); omega
  have hs3 := hs1.step hbw2
  clear k0_0 k0_1 k0_2
  have k0_0 := hs3.cellAt 0 rfl 0 rfl
  have k0_1 := hs3.cellAt 0 rfl 1 rfl
  have k0_2 := hs3.cellAt 0 rfl 2 rfl
  have HL1 := Lib.hid hL1
  clear hL1 HSP
  obtain ⟨a1, c1, rfl, _⟩ := rd_list HL1.out
  obtain ⟨b1, o1, rfl, q0⟩ := rd_str_at HL1.out 0 (by simp)
  rw [Nat.add_zero] at q0
  have q9 : w2.cell? ⟨b1, o1 + LT.length, none⟩ = some (.string ⟨LZ.toArray⟩) := by
    obtain ⟨b, o, e, q⟩ := rd_str_at HL1.out LT.length (by simp)
    simp only [Option.some.injEq, Addr.mk.injEq] at e
    obtain ⟨rfl, rfl, -⟩ := e
    rw [last_at, ← HLZ.out] at q
    exact q
  have HCB := Lib.hid (show ∀ j (hj : j < M.length), w2.cell? ⟨b1, o1 + 1 + j, none⟩ = some (.string ⟨M[j].toArray⟩) from fun j hj => by
    obtain ⟨hj2, hg⟩ := HMG.out j hj
    obtain ⟨b, o, e, q⟩ := rd_str_at HL1.out (j + 1) (by simpa using hj2)
    simp only [Option.some.injEq, Addr.mk.injEq] at e
    obtain ⟨rfl, rfl, -⟩ := e
    rw [show o1 + 1 + j = o1 + (j + 1) by omega, ← hg]
    simpa using q)
  have hb1 : b1 < w2.heap.size := World.block_lt_of_cell? _ _ q0
  clear HL1 HLZ HMG
  have q0' : w2.cell? ⟨b1, o1, none⟩ = some (.string ⟨L0.toArray⟩) := q0
  clear q0
  have HBL := Lib.hid (Below.refl w2.heap.size w2)
  go_wp2_with fail
  refine (HSQ.out _).mono ?_
  rintro e w4 ⟨v2, rfl, hL2, hbw4⟩
  have hz_w4 : w2.heap.size ≤ w4.heap.size := by have h9 := hbw4.size; (try simp at h9); omega
  have hs5 := hs3.step hbw4
  have q0'_6 := cellL hbw4 q0'
  clear q0'
  have q9_7 := cellL hbw4 q9
  clear q9
  have HBL_8 := Lib.hid (HBL.out.trans ((hbw4).mono HBL.out.size))
  clear HBL
  clear k0_0 k0_1 k0_2
  have k0_0 := hs5.cellAt 0 rfl 0 rfl
  have k0_1 := hs5.cellAt 0 rfl 1 rfl
  have k0_2 := hs5.cellAt 0 rfl 2 rfl
  have HL2 := Lib.hid hL2
  clear hL2 HSQ
  obtain ⟨a2, c2, rfl, _⟩ := rd_list HL2.out
  by_cases h3 : HD.length = 3
  · have hML0 := HML.out h3
    have HML1 := Lib.hid hML0
    clear hML0 HML
    obtain ⟨x0, x1, x2, rfl⟩ := len3 h3
    have hl1 : x1.length ≤ 1048576 := HM2.out x1 (by simp)
    have hl2 : x2.length ≤ 1048576 := HM2.out x2 (by simp)
    obtain ⟨b2, o2, rfl, q4⟩ := rd_str_at HL2.out 0 (by simp)
    obtain ⟨b2', o2', e1, q5⟩ := rd_str_at HL2.out 1 (by simp)
    obtain ⟨b3', o3', e2, q6⟩ := rd_str_at HL2.out 2 (by simp)
    simp only [Option.some.injEq, Addr.mk.injEq] at e1 e2
    obtain ⟨rfl, rfl, -⟩ := e1
    obtain ⟨rfl, rfl, -⟩ := e2
    simp only [List.getElem_cons_succ, List.getElem_cons_zero, Nat.add_zero] at q4 q5 q6
    have HQ1 := Lib.hid (show ¬ (x0 = [115, 121, 115, 116, 101, 109] ∧ LZ = []) → readS t = ((0, 0, []), 5) from fun h => HR1.out (fun h1 => h ⟨h1.2.1, h1.2.2⟩))
    have HQ3 := Lib.hid (show numS x1 = none → readS t = ((0, 0, []), 5) from HR3.out)
    have HQ4 := Lib.hid (show numS x2 = none → readS t = ((0, 0, []), 5) from HR4.out)
    have HQ5 := Lib.hid (show x0 = [115, 121, 115, 116, 101, 109] → LZ = [] → ∀ es p u, eqnsS M = some es → numS x1 = some p → numS x2 = some u → readS t = if validS (p, u, es) = true ∧ textB (p, u, es) = t then ((p, u, es), 0) else ((0, 0, []), 5) from HR5.out h3)
    clear h3 HM2 HL2 HR1 HR3 HR4 HR5
    by_cases h4 : x0 = [115, 121, 115, 116, 101, 109]
    · have gq : (x0 == [115, 121, 115, 116, 101, 109]) = true := by simp [h4]
      by_cases h5 : LZ = []
      · have HMl := HML1.out h5
        have hb8 : (LZ == []) = true := by simp [h5]
        have hb9 : LZ.isEmpty = true := by simp [h5]
        have HQ6 := Lib.hid (HQ5.out h4 h5)
        clear HML1 HQ1 HQ5 h4 h5
        obtain ⟨p, B1, HNU1, hIp, HP1, HP0⟩ := number_at x1 hl1
        obtain ⟨u, B2, HNU2, hIu, HU1, HU0⟩ := number_at x2 hl2
        go_wp2_with fail
        refine (HNU1.out _).mono ?_
        rintro e w9 ⟨rfl, rfl⟩
        go_wp2_with fail
        refine (HNU2.out _).mono ?_
        rintro e w10 ⟨rfl, rfl⟩
        have HCC := Lib.hid (fun j hj => cellL HBL_8.out (HCB.out j hj))
        clear HNU1 HNU2 HCB
        have hzL := HBL_8.out.size
        clear HBL_8
        obtain ⟨wS, hwS⟩ : ∃ x, x = w4 := ⟨_, rfl⟩
        subst hwS
        have hb1b : b1 < wS.heap.size := by omega
        have hs11 := hs5.alloc #[.int .i64 p, .int .i64 u, .slice none 0 0] 24 (n := wS.heap.size) (by simp)
        have q0'_12 := cellL (belowA _ (.cells #[.int .i64 p, .int .i64 u, .slice none 0 0] 24)) q0'_6
        clear q0'_6
        have q9_13 := cellL (belowA _ (.cells #[.int .i64 p, .int .i64 u, .slice none 0 0] 24)) q9_7
        clear q9_7
        have q4_14 := cellL (belowA _ (.cells #[.int .i64 p, .int .i64 u, .slice none 0 0] 24)) q4
        clear q4
        have q5_15 := cellL (belowA _ (.cells #[.int .i64 p, .int .i64 u, .slice none 0 0] 24)) q5
        clear q5
        have q6_16 := cellL (belowA _ (.cells #[.int .i64 p, .int .i64 u, .slice none 0 0] 24)) q6
        clear q6
        clear k0_0 k0_1 k0_2
        have k0_0 := hs11.cellAt 0 rfl 0 rfl
        have k0_1 := hs11.cellAt 0 rfl 1 rfl
        have k0_2 := hs11.cellAt 0 rfl 2 rfl
        have k1_0 := hs11.cellAt 1 rfl 0 rfl
        have k1_1 := hs11.cellAt 1 rfl 1 rfl
        have k1_2 := hs11.cellAt 1 rfl 2 rfl
        have HS6 := Lib.hid hs11
        have HC6 := Lib.hid (fun j hj => cellL (belowA wS (.cells #[.int .i64 p, .int .i64 u, .slice none 0 0] 24)) (HCC.out j hj))
        clear HCC
        go_wp2_with fail
        go_loopw [11] (fun iv wl => ∃ (k m : Nat) (av : Option Addr) (cv : Nat) (es : List Eqn), k = m + 1 ∧ m ≤ M.length ∧ es.length = m ∧ iv = .int .i64 k ∧ Hid (eqnsS (M.take m) = some es) ∧ Hid (St w (wS.heap.size + 1) wl [(w.heap.size, #[.int .i64 0, .int .i64 0, .slice none 0 0], 24), (wS.heap.size, #[.int .i64 p, .int .i64 u, .slice av m cv], 24)]) ∧
          Hid (∀ j (hj : j < M.length), wl.cell? ⟨b1, o1 + 1 + j, none⟩ = some (.string ⟨M[j].toArray⟩)) ∧
          Hid (AccP (fun z => wS.heap.size + 1 ≤ z ∧ z < wl.heap.size) 43 wl (.slice av m cv) es)) (fun iv _ => M.length + 1 - (intOf iv).toNat)
        case atStart => exact ⟨1, 0, none, 0, [], rfl, Nat.zero_le _, rfl, rfl, rfl, HS6.out, HC6.out, AccP.nil _ _ _⟩
        case round =>
          clear HS6 HC6
          obtain ⟨k, m, av, cv, es, hkm, hm, hel, rfl, hes, hst, hcb, hac⟩ := hrel
          have hzr : wS.heap.size + 1 ≤ wr.heap.size := hst.out.hi
          have HAV := Lib.hid (AccP.wk hac.out.tight (C := fun z => wS.heap.size + 1 ≤ z ∧ z < wr.heap.size) (fun z h => h.1))
          clear hac
          have k0_0 := hst.out.cellAt 0 rfl 0 rfl
          have k0_1 := hst.out.cellAt 0 rfl 1 rfl
          have k0_2 := hst.out.cellAt 0 rfl 2 rfl
          have k1_0 := hst.out.cellAt 1 rfl 0 rfl
          have k1_1 := hst.out.cellAt 1 rfl 1 rfl
          have k1_2 := hst.out.cellAt 1 rfl 2 rfl
          by_cases hlt : m < M.length
          · have hkl : (k : Int) + 1 < (LT.length : Int) + 1 := by omega
            have hkl2 : (k : Int) < (LT.length : Int) := by omega
            have q0 : wr.cell? ⟨b1, o1 + k, none⟩ = some (.string ⟨M[m].toArray⟩) := by
              have h := hcb.out m hlt
              rwa [show o1 + 1 + m = o1 + k by omega] at h
            have hX := HN2.out _ (List.getElem_mem hlt)
            have HXN := Lib.hid (show eqnS M[m] = none → readS t = ((0, 0, []), 5) from fun h => HR2.out (eqnsS_none (List.getElem_mem hlt) h))
            have HXS := Lib.hid (show ∀ e, eqnS M[m] = some e → eqnsS (M.take (m + 1)) = some (es ++ [e]) from fun e h => by rw [List.take_succ_eq_append_getElem hlt]; exact eqnsS_snoc hes.out h)
            generalize M[m] = X at *
            have HKM := Lib.hid hkm
            have HLK := Lib.hid hel
            clear hkm hel
            have HBR := Lib.hid (Below.refl wr.heap.size wr)
            cases he : eqnS X with
            | none =>
              have H1 := Lib.hid (HXN.out he)
              have HLN := Lib.hid (fun W => line_no X W hX he)
              clear he HXN HXS
              go_wp2_with fail
              refine (HLN.out _).mono ?_
              rintro e w17 ⟨rfl, hbw17⟩
              have hz_w17 : wr.heap.size ≤ w17.heap.size := by have h9 := hbw17.size; (try simp at h9); omega
              have hs18 := hst.out.step hbw17
              have HAV_19 := Lib.hid (AccP.mono HAV.out hbw17)
              clear HAV
              have HBR_20 := Lib.hid (HBR.out.trans ((hbw17).mono HBR.out.size))
              clear HBR
              clear k0_0 k0_1 k0_2 k1_0 k1_1 k1_2
              have k0_0 := hs18.cellAt 0 rfl 0 rfl
              have k0_1 := hs18.cellAt 0 rfl 1 rfl
              have k0_2 := hs18.cellAt 0 rfl 2 rfl
              have k1_0 := hs18.cellAt 1 rfl 0 rfl
              have k1_1 := hs18.cellAt 1 rfl 1 rfl
              have k1_2 := hs18.cellAt 1 rfl 2 rfl
              clear HLN
              have hs21 := hs18.alloc #[.slice none 0 0, .int .i64 0] 43 (n := w17.heap.size) (by simp)
              have HAV_22 := Lib.hid (AccP.mono HAV_19.out (belowA _ (.cells #[.slice none 0 0, .int .i64 0] 43)))
              clear HAV_19
              have HBR_23 := Lib.hid (HBR_20.out.trans (((belowA _ (.cells #[.slice none 0 0, .int .i64 0] 43))).mono HBR_20.out.size))
              clear HBR_20
              clear k0_0 k0_1 k0_2 k1_0 k1_1 k1_2
              have k0_0 := hs21.cellAt 0 rfl 0 rfl
              have k0_1 := hs21.cellAt 0 rfl 1 rfl
              have k0_2 := hs21.cellAt 0 rfl 2 rfl
              have k1_0 := hs21.cellAt 1 rfl 0 rfl
              have k1_1 := hs21.cellAt 1 rfl 1 rfl
              have k1_2 := hs21.cellAt 1 rfl 2 rfl
              have k2_0 := hs21.cellAt 2 rfl 0 rfl
              have k2_1 := hs21.cellAt 2 rfl 1 rfl
              clear HAV_22
              clear HBR_23
              have g0 := (hs21.freeAt 0 rfl 0)
              have g1 := (hs21.freeAt 0 rfl 1)
              have g2 := (hs21.freeAt 0 rfl 2)
              have hs9 := (((hs21.set (p := []) (by simp <;> omega) 0 (.int .i64 0)).set (p := []) (by simp <;> omega) 1 (.int .i64 0)).set (p := []) (by simp <;> omega) 2 (.slice none 0 0))
              have HB9 := Lib.hid hs9.bel
              have y0 := hs9.cellAt 0 rfl 0 rfl
              have y1 := hs9.cellAt 0 rfl 1 rfl
              have y2 := hs9.cellAt 0 rfl 2 rfl
              clear hs9
              go_wp2_with fail
              refine bodyPost_ret (v := .tuple #[.agg #[.int .i64 0, .int .i64 0, .slice none 0 0], .int .i64 5]) (by simp [results, Tryd.results5, go_sem, y0, y1, y2]) rfl ⟨_, _, _, by rw [H1.out], ?_, HB9.out⟩
              rw [H1.out]; exact fresh_sys0
            | some y =>
              have HTK := Lib.hid (HXS.out y he)
              have HLN := Lib.hid (fun W => line_yes X W hX y he)
              clear he HXN HXS
              go_wp2_with fail
              refine (HLN.out _).mono ?_
              rintro e w24 ⟨v0, v3, rfl, hF, hbw24⟩
              have hz_w24 : wr.heap.size ≤ w24.heap.size := by have h9 := hbw24.size; (try simp at h9); omega
              have hs25 := hst.out.step hbw24
              have HAV_26 := Lib.hid (AccP.mono HAV.out hbw24)
              clear HAV
              have HBR_27 := Lib.hid (HBR.out.trans ((hbw24).mono HBR.out.size))
              clear HBR
              clear k0_0 k0_1 k0_2 k1_0 k1_1 k1_2
              have k0_0 := hs25.cellAt 0 rfl 0 rfl
              have k0_1 := hs25.cellAt 0 rfl 1 rfl
              have k0_2 := hs25.cellAt 0 rfl 2 rfl
              have k1_0 := hs25.cellAt 1 rfl 0 rfl
              have k1_1 := hs25.cellAt 1 rfl 1 rfl
              have k1_2 := hs25.cellAt 1 rfl 2 rfl
              clear HLN
              obtain ⟨el, er⟩ := y
              have HF5 := Lib.hid hF
              have zf := rd_cons rfl hF.rd
              obtain ⟨a5, c5, rfl, _⟩ := rd_list zf.1
              obtain ⟨rfl, _⟩ := rd_i1 zf.2
              clear hF zf
              have hs28 := hs25.alloc #[.slice a5 el.length c5, .int .i64 er] 43 (n := w24.heap.size) (by simp)
              have HAV_29 := Lib.hid (AccP.mono HAV_26.out (belowA _ (.cells #[.slice a5 el.length c5, .int .i64 er] 43)))
              clear HAV_26
              have HBR_30 := Lib.hid (HBR_27.out.trans (((belowA _ (.cells #[.slice a5 el.length c5, .int .i64 er] 43))).mono HBR_27.out.size))
              clear HBR_27
              have HF5_31 := Lib.hid (Fresh.mono HF5.out (belowA _ (.cells #[.slice a5 el.length c5, .int .i64 er] 43)))
              clear HF5
              clear k0_0 k0_1 k0_2 k1_0 k1_1 k1_2
              have k0_0 := hs28.cellAt 0 rfl 0 rfl
              have k0_1 := hs28.cellAt 0 rfl 1 rfl
              have k0_2 := hs28.cellAt 0 rfl 2 rfl
              have k1_0 := hs28.cellAt 1 rfl 0 rfl
              have k1_1 := hs28.cellAt 1 rfl 1 rfl
              have k1_2 := hs28.cellAt 1 rfl 2 rfl
              have k2_0 := hs28.cellAt 2 rfl 0 rfl
              have k2_1 := hs28.cellAt 2 rfl 1 rfl
              have j2 := (hs28.cellAt 1 rfl 2 rfl)
              have j3 := (hs28.cellAt 2 rfl 0 rfl)
              have j4 := (hs28.cellAt 2 rfl 1 rfl)
              have hs32 := hs28.alloc #[.slice a5 el.length c5, .int .i64 er] 43 (n := w24.heap.size + 1) (by simp)
              have HAV_33 := Lib.hid (AccP.mono HAV_29.out (belowA _ (.cells #[.slice a5 el.length c5, .int .i64 er] 43)))
              clear HAV_29
              have HBR_34 := Lib.hid (HBR_30.out.trans (((belowA _ (.cells #[.slice a5 el.length c5, .int .i64 er] 43))).mono HBR_30.out.size))
              clear HBR_30
              have HF5_35 := Lib.hid (Fresh.mono HF5_31.out (belowA _ (.cells #[.slice a5 el.length c5, .int .i64 er] 43)))
              clear HF5_31
              clear k0_0 k0_1 k0_2 k1_0 k1_1 k1_2 k2_0 k2_1
              have k0_0 := hs32.cellAt 0 rfl 0 rfl
              have k0_1 := hs32.cellAt 0 rfl 1 rfl
              have k0_2 := hs32.cellAt 0 rfl 2 rfl
              have k1_0 := hs32.cellAt 1 rfl 0 rfl
              have k1_1 := hs32.cellAt 1 rfl 1 rfl
              have k1_2 := hs32.cellAt 1 rfl 2 rfl
              have k2_0 := hs32.cellAt 2 rfl 0 rfl
              have k2_1 := hs32.cellAt 2 rfl 1 rfl
              have k3_0 := hs32.cellAt 3 rfl 0 rfl
              have k3_1 := hs32.cellAt 3 rfl 1 rfl
              have HIY := Lib.hid HF5_35.out.ip
              have HS8 := Lib.hid hs32
              have HC7 := Lib.hid (fun j hj => cellL HBR_34.out (hcb.out j hj))
              go_wp2_with (at_builtin; refine wpList_append_accP _ rfl _ _ _ rfl E_eqns rfl HAV_33.out HIY.out (fun z h1 h2 => by have h3 := h1.2; (try simp only at h2 h3); omega) ⟨w24.heap.size + 1, 0, none⟩ 1 rfl (news2 (hs32.cellAt 3 rfl 0 rfl) (hs32.cellAt 3 rfl 1 rfl)) (by rw [HLK.out]; omega) ?_; simp only [HLK.out]; intro a8 c8 w8 hA8 hB8; refine Hid.out ?_)
              refine Lib.hid ?_
              have hz8 := hB8.size
              (try simp at hz8)
              have hs8 := HS8.out.butP hB8 (fun z hz => by have := hz.1; omega) (fun x hx hA => by have h1 := hA.1; have h2 := hA.2; simp at hx; rcases hx with rfl | rfl | rfl | rfl <;> (try simp only at h1 h2) <;> omega)
              have HA8 := Lib.hid (AccP.wk hA8.tight (C := fun z => wS.heap.size + 1 ≤ z ∧ z < w8.heap.size) (fun z hz => ⟨by
                rcases hz.1 with h | h | h
                · exact h.1
                · omega
                · (try simp at h); omega, hz.2⟩))
              have HC8 := Lib.hid (fun j hj => cellB hB8 (HC7.out j hj) (fun h => by have h3 := h.1; omega))
              clear hA8 HIY HC7
              clear HAV_33
              clear HF5_35
              clear HBR_34
              clear k0_0 k0_1 k0_2 k1_0 k1_1 k1_2 k2_0 k2_1 k3_0 k3_1
              have k0_0 := hs8.cellAt 0 rfl 0 rfl
              have k0_1 := hs8.cellAt 0 rfl 1 rfl
              have k0_2 := hs8.cellAt 0 rfl 2 rfl
              have k1_0 := hs8.cellAt 1 rfl 0 rfl
              have k1_1 := hs8.cellAt 1 rfl 1 rfl
              have k1_2 := hs8.cellAt 1 rfl 2 rfl
              have k2_0 := hs8.cellAt 2 rfl 0 rfl
              have k2_1 := hs8.cellAt 2 rfl 1 rfl
              have k3_0 := hs8.cellAt 3 rfl 0 rfl
              have k3_1 := hs8.cellAt 3 rfl 1 rfl
              have hs36 := hs8.low (B' := wS.heap.size + 1) (bx' := [(w.heap.size, #[.int .i64 0, .int .i64 0, .slice none 0 0], 24), (wS.heap.size, #[.int .i64 p, .int .i64 u, .slice av m cv], 24)]) (by omega) (by (try simp) <;> omega) (fun x hx => by simp only [List.mem_cons, List.not_mem_nil, or_false] at hx; rcases hx with rfl | rfl <;> (refine ⟨?_, ?_⟩ <;> (try simp) <;> (try omega)))
              have f1_0 := hs36.freeAt 1 rfl 0
              have f1_1 := hs36.freeAt 1 rfl 1
              have f1_2 := hs36.freeAt 1 rfl 2
              have HC9 := Lib.hid (fun j hj => cell_put (b' := wS.heap.size) (o' := 2) (u := .slice a8 (m + 1) c8) (HC8.out j hj) (by omega))
              have HAV := HA8
              clear HA8
              go_upto_region 10 with fail
              have hs37 := hs36.set (p := [_]) (by simp <;> omega) 2 (.slice a8 (m + 1) c8)
              have HAV_38 := Lib.hid (AccP.setCell (b := wS.heap.size) (o := 2) HAV.out (.slice a8 (m + 1) c8) (by intro hA9; (try simp only at hA9); omega))
              clear HAV
              clear k0_0 k0_1 k0_2 k1_0 k1_1 k1_2 k2_0 k2_1 k3_0 k3_1
              have hz_wP : w8.heap.size ≤ ((w8.setCell ⟨wS.heap.size, 2, none⟩ (.slice a8 (m + 1) c8))).heap.size := by simp [World.setCell]
              generalize hgen_wP : (w8.setCell ⟨wS.heap.size, 2, none⟩ (.slice a8 (m + 1) c8)) = wP at *
              clear hgen_wP
              have k0_0 := hs37.cellAt 0 rfl 0 rfl
              have k0_1 := hs37.cellAt 0 rfl 1 rfl
              have k0_2 := hs37.cellAt 0 rfl 2 rfl
              have k1_0 := hs37.cellAt 1 rfl 0 rfl
              have k1_1 := hs37.cellAt 1 rfl 1 rfl
              have k1_2 := hs37.cellAt 1 rfl 2 rfl
              go_wp2_with fail
              go_roundw
              case rel => exact ⟨k + 1, m + 1, a8, c8, es ++ [(el, er)], by have := HKM.out; omega, hlt, by rw [List.length_append, HLK.out]; rfl, by go_num, HTK.out, hs37, HC9.out, AccP.wk HAV_38.out (fun z hz => ⟨hz.1, by have := hz.2; omega⟩)⟩
              case measure => have := HKM.out; simp [intOf]; omega
          · obtain rfl : m = M.length := by omega
            obtain rfl : k = LT.length := by omega
            have HES := Lib.hid (show eqnsS M = some es from by have h := hes.out; rwa [List.take_length] at h)
            have HQ7 := Lib.hid (HQ6.out es)
            have HLK := Lib.hid hel
            clear hcb hes HQ6 HR2 HN2 hkm hel
            cases B1 with
            | false =>
              have H1 := Lib.hid (HQ3.out (HP0.out rfl))
              clear HP1 HP0 HU1 HU0 HQ3 HQ4 HES HQ7
              have g0 := (hst.out.freeAt 0 rfl 0)
              have g1 := (hst.out.freeAt 0 rfl 1)
              have g2 := (hst.out.freeAt 0 rfl 2)
              have hs9 := (((hst.out.set (p := []) (by simp <;> omega) 0 (.int .i64 0)).set (p := []) (by simp <;> omega) 1 (.int .i64 0)).set (p := []) (by simp <;> omega) 2 (.slice none 0 0))
              have HB9 := Lib.hid hs9.bel
              have y0 := hs9.cellAt 0 rfl 0 rfl
              have y1 := hs9.cellAt 0 rfl 1 rfl
              have y2 := hs9.cellAt 0 rfl 2 rfl
              clear hs9
              go_wp2_with fail
              refine bodyPost_ret (v := .tuple #[.agg #[.int .i64 0, .int .i64 0, .slice none 0 0], .int .i64 5]) (by simp [results, Tryd.results5, go_sem, y0, y1, y2]) rfl ⟨_, _, _, by rw [H1.out], ?_, HB9.out⟩
              rw [H1.out]; exact fresh_sys0
            | true =>
              cases B2 with
              | false =>
                have H1 := Lib.hid (HQ4.out (HU0.out rfl))
                clear HP1 HP0 HU1 HU0 HQ3 HQ4 HES HQ7
                have g0 := (hst.out.freeAt 0 rfl 0)
                have g1 := (hst.out.freeAt 0 rfl 1)
                have g2 := (hst.out.freeAt 0 rfl 2)
                have hs9 := (((hst.out.set (p := []) (by simp <;> omega) 0 (.int .i64 0)).set (p := []) (by simp <;> omega) 1 (.int .i64 0)).set (p := []) (by simp <;> omega) 2 (.slice none 0 0))
                have HB9 := Lib.hid hs9.bel
                have y0 := hs9.cellAt 0 rfl 0 rfl
                have y1 := hs9.cellAt 0 rfl 1 rfl
                have y2 := hs9.cellAt 0 rfl 2 rfl
                clear hs9
                go_wp2_with fail
                refine bodyPost_ret (v := .tuple #[.agg #[.int .i64 0, .int .i64 0, .slice none 0 0], .int .i64 5]) (by simp [results, Tryd.results5, go_sem, y0, y1, y2]) rfl ⟨_, _, _, by rw [H1.out], ?_, HB9.out⟩
                rw [H1.out]; exact fresh_sys0
              | true =>
                have HQ8 := Lib.hid (HQ7.out p u HES.out (HP1.out rfl) (HU1.out rfl))
                clear HP1 HP0 HU1 HU0 HQ3 HQ4 HES HQ7
                have HL := Lib.hid (show Rd wr [.slice av M.length cv] es from HAV.out.rd)
                have HX := Lib.hid (show Rd wr [.int .i64 p, .int .i64 u, .slice av M.length cv] ((p, u, es) : Sys) from mk_cons (mk_rdint hIp) (mk_cons (mk_rdint hIu) HAV.out.rd))
                have HFA := Lib.hid (show Fresh (wS.heap.size + 1) wr [.slice av M.length cv] es from HAV.out.ip.fresh (fun k hk => hk.1))
                clear HAV
                go_wp2_with fail
                refine (l07Ok_c (p, u, es) _ _ _ _ _ HX.out (hst.out.cellAt 1 rfl 0 rfl) (hst.out.cellAt 1 rfl 1 rfl) (hst.out.cellAt 1 rfl 2 rfl)).mono ?_
                rintro e w39 ⟨rfl, nw39, rfl⟩
                have hs40 := hst.out.drewN nw39
                have HL_41 := Lib.hid (Rd.mono HL.out (drewN_below _ nw39))
                clear HL
                have HX_42 := Lib.hid (Rd.mono HX.out (drewN_below _ nw39))
                clear HX
                have HFA_43 := Lib.hid (Fresh.mono HFA.out (drewN_below _ nw39))
                clear HFA
                clear k0_0 k0_1 k0_2 k1_0 k1_1 k1_2
                have k0_0 := hs40.cellAt 0 rfl 0 rfl
                have k0_1 := hs40.cellAt 0 rfl 1 rfl
                have k0_2 := hs40.cellAt 0 rfl 2 rfl
                have k1_0 := hs40.cellAt 1 rfl 0 rfl
                have k1_1 := hs40.cellAt 1 rfl 1 rfl
                have k1_2 := hs40.cellAt 1 rfl 2 rfl
                cases hok : validS (p, u, es) with
                | false =>
                  have H1 := Lib.hid (show readS t = ((0, 0, []), 5) by rw [HQ8.out, if_neg (fun h => by rw [hok] at h; cases h.1)])
                  clear hok HQ8
                  have g0 := (hs40.freeAt 0 rfl 0)
                  have g1 := (hs40.freeAt 0 rfl 1)
                  have g2 := (hs40.freeAt 0 rfl 2)
                  have hs9 := (((hs40.set (p := []) (by simp <;> omega) 0 (.int .i64 0)).set (p := []) (by simp <;> omega) 1 (.int .i64 0)).set (p := []) (by simp <;> omega) 2 (.slice none 0 0))
                  have HB9 := Lib.hid hs9.bel
                  have y0 := hs9.cellAt 0 rfl 0 rfl
                  have y1 := hs9.cellAt 0 rfl 1 rfl
                  have y2 := hs9.cellAt 0 rfl 2 rfl
                  clear hs9
                  go_wp2_with fail
                  refine bodyPost_ret (v := .tuple #[.agg #[.int .i64 0, .int .i64 0, .slice none 0 0], .int .i64 5]) (by simp [results, Tryd.results5, go_sem, y0, y1, y2]) rfl ⟨_, _, _, by rw [H1.out], ?_, HB9.out⟩
                  rw [H1.out]; exact fresh_sys0
                | true =>
                  have hu := (validS_get hok).2.1
                  obtain ⟨U, rfl⟩ : ∃ U : Nat, u = U := ⟨u.toNat, by omega⟩
                  have HK := Lib.hid hok
                  obtain ⟨TB, hTB⟩ : ∃ TB, TB = textB (p, (U : Int), es) := ⟨_, rfl⟩
                  have HQ9 := Lib.hid (show readS t = if TB = t then ((p, (U : Int), es), 0) else ((0, 0, []), 5) by rw [HQ8.out, ← hTB]; by_cases hT : TB = t <;> simp only [hT, hok, and_self, and_true, and_false, true_and, if_true, if_false])
                  have HTX := Lib.hid (show ∀ W : World, Rd W [.slice av M.length cv] es → W.cell? ⟨wS.heap.size, 0, none⟩ = some (.int .i64 p) → W.cell? ⟨wS.heap.size, 1, none⟩ = some (.int .i64 U) → W.cell? ⟨wS.heap.size, 2, none⟩ = some (.slice av M.length cv) →
                    Calls Tryd.prog 19 #[.pointer (some ⟨wS.heap.size, 0, none⟩)] W fun e w' => e = .returned (.string ⟨TB.toArray⟩) ∧ Below W.heap.size W w' from fun W h0 h1 h2 h3 => by
                    rw [← HLK.out] at h0 h3
                    rw [hTB]
                    exact l07Text_c p U es _ av cv W h0 h1 h2 h3 HK.out)
                  clear hok HQ8 hTB
                  go_wp2_with fail
                  refine (HTX.out _ HL_41.out (hs40.cellAt 1 rfl 0 rfl) (hs40.cellAt 1 rfl 1 rfl) (hs40.cellAt 1 rfl 2 rfl)).mono ?_
                  rintro e w44 ⟨rfl, hbw44⟩
                  have hz_w44 : wr.heap.size ≤ w44.heap.size := by have h9 := hbw44.size; (try simp at h9); omega
                  have hs45 := hs40.step hbw44
                  have HL_46 := Lib.hid (Rd.mono HL_41.out hbw44)
                  clear HL_41
                  have HX_47 := Lib.hid (Rd.mono HX_42.out hbw44)
                  clear HX_42
                  have HFA_48 := Lib.hid (Fresh.mono HFA_43.out hbw44)
                  clear HFA_43
                  clear k0_0 k0_1 k0_2 k1_0 k1_1 k1_2
                  have k0_0 := hs45.cellAt 0 rfl 0 rfl
                  have k0_1 := hs45.cellAt 0 rfl 1 rfl
                  have k0_2 := hs45.cellAt 0 rfl 2 rfl
                  have k1_0 := hs45.cellAt 1 rfl 0 rfl
                  have k1_1 := hs45.cellAt 1 rfl 1 rfl
                  have k1_2 := hs45.cellAt 1 rfl 2 rfl
                  clear HTX
                  by_cases hT : TB = t
                  · have H1 := Lib.hid (show readS t = ((p, (U : Int), es), 0) by rw [HQ9.out, if_pos hT])
                    have hb7 : (TB == t) = true := by simp [hT]
                    clear hT HQ9
                    have g0 := (hs45.freeAt 0 rfl 0)
                    have g1 := (hs45.freeAt 0 rfl 1)
                    have g2 := (hs45.freeAt 0 rfl 2)
                    have hs9 := (((hs45.set (p := []) (by simp <;> omega) 0 (.int .i64 p)).set (p := []) (by simp <;> omega) 1 (.int .i64 U)).set (p := []) (by simp <;> omega) 2 (.slice av M.length cv))
                    have HF9 := Lib.hid (show Fresh w.heap.size (((w44.setCell ⟨w.heap.size, 0, none⟩ (.int .i64 p)).setCell ⟨w.heap.size, 1, none⟩ (.int .i64 U)).setCell ⟨w.heap.size, 2, none⟩ (.slice av M.length cv)) [.int .i64 p, .int .i64 U, .slice av M.length cv] ((p, (U : Int), es) : Sys) from
                      fresh_sys hIp hIu ((((HFA_48.out.setCell (a := ⟨w.heap.size, 0, none⟩) (by simp <;> omega) (.int .i64 p)).setCell (a := ⟨w.heap.size, 1, none⟩) (by simp <;> omega) (.int .i64 U)).setCell (a := ⟨w.heap.size, 2, none⟩) (by simp <;> omega) (.slice av M.length cv)).lower (by omega)))
                    have HB9 := Lib.hid hs9.bel
                    have y0 := hs9.cellAt 0 rfl 0 rfl
                    have y1 := hs9.cellAt 0 rfl 1 rfl
                    have y2 := hs9.cellAt 0 rfl 2 rfl
                    clear hs9
                    go_wp2_with fail
                    refine bodyPost_ret (v := .tuple #[.agg #[.int .i64 p, .int .i64 U, .slice av M.length cv], .int .i64 0]) (by simp [results, Tryd.results5, go_sem, y0, y1, y2]) rfl ⟨_, _, _, by rw [H1.out], ?_, HB9.out⟩
                    rw [H1.out]; exact HF9.out
                  · have hb7 : (TB == t) = false := by simp [hT]
                    have H1 := Lib.hid (show readS t = ((0, 0, []), 5) by rw [HQ9.out, if_neg hT])
                    clear hT HQ9
                    have g0 := (hs45.freeAt 0 rfl 0)
                    have g1 := (hs45.freeAt 0 rfl 1)
                    have g2 := (hs45.freeAt 0 rfl 2)
                    have hs9 := (((hs45.set (p := []) (by simp <;> omega) 0 (.int .i64 0)).set (p := []) (by simp <;> omega) 1 (.int .i64 0)).set (p := []) (by simp <;> omega) 2 (.slice none 0 0))
                    have HB9 := Lib.hid hs9.bel
                    have y0 := hs9.cellAt 0 rfl 0 rfl
                    have y1 := hs9.cellAt 0 rfl 1 rfl
                    have y2 := hs9.cellAt 0 rfl 2 rfl
                    clear hs9
                    go_wp2_with fail
                    refine bodyPost_ret (v := .tuple #[.agg #[.int .i64 0, .int .i64 0, .slice none 0 0], .int .i64 5]) (by simp [results, Tryd.results5, go_sem, y0, y1, y2]) rfl ⟨_, _, _, by rw [H1.out], ?_, HB9.out⟩
                    rw [H1.out]; exact fresh_sys0
      · have hb8 : (LZ == []) = false := by simp [h5]
        have hb9 : LZ.isEmpty = false := by simp [h5]
        have H1 := Lib.hid (HQ1.out (fun h => h5 h.2))
        clear HML1 HQ1 HQ3 HQ4 HQ5 HCB h4 h5
        have g0 := (hs5.freeAt 0 rfl 0)
        have g1 := (hs5.freeAt 0 rfl 1)
        have g2 := (hs5.freeAt 0 rfl 2)
        have hs9 := (((hs5.set (p := []) (by simp <;> omega) 0 (.int .i64 0)).set (p := []) (by simp <;> omega) 1 (.int .i64 0)).set (p := []) (by simp <;> omega) 2 (.slice none 0 0))
        have HB9 := Lib.hid hs9.bel
        have y0 := hs9.cellAt 0 rfl 0 rfl
        have y1 := hs9.cellAt 0 rfl 1 rfl
        have y2 := hs9.cellAt 0 rfl 2 rfl
        clear hs9
        go_wp2_with fail
        refine bodyPost_ret (v := .tuple #[.agg #[.int .i64 0, .int .i64 0, .slice none 0 0], .int .i64 5]) (by simp [results, Tryd.results5, go_sem, y0, y1, y2]) rfl ⟨_, _, _, by rw [H1.out], ?_, HB9.out⟩
        rw [H1.out]; exact fresh_sys0
    · have gq : (x0 == [115, 121, 115, 116, 101, 109]) = false := by simp [h4]
      have H1 := Lib.hid (HQ1.out (fun h => h4 h.1))
      clear HML1 HQ1 HQ3 HQ4 HQ5 HCB h4
      have g0 := (hs5.freeAt 0 rfl 0)
      have g1 := (hs5.freeAt 0 rfl 1)
      have g2 := (hs5.freeAt 0 rfl 2)
      have hs9 := (((hs5.set (p := []) (by simp <;> omega) 0 (.int .i64 0)).set (p := []) (by simp <;> omega) 1 (.int .i64 0)).set (p := []) (by simp <;> omega) 2 (.slice none 0 0))
      have HB9 := Lib.hid hs9.bel
      have y0 := hs9.cellAt 0 rfl 0 rfl
      have y1 := hs9.cellAt 0 rfl 1 rfl
      have y2 := hs9.cellAt 0 rfl 2 rfl
      clear hs9
      go_wp2_with fail
      refine bodyPost_ret (v := .tuple #[.agg #[.int .i64 0, .int .i64 0, .slice none 0 0], .int .i64 5]) (by simp [results, Tryd.results5, go_sem, y0, y1, y2]) rfl ⟨_, _, _, by rw [H1.out], ?_, HB9.out⟩
      rw [H1.out]; exact fresh_sys0
  · have hb : ((HD.length : Int) != 3) = true := by rw [bne_iff_ne]; omega
    have H1 := Lib.hid (HR1.out (fun h => h3 h.1))
    clear HML HR1 HR2 HR3 HR4 HR5 HCB h3
    have g0 := (hs5.freeAt 0 rfl 0)
    have g1 := (hs5.freeAt 0 rfl 1)
    have g2 := (hs5.freeAt 0 rfl 2)
    have hs9 := (((hs5.set (p := []) (by simp <;> omega) 0 (.int .i64 0)).set (p := []) (by simp <;> omega) 1 (.int .i64 0)).set (p := []) (by simp <;> omega) 2 (.slice none 0 0))
    have HB9 := Lib.hid hs9.bel
    have y0 := hs9.cellAt 0 rfl 0 rfl
    have y1 := hs9.cellAt 0 rfl 1 rfl
    have y2 := hs9.cellAt 0 rfl 2 rfl
    clear hs9
    go_wp2_with fail
    refine bodyPost_ret (v := .tuple #[.agg #[.int .i64 0, .int .i64 0, .slice none 0 0], .int .i64 5]) (by simp [results, Tryd.results5, go_sem, y0, y1, y2]) rfl ⟨_, _, _, by rw [H1.out], ?_, HB9.out⟩
    rw [H1.out]; exact fresh_sys0

end Go.Proofs.YtjnkkjgkinmhkaaDoor
