/-
  CONTRACTS: ReadInstance; the reference's side.
-/
import Derived.Test.YtjnkkjgkinmhkaaDoorReadT
import Derived.Test.YtjnkkjgkinmhkaaDoorReadIV
import Derived.Test.YtjnkkjgkinmhkaaDoorTmplB
namespace Go.Proofs.YtjnkkjgkinmhkaaDoor
open Go.RowKit Go.Shelf Go.IntWalk
open Rep (Rd Own sz)
set_option linter.unusedSimpArgs false
set_option linter.unusedVariables false

theorem numsS_none : ∀ {l : List (List UInt8)} {x : List UInt8}, x ∈ l → numS x = none → numsS l = none
  | y :: ys, x, hm, h => by
    rcases List.mem_cons.1 hm with rfl | hm
    · unfold numsS; rw [h]
    · unfold numsS; rw [numsS_none hm h]; cases numS y <;> rfl
theorem numsS_snoc : ∀ {l : List (List UInt8)} {es : List Int} {x : List UInt8} {e : Int}, numsS l = some es → numS x = some e → numsS (l ++ [x]) = some (es ++ [e])
  | [], es, x, e, h, hx => by
    unfold numsS at h
    simp only [Option.some.injEq] at h
    subst h
    simp only [List.nil_append, numsS, hx]
  | y :: ys, es, x, e, h, hx => by
    unfold numsS at h
    cases hy : numS y with
    | none => rw [hy] at h; cases h
    | some ye =>
      rw [hy] at h
      cases hz : numsS ys with
      | none => rw [hz] at h; cases h
      | some ze =>
        rw [hz] at h
        simp only [Option.some.injEq] at h
        subst h
        have h2 := numsS_snoc hz hx
        rw [List.cons_append]
        unfold numsS
        rw [hy, h2]
        rfl
theorem consS_none : ∀ {l : List (List UInt8)} {x : List UInt8}, x ∈ l → conS x = none → consS l = none
  | y :: ys, x, hm, h => by
    rcases List.mem_cons.1 hm with rfl | hm
    · unfold consS; rw [h]
    · unfold consS; rw [consS_none hm h]; cases conS y <;> rfl
theorem consS_snoc : ∀ {l : List (List UInt8)} {es : List OpT} {x : List UInt8} {e : OpT}, consS l = some es → conS x = some e → consS (l ++ [x]) = some (es ++ [e])
  | [], es, x, e, h, hx => by
    unfold consS at h
    simp only [Option.some.injEq] at h
    subst h
    simp only [List.nil_append, consS, hx]
  | y :: ys, es, x, e, h, hx => by
    unfold consS at h
    cases hy : conS y with
    | none => rw [hy] at h; cases h
    | some ye =>
      rw [hy] at h
      cases hz : consS ys with
      | none => rw [hz] at h; cases h
      | some ze =>
        rw [hz] at h
        simp only [Option.some.injEq] at h
        subst h
        have h2 := consS_snoc hz hx
        rw [List.cons_append]
        unfold consS
        rw [hy, h2]
        rfl
theorem rdS_at {t L0 : List UInt8} {LT HD : List (List UInt8)} (hb : ¬ 20000 < t.length) (hLS : splitC 10 t = L0 :: LT) (hHD : splitC 32 L0 = HD) :
    (¬ (HD.length = 2 ∧ HD.getD 0 [] = insW ∧ (L0 :: LT).length ≤ 26 ∧ (L0 :: LT).getLastD [] = []) → rdS t = ((0, []), 5)) ∧
    (consS LT.dropLast = none → rdS t = ((0, []), 5)) ∧ (numS (HD.getD 1 []) = none → rdS t = ((0, []), 5)) ∧
    (HD.length = 2 → HD.getD 0 [] = insW → (L0 :: LT).length ≤ 26 → (L0 :: LT).getLastD [] = [] → ∀ cs n, consS LT.dropLast = some cs → numS (HD.getD 1 []) = some n →
      rdS t = if shownI (n, cs) = true then ((n, cs), 0) else ((0, []), 5)) := by
  have e1 : instS t = if HD.length = 2 ∧ HD.getD 0 [] = insW ∧ (L0 :: LT).length ≤ 26 ∧ (L0 :: LT).getLastD [] = [] then (match numS (HD.getD 1 []), consS LT.dropLast with
      | some n, some cs => some (n, cs)
      | _, _ => none) else none := by
    unfold instS
    rw [hLS]
    simp only [List.headD_cons, List.tail_cons, hHD]
    rfl
  have hbad : instS t = none → rdS t = ((0, []), 5) := fun h => by unfold rdS; rw [if_neg hb, h]
  refine ⟨fun h => hbad (by rw [e1, if_neg h]), fun h => hbad ?_, fun h => hbad ?_, fun h1 h2 h3 h4 cs n hc hn => ?_⟩
  · rw [e1, h]
    cases numS (HD.getD 1 []) <;> (split <;> rfl)
  · rw [e1, h]
    cases consS LT.dropLast <;> (split <;> rfl)
  · unfold rdS
    rw [if_neg hb, e1, if_pos ⟨h1, h2, h3, h4⟩, hc, hn]
set_option maxRecDepth 100000 in
set_option maxHeartbeats 4000000 in
theorem l05Shown_c (x : Inst) (xb : Nat) (x0 x1 : Value) (w : World) (hx : Rd w [x0, x1] x) (cx0 : w.cell? ⟨xb, 0, none⟩ = some x0) (cx1 : w.cell? ⟨xb, 1, none⟩ = some x1) :
    Calls Tryd.prog 30 #[.pointer (some ⟨xb, 0, none⟩)] w fun e w' => e = .returned (.bool (shownI x)) ∧ Below w.heap.size w w' := by
  obtain ⟨vars, l⟩ := x
  have zx := rd_cons rfl hx
  obtain ⟨rfl, _⟩ := rd_i1 zx.1
  have HL := Lib.hid zx.2
  obtain ⟨a, c, rfl, hrl⟩ := rd_list zx.2
  have hb0 := (rdSl_len hrl).2
  unfold maxLen at hb0
  have HLR := Lib.hid hrl
  clear hx zx hrl
  have cx0_ := cellL (St.start w).bel cx0
  clear cx0_
  have cx0_ := cellL (St.start w).bel cx0
  have cx1_ := cellL (St.start w).bel cx1
  go_enter Tryd.func30, Tryd.ntmps30
  go_wp2_with fail
  refine (l00In_c vars 1 10 _).mono ?_
  rintro e w1 ⟨rfl, rfl, rfl⟩
  cases h2 : inB vars 1 10 with
  | false =>
    have H2 := Lib.hid (show shownI (vars, l) = false by unfold shownI; simp only [h2, Bool.and_false, Bool.false_and])
    clear h2
    go_wp2_with fail
    go_ret
    exact ⟨ret_bool H2.out.symm, (St.start w).bel⟩
  | true =>
    have H2 := Lib.hid h2
    have hv := inB_true h2
    clear h2
    by_cases hl : l.length ≤ 24
    · have H3 := Lib.hid (show shownI (vars, l) = l.all (conSh vars) by unfold shownI; simp only [H2.out, decide_eq_true hl, Bool.true_and])
      go_wp2_with fail
      go_loopw [3] (fun i wl => ∃ k : Nat, k ≤ l.length ∧ i = .int .i64 k ∧ Hid (Below (w).heap.size (w) wl) ∧ Hid (∀ j (hj : j < l.length), j < k → conSh vars l[j] = true)) (fun i _ => l.length - (intOf i).toNat)
      case atStart => exact ⟨0, Nat.zero_le _, rfl, Below.refl _ _, fun j _ hj => absurd hj (Nat.not_lt_zero _)⟩
      case round =>
        obtain ⟨k, hk, rfl, hbl, hr⟩ := hrel
        have hbl2 := hbl.out
        have hz_wr : w.heap.size ≤ wr.heap.size := by have h9 := hbl2.size; (try simp at h9); omega
        have hs2 := (St.start w).step hbl2
        clear cx0_ cx1_
        have cx0_ := cellL hs2.bel cx0
        have cx1_ := cellL hs2.bel cx1
        have HBL := Lib.hid hbl2
        clear hbl2 hbl
        by_cases hlt : k < l.length
        · obtain ⟨b, o, u0, u1, rfl, q0, q1, hy⟩ := rdSl_two rfl HLR.out k hlt
          have hyz := rd_cons rfl hy
          obtain ⟨rfl, hIc⟩ := rd_i1 hyz.1
          have HSC := Lib.hid hyz.2
          obtain ⟨a2, c2, rfl, hr2⟩ := rd_list hyz.2
          have hb2 := (rdSl_len hr2).2
          unfold maxLen at hb2
          clear hy hyz hr2
          have HK := Lib.hid (show ∀ B, conSh vars l[k] = B → (B = false → shownI (vars, l) = false) by
            intro B e hB
            rw [H3.out]
            exact List.all_eq_false.2 ⟨_, List.getElem_mem hlt, by rw [e, hB]; decide⟩)
          have hkl : (k : Int) < l.length := by omega
          generalize hlk : l[k] = LK at *
          obtain ⟨ci, sc⟩ := LK
          simp only at *
          have HLK := Lib.hid hlk
          clear hlk
          clear cx0_ cx1_
          have cx0_ := cellL hs2.bel cx0
          have cx1_ := cellL hs2.bel cx1
          have q0_ := cellL hs2.bel q0
          clear cx0_ cx1_ q0_
          have cx0_ := cellL hs2.bel cx0
          have cx1_ := cellL hs2.bel cx1
          have q0_ := cellL hs2.bel q0
          have q1_ := cellL hs2.bel q1
          clear cx0_ cx1_ q0_ q1_
          have cx0_ := cellL hs2.bel cx0
          have cx1_ := cellL hs2.bel cx1
          have q0_ := cellL hs2.bel q0
          have q1_ := cellL hs2.bel q1
          cases h1 : inB ci 0 5 with
          | false =>
            have HF := Lib.hid (HK.out false (conSh_rel h1) rfl)
            go_upto_region 7 with fail
            refine wp_region_noPanic (wp_region_tree4 (fun w' => w'.cell? ⟨xb, 0, none⟩ = some (.int .i64 vars) ∧ w'.cell? ⟨xb, 1, none⟩ = some (.slice (some ⟨b, o, none⟩) l.length c) ∧ w'.cell? ⟨b, o + k * 2, none⟩ = some (.int .i64 ci) ∧ w'.cell? ⟨b, o + k * 2 + 1, none⟩ = some (.slice a2 sc.length c2)) (.float 0 (.float 1 (.float 2 (.float 3 (.hard 4 (.float 5 (.float 6 (.float 7 (.float 8 (.float 9 (.float 10 (.float 11 (.hard 12 (.float 13 (.float 14 (.float 15 (.float 16 (.float 17 (.float 18 (.float 19 (.float 20 (.float 21 (.float 22 (.float 23 (.hard 24 (.float 25 (.float 26 .nil))))))))))))))))))))))))))) (by kernel_rfl) (by kernel_rfl) (by kernel_rfl) rfl ?_ (fun _ _ _ _ _ h => h) ?_)
            · exact ⟨cellL (hs2.drew).bel cx0, cellL (hs2.drew).bel cx1, cellL (hs2.drew).bel q0, cellL (hs2.drew).bel q1⟩
            have hs3 := hs2.drew
            have HBL_4 := Lib.hid (HBL.out.trans (((belowD _)).mono HBL.out.size))
            clear HBL
            clear cx0_ cx1_ q0_ q1_
            have hz_wd5 : wr.heap.size ≤ (wr.drew).heap.size := by simp
            generalize hgen_wd5 : wr.drew = wd5 at *
            have HG_wd5 := Lib.hid hgen_wd5
            clear hgen_wd5
            (repeat (first | (apply t4_skip rfl (by rfl); try simp only [Act.put, List.setIfInBounds_toArray, List.set_cons_zero, List.set_cons_succ]) | (apply t4_float rfl (by rfl); (· (intro w' hS; go_simp <;> with_reducible rfl)); (try simp only [Act.put, List.setIfInBounds_toArray, List.set_cons_zero, List.set_cons_succ]))))
            refine t4_hard rfl (by rfl) (fun K hK => ?_)
            go_wp2_with (go_at_call 38; refine (l00In_c ci 0 5 _).mono ?_; rintro e w6 ⟨rfl, rfl, rfl⟩)
            refine ⟨⟨cellL hs3.bel cx0, cellL hs3.bel cx1, cellL hs3.bel q0, cellL hs3.bel q1⟩, ?_⟩
            (repeat (first | (apply t4_skip rfl (by rfl); try simp only [Act.put, List.setIfInBounds_toArray, List.set_cons_zero, List.set_cons_succ]) | (apply t4_float rfl (by rfl); (· (intro w' hS; go_simp <;> with_reducible rfl)); (try simp only [Act.put, List.setIfInBounds_toArray, List.set_cons_zero, List.set_cons_succ]))))
            refine t4_hskip rfl (by rfl) ?_ ?_
            · exact ⟨cellL hs3.bel cx0, cellL hs3.bel cx1, cellL hs3.bel q0, cellL hs3.bel q1⟩
            (try simp only [Act.put, List.setIfInBounds_toArray, List.set_cons_zero, List.set_cons_succ])
            (repeat (first | (apply t4_skip rfl (by rfl); try simp only [Act.put, List.setIfInBounds_toArray, List.set_cons_zero, List.set_cons_succ]) | (apply t4_float rfl (by rfl); (· (intro w' hS; go_simp <;> with_reducible rfl)); (try simp only [Act.put, List.setIfInBounds_toArray, List.set_cons_zero, List.set_cons_succ]))))
            refine t4_hskip rfl (by rfl) ?_ ?_
            · exact ⟨cellL hs3.bel cx0, cellL hs3.bel cx1, cellL hs3.bel q0, cellL hs3.bel q1⟩
            (try simp only [Act.put, List.setIfInBounds_toArray, List.set_cons_zero, List.set_cons_succ])
            (repeat (first | (apply t4_skip rfl (by rfl); try simp only [Act.put, List.setIfInBounds_toArray, List.set_cons_zero, List.set_cons_succ]) | (apply t4_float rfl (by rfl); (· (intro w' hS; go_simp <;> with_reducible rfl)); (try simp only [Act.put, List.setIfInBounds_toArray, List.set_cons_zero, List.set_cons_succ]))))
            have cx0_ := cellL hs3.bel cx0
            have cx1_ := cellL hs3.bel cx1
            have q0_ := cellL hs3.bel q0
            have q1_ := cellL hs3.bel q1
            refine t4_nil (NoPanic.normal ?_)
            go_wp2_with fail
            go_ret
            exact ⟨ret_bool HF.out.symm, hs3.bel⟩
          | true =>
            have H1 := Lib.hid h1
            cases h3 : inB sc.length 1 4 with
            | false =>
              have HF := Lib.hid (HK.out false (conSh_ar H1.out h3) rfl)
              go_upto_region 7 with fail
              refine wp_region_noPanic (wp_region_tree4 (fun w' => w'.cell? ⟨xb, 0, none⟩ = some (.int .i64 vars) ∧ w'.cell? ⟨xb, 1, none⟩ = some (.slice (some ⟨b, o, none⟩) l.length c) ∧ w'.cell? ⟨b, o + k * 2, none⟩ = some (.int .i64 ci) ∧ w'.cell? ⟨b, o + k * 2 + 1, none⟩ = some (.slice a2 sc.length c2)) (.float 0 (.float 1 (.float 2 (.float 3 (.hard 4 (.float 5 (.float 6 (.float 7 (.float 8 (.float 9 (.float 10 (.float 11 (.hard 12 (.float 13 (.float 14 (.float 15 (.float 16 (.float 17 (.float 18 (.float 19 (.float 20 (.float 21 (.float 22 (.float 23 (.hard 24 (.float 25 (.float 26 .nil))))))))))))))))))))))))))) (by kernel_rfl) (by kernel_rfl) (by kernel_rfl) rfl ?_ (fun _ _ _ _ _ h => h) ?_)
              · exact ⟨cellL (hs2.drew).bel cx0, cellL (hs2.drew).bel cx1, cellL (hs2.drew).bel q0, cellL (hs2.drew).bel q1⟩
              have hs7 := hs2.drew
              have HBL_8 := Lib.hid (HBL.out.trans (((belowD _)).mono HBL.out.size))
              clear HBL
              clear cx0_ cx1_ q0_ q1_
              have hz_wd9 : wr.heap.size ≤ (wr.drew).heap.size := by simp
              generalize hgen_wd9 : wr.drew = wd9 at *
              have HG_wd9 := Lib.hid hgen_wd9
              clear hgen_wd9
              (repeat (first | (apply t4_skip rfl (by rfl); try simp only [Act.put, List.setIfInBounds_toArray, List.set_cons_zero, List.set_cons_succ]) | (apply t4_float rfl (by rfl); (· (intro w' hS; go_simp <;> with_reducible rfl)); (try simp only [Act.put, List.setIfInBounds_toArray, List.set_cons_zero, List.set_cons_succ]))))
              refine t4_hard rfl (by rfl) (fun K hK => ?_)
              go_wp2_with (go_at_call 38; refine (l00In_c ci 0 5 _).mono ?_; rintro e w10 ⟨rfl, rfl, rfl⟩)
              refine ⟨⟨cellL hs7.bel cx0, cellL hs7.bel cx1, cellL hs7.bel q0, cellL hs7.bel q1⟩, ?_⟩
              (repeat (first | (apply t4_skip rfl (by rfl); try simp only [Act.put, List.setIfInBounds_toArray, List.set_cons_zero, List.set_cons_succ]) | (apply t4_float rfl (by rfl); (· (intro w' hS; go_simp <;> with_reducible rfl)); (try simp only [Act.put, List.setIfInBounds_toArray, List.set_cons_zero, List.set_cons_succ]))))
              refine t4_hard rfl (by rfl) (fun K hK => ?_)
              go_wp2_with (go_at_call 51; refine (l01Arity_c sc.length _).mono ?_; rintro e w11 ⟨rfl, rfl, rfl⟩)
              refine ⟨⟨cellL hs7.bel cx0, cellL hs7.bel cx1, cellL hs7.bel q0, cellL hs7.bel q1⟩, ?_⟩
              (repeat (first | (apply t4_skip rfl (by rfl); try simp only [Act.put, List.setIfInBounds_toArray, List.set_cons_zero, List.set_cons_succ]) | (apply t4_float rfl (by rfl); (· (intro w' hS; go_simp <;> with_reducible rfl)); (try simp only [Act.put, List.setIfInBounds_toArray, List.set_cons_zero, List.set_cons_succ]))))
              refine t4_hskip rfl (by rfl) ?_ ?_
              · exact ⟨cellL hs7.bel cx0, cellL hs7.bel cx1, cellL hs7.bel q0, cellL hs7.bel q1⟩
              (try simp only [Act.put, List.setIfInBounds_toArray, List.set_cons_zero, List.set_cons_succ])
              (repeat (first | (apply t4_skip rfl (by rfl); try simp only [Act.put, List.setIfInBounds_toArray, List.set_cons_zero, List.set_cons_succ]) | (apply t4_float rfl (by rfl); (· (intro w' hS; go_simp <;> with_reducible rfl)); (try simp only [Act.put, List.setIfInBounds_toArray, List.set_cons_zero, List.set_cons_succ]))))
              have cx0_ := cellL hs7.bel cx0
              have cx1_ := cellL hs7.bel cx1
              have q0_ := cellL hs7.bel q0
              have q1_ := cellL hs7.bel q1
              refine t4_nil (NoPanic.normal ?_)
              go_wp2_with fail
              go_ret
              exact ⟨ret_bool HF.out.symm, hs7.bel⟩
            | true =>
              have HV := Lib.hid (show conSh vars (ci, sc) = sc.all (fun a => inB a 0 (vars - 1)) by rw [conSh_vals H1.out h3]; unfold valsOk; simp)
              go_upto_region 7 with fail
              refine wp_region_noPanic (wp_region_tree4 (fun w' => w'.cell? ⟨xb, 0, none⟩ = some (.int .i64 vars) ∧ w'.cell? ⟨xb, 1, none⟩ = some (.slice (some ⟨b, o, none⟩) l.length c) ∧ w'.cell? ⟨b, o + k * 2, none⟩ = some (.int .i64 ci) ∧ w'.cell? ⟨b, o + k * 2 + 1, none⟩ = some (.slice a2 sc.length c2)) (.float 0 (.float 1 (.float 2 (.float 3 (.hard 4 (.float 5 (.float 6 (.float 7 (.float 8 (.float 9 (.float 10 (.float 11 (.hard 12 (.float 13 (.float 14 (.float 15 (.float 16 (.float 17 (.float 18 (.float 19 (.float 20 (.float 21 (.float 22 (.float 23 (.hard 24 (.float 25 (.float 26 .nil))))))))))))))))))))))))))) (by kernel_rfl) (by kernel_rfl) (by kernel_rfl) rfl ?_ (fun _ _ _ _ _ h => h) ?_)
              · exact ⟨cellL (hs2.drew).bel cx0, cellL (hs2.drew).bel cx1, cellL (hs2.drew).bel q0, cellL (hs2.drew).bel q1⟩
              have hs12 := hs2.drew
              have HBL_13 := Lib.hid (HBL.out.trans (((belowD _)).mono HBL.out.size))
              clear HBL
              clear cx0_ cx1_ q0_ q1_
              have hz_wd14 : wr.heap.size ≤ (wr.drew).heap.size := by simp
              generalize hgen_wd14 : wr.drew = wd14 at *
              have HG_wd14 := Lib.hid hgen_wd14
              clear hgen_wd14
              (repeat (first | (apply t4_skip rfl (by rfl); try simp only [Act.put, List.setIfInBounds_toArray, List.set_cons_zero, List.set_cons_succ]) | (apply t4_float rfl (by rfl); (· (intro w' hS; go_simp <;> with_reducible rfl)); (try simp only [Act.put, List.setIfInBounds_toArray, List.set_cons_zero, List.set_cons_succ]))))
              refine t4_hard rfl (by rfl) (fun K hK => ?_)
              go_wp2_with (go_at_call 38; refine (l00In_c ci 0 5 _).mono ?_; rintro e w15 ⟨rfl, rfl, rfl⟩)
              refine ⟨⟨cellL hs12.bel cx0, cellL hs12.bel cx1, cellL hs12.bel q0, cellL hs12.bel q1⟩, ?_⟩
              (repeat (first | (apply t4_skip rfl (by rfl); try simp only [Act.put, List.setIfInBounds_toArray, List.set_cons_zero, List.set_cons_succ]) | (apply t4_float rfl (by rfl); (· (intro w' hS; go_simp <;> with_reducible rfl)); (try simp only [Act.put, List.setIfInBounds_toArray, List.set_cons_zero, List.set_cons_succ]))))
              refine t4_hard rfl (by rfl) (fun K hK => ?_)
              go_wp2_with (go_at_call 51; refine (l01Arity_c sc.length _).mono ?_; rintro e w16 ⟨rfl, rfl, rfl⟩)
              refine ⟨⟨cellL hs12.bel cx0, cellL hs12.bel cx1, cellL hs12.bel q0, cellL hs12.bel q1⟩, ?_⟩
              (repeat (first | (apply t4_skip rfl (by rfl); try simp only [Act.put, List.setIfInBounds_toArray, List.set_cons_zero, List.set_cons_succ]) | (apply t4_float rfl (by rfl); (· (intro w' hS; go_simp <;> with_reducible rfl)); (try simp only [Act.put, List.setIfInBounds_toArray, List.set_cons_zero, List.set_cons_succ]))))
              refine t4_hard rfl (by rfl) (fun K hK => ?_)
              go_wp2_with (go_at_call 52; refine (l01Places_c vars sc _ _ (Rd.mono HSC.out hs12.bel) (by omega) (by omega)).mono ?_; rintro e w17 ⟨rfl, rfl, rfl⟩)
              refine ⟨⟨cellL hs12.bel cx0, cellL hs12.bel cx1, cellL hs12.bel q0, cellL hs12.bel q1⟩, ?_⟩
              (repeat (first | (apply t4_skip rfl (by rfl); try simp only [Act.put, List.setIfInBounds_toArray, List.set_cons_zero, List.set_cons_succ]) | (apply t4_float rfl (by rfl); (· (intro w' hS; go_simp <;> with_reducible rfl)); (try simp only [Act.put, List.setIfInBounds_toArray, List.set_cons_zero, List.set_cons_succ]))))
              have cx0_ := cellL hs12.bel cx0
              have cx1_ := cellL hs12.bel cx1
              have q0_ := cellL hs12.bel q0
              have q1_ := cellL hs12.bel q1
              refine t4_nil (NoPanic.normal ?_)
              cases h6 : sc.all (fun a => inB a 0 (vars - 1)) with
              | false =>
                have HF := Lib.hid (HK.out false (by rw [HV.out, h6]) rfl)
                clear h6
                go_wp2_with fail
                go_ret
                exact ⟨ret_bool HF.out.symm, hs12.bel⟩
              | true =>
                have HT6 := Lib.hid (HV.out.trans h6)
                clear h6
                go_wp2_with fail
                go_roundw
                case rel =>
                  refine ⟨k + 1, by omega, by go_num, HBL_13.out, fun i hi hik => ?_⟩
                  rcases Nat.lt_or_ge i k with h | h
                  · exact hr.out i hi h
                  · obtain rfl : i = k := by omega
                    rw [HLK.out]; exact HT6.out
                case measure => simp [intOf]; omega
        · obtain rfl : k = l.length := by omega
          have HA := Lib.hid (show l.all (conSh vars) = true by
            rw [List.all_eq_true]
            intro y hy
            obtain ⟨j, hj, rfl⟩ := List.getElem_of_mem hy
            exact hr.out j hj hj)
          have hkl : ¬ ((l.length : Int) < l.length) := by omega
          go_wp2_with fail
          go_ret
          exact ⟨ret_bool (by rw [H3.out, HA.out]), hs2.bel⟩
    · have HLL := Lib.hid hl
      go_wp2_with fail
      go_ret
      exact ⟨ret_bool (by simp only [shownI, decide_eq_false HLL.out, Bool.and_false, Bool.false_and]), (St.start w).bel⟩
set_option maxRecDepth 100000 in
set_option maxHeartbeats 4000000 in
theorem l05Numbers_c (L : List (List UInt8)) (v0 : Value) (w : World) (h : Rd w [v0] L) (hl : ∀ x, x ∈ L → x.length ≤ 1048576) (hn : L.length ≤ 1048577) :
    Calls Tryd.prog 29 #[v0, .int .i64 0] w fun e w' => ∃ a n c, e = .returned (.tuple #[.slice a n c, .bool (numsS L).isSome]) ∧ (∀ x, numsS L = some x → Fresh w.heap.size w' [.slice a n c] x) ∧ Below w.heap.size w w' := by
  obtain ⟨a, c, rfl, _⟩ := rd_list h
  have HL := Lib.hid h
  have HB := Lib.hid hl
  clear h hl
  have HS0 := Lib.hid ((St.start w).step (belowA w (.cells #[] 2)))
  have HA0 := Lib.hid ((accP_made (α := Int) w 2))
  go_enter Tryd.func29, Tryd.ntmps29
  go_wp2_with fail
  go_loopw [6, 7] (fun oo iv wl => ∃ (k : Nat) (ao : Option Addr) (co : Nat) (ns : List Int), k ≤ L.length ∧ ns.length = k ∧ oo = .slice ao k co ∧ iv = .int .i64 k ∧ Hid (numsS (L.take k) = some ns) ∧ Hid (St w w.heap.size wl []) ∧
    Hid (AccP (fun z => w.heap.size ≤ z ∧ z < wl.heap.size) 2 wl (.slice ao k co) ns)) (fun _ i _ => L.length - (intOf i).toNat)
  case atStart => exact ⟨0, _, _, [], Nat.zero_le _, rfl, rfl, rfl, rfl, HS0.out, AccP.wk HA0.out (fun z hz => by (try simp at hz ⊢); omega)⟩
  case round =>
    clear HS0 HA0
    obtain ⟨k, ao, co, ns, hk, hnl, rfl, rfl, hns, hst, hac⟩ := hrel
    have hzr : w.heap.size ≤ wr.heap.size := hst.out.hi
    have HAC := hac
    have HLK := Lib.hid hnl
    clear hac hnl
    by_cases hlt : k < L.length
    · have hkI : (k : Int) < L.length := by omega
      obtain ⟨b, o, rfl, q0⟩ := rd_str_at HL.out k hlt
      have q1 := cellL hst.out.bel q0
      clear q0
      have hb := HB.out _ (List.getElem_mem hlt)
      have HXN := Lib.hid (show numS L[k] = none → numsS L = none from fun h => numsS_none (List.getElem_mem hlt) h)
      have HXS := Lib.hid (show ∀ e, numS L[k] = some e → numsS (L.take (k + 1)) = some (ns ++ [e]) from fun e h => by rw [List.take_succ_eq_append_getElem hlt]; exact numsS_snoc hns.out h)
      generalize L[k] = A at *
      obtain ⟨p, B1, HNU1, hIp, HP1, HP0⟩ := number_at A hb
      go_wp2_with fail
      refine (HNU1.out _).mono ?_
      rintro e w18 ⟨rfl, rfl⟩
      cases B1 with
      | false =>
        have H1 := Lib.hid (HXN.out (HP0.out rfl))
        clear HXN HXS HP1 HP0 HNU1
        have HB9 := Lib.hid hst.out.bel
        go_wp2_with fail
        refine bodyPost_ret (v := .tuple #[.slice ao k co, .bool false]) (by simp [results, Tryd.results29, go_sem]) rfl ⟨_, _, _, by rw [H1.out]; rfl, fun x hx => (by rw [H1.out] at hx; cases hx), HB9.out⟩
      | true =>
        have H1 := Lib.hid (HXS.out p (HP1.out rfl))
        clear HXN HXS HP1 HP0 HNU1
        have HS8 := Lib.hid (hst.out.step (belowA wr (.cells #[.int .i64 p] 2)))
        go_wp2_with (at_builtin; refine wpList_append_accP _ rfl _ _ _ rfl E_ints rfl (AccP.mono HAC.out (belowA _ _)) (ip_int1 (C := fun _ => False) hIp) (fun z _ h => h) ⟨wr.heap.size, 0, none⟩ 1 rfl (news1 (cell_at_block (heap_alloc_new _ _))) (by rw [HLK.out]; omega) ?_; simp only [HLK.out]; intro a7 c7 w7 hA7 hB7; refine Hid.out ?_)
        refine Lib.hid ?_
        have hz7 := hB7.size
        (try simp at hz7)
        have HB7 := Lib.hid ((HS8.out.bel).trans ((hB7.below (B := w.heap.size) (fun z hz => hz.1) (by (try simp) <;> omega)).mono (Nat.le_refl _)))
        have HA7 := Lib.hid (AccP.wk hA7.tight (C := fun z => w.heap.size ≤ z ∧ z < w7.heap.size) (fun z hz => ⟨by
          rcases hz.1 with h | h | h
          · exact h.1
          · exact h.elim
          · simp at h; omega, hz.2⟩))
        clear hA7 hB7 q1
        (try go_wp2_with fail)
        go_roundw
        case rel => exact ⟨k + 1, a7, c7, ns ++ [p], hlt, by rw [List.length_append, HLK.out]; rfl, rfl, by go_num, H1.out, (St.start w).stepB HB7.out, HA7.out⟩
        case measure => simp [intOf]; omega
    · obtain rfl : k = L.length := by omega
      have hnl2 : ¬ ((L.length : Int) < L.length) := by omega
      have HN := Lib.hid (show numsS L = some ns from by have h := hns.out; rwa [List.take_length] at h)
      have HF := Lib.hid (HAC.out.ip.fresh (lo := w.heap.size) (fun k hk => hk.1))
      have HB9 := Lib.hid hst.out.bel
      go_wp2_with fail
      refine bodyPost_ret (v := .tuple #[.slice ao L.length co, .bool true]) (by simp [results, Tryd.results29, go_sem]) rfl ⟨_, _, _, by rw [HN.out]; rfl, fun x hx => (by rw [HN.out] at hx; simp only [Option.some.injEq] at hx; subst hx; exact HF.out), HB9.out⟩
theorem conS_of {s : List UInt8} {WS : List (List UInt8)} (h : splitC 32 s = WS) : conS s = match numsS WS with | some (r :: z :: l) => some (r, z :: l) | _ => none := by unfold conS; rw [h]; rfl
theorem numsS_i64 : ∀ {l : List (List UInt8)} {ns : List Int}, numsS l = some ns → ∀ n, n ∈ ns → I64 n
  | [], ns, h, n, hn => by simp only [numsS, Option.some.injEq] at h; subst h; cases hn
  | x :: xs, ns, h, n, hn => by
    rw [numsS] at h
    split at h
    · cases h
    · rename_i m hm
      split at h
      · cases h
      · rename_i ms hms
        simp only [Option.some.injEq] at h
        subst h
        rcases List.mem_cons.1 hn with rfl | hn
        · exact numS_i64 hm
        · exact numsS_i64 hms n hn
set_option maxRecDepth 100000 in
set_option maxHeartbeats 16000000 in
theorem sReadInstance_c (t : List UInt8) (w : World) (hs : t.length ≤ 1048576) :
    Calls Tryd.prog 10 #[.string ⟨t.toArray⟩] w fun e w' => ∃ u0 u1, e = .returned (.tuple #[.agg #[u0, u1], .int .i64 (rdS t).2]) ∧ Fresh w.heap.size w' [u0, u1] (rdS t).1 ∧ Below w.heap.size w w' := by
  have hs19 := (St.start w).alloc #[.int .i64 0, .slice none 0 0] 32 (n := w.heap.size) (by simp)
  have k0_0 := hs19.cellAt 0 rfl 0 rfl
  have k0_1 := hs19.cellAt 0 rfl 1 rfl
  clear k0_0 k0_1
  have k0_0 := hs19.cellAt 0 rfl 0 rfl
  have k0_1 := hs19.cellAt 0 rfl 1 rfl
  have hszt : (⟨t.toArray⟩ : ByteArray).size = t.length := by simp [ByteArray.size]
  by_cases hbig : 20000 < t.length
  · have H1 := Lib.hid (show rdS t = ((0, []), 2) by unfold rdS; rw [if_pos hbig])
    have hbg : (20000 : Int) < t.length := by omega
    go_enter Tryd.func10, Tryd.ntmps10
    have y0 := (hs19.cellAt 0 rfl 0 rfl)
    have y1 := (hs19.cellAt 0 rfl 1 rfl)
    go_wp2_with fail
    refine bodyPost_ret (v := .tuple #[.agg #[.int .i64 0, .slice none 0 0], .int .i64 2]) (by simp [results, Tryd.results10, go_sem, y0, y1]) rfl ⟨_, _, by rw [H1.out], ?_, hs19.bel⟩
    rw [H1.out]; exact fresh_inst0
  have hbg : ¬ ((20000 : Int) < t.length) := by omega
  obtain ⟨L0, LT, hLS⟩ : ∃ x xs, splitC 10 t = x :: xs := by
    have hne := splitC_ne 10 t
    match splitC 10 t, hne with
    | x :: xs, _ => exact ⟨x, xs, rfl⟩
  obtain ⟨HD, hHD⟩ : ∃ HD, HD = splitC 32 L0 := ⟨_, rfl⟩
  obtain ⟨LZ, hLZ⟩ : ∃ LZ, LZ = (L0 :: LT).getLastD [] := ⟨_, rfl⟩
  obtain ⟨M, hM⟩ : ∃ M, M = LT.dropLast := ⟨_, rfl⟩
  obtain ⟨hn1, hn2⟩ := splitC_len 10 t
  rw [hLS] at hn1 hn2
  have hLT : LT.length ≤ 1048576 := by simp only [List.length_cons] at hn1; omega
  have h0l : L0.length ≤ 1048576 := by have := hn2 L0 (List.mem_cons_self ..); omega
  have HM2 := Lib.hid (show ∀ x, x ∈ HD → x.length ≤ 1048576 from fun x hx => by rw [hHD] at hx; have := (splitC_len 32 L0).2 x hx; omega)
  have HN2 := Lib.hid (show ∀ x, x ∈ M → x.length ≤ 1048576 from fun x hx => by rw [hM] at hx; have := hn2 x (List.mem_cons_of_mem _ (List.dropLast_subset _ hx)); omega)
  obtain ⟨R1, R2, R3, R5⟩ := rdS_at hbig hLS hHD.symm
  rw [← hLZ] at R1 R5
  rw [← hM] at R2 R5
  have HR1 := Lib.hid R1
  have HR2 := Lib.hid R2
  have HR3 := Lib.hid R3
  have HR5 := Lib.hid R5
  have HMG := Lib.hid (show ∀ j (hj : j < M.length), ∃ h : j < LT.length, LT[j] = M[j] from fun j hj => by
    subst hM
    have h1 : j < LT.length := by rw [List.length_dropLast] at hj; omega
    exact ⟨h1, (List.getElem_dropLast hj).symm⟩)
  have HML := Lib.hid (show HD.length = 2 → LZ = [] → M.length + 1 = LT.length from fun h1 h2 => by
    cases LT with
    | nil =>
      have h3 : L0 = [] := by rw [hLZ] at h2; exact h2
      rw [hHD, h3] at h1
      exact absurd h1 (by decide)
    | cons y ys => rw [hM, List.length_dropLast]; simp)
  have HSP := Lib.hid (show ∀ W : World, Calls Tryd.prog 15 #[.string ⟨t.toArray⟩, .int .u8 10] W fun e w' => ∃ v, e = .returned v ∧ Rd w' [v] (L0 :: LT) ∧ Below W.heap.size W w' from fun W => by
    have h1 := l01Split_c t 10 W hs
    rw [hLS] at h1
    exact h1)
  have HSQ := Lib.hid (show ∀ W : World, Calls Tryd.prog 15 #[.string ⟨L0.toArray⟩, .int .u8 32] W fun e w' => ∃ v, e = .returned v ∧ Rd w' [v] HD ∧ Below W.heap.size W w' from fun W => by
    have h1 := l01Split_c L0 32 W h0l
    rw [← hHD] at h1
    exact h1)
  have HLZ := Lib.hid hLZ
  clear hLS hHD hn1 hn2 hLZ hM R1 R2 R3 R5 hbig
  go_enter Tryd.func10, Tryd.ntmps10
  go_wp2_with fail
  refine (HSP.out _).mono ?_
  rintro e w20 ⟨v1, rfl, hL1, hbw20⟩
  have hz_w20 : w.heap.size + 1 ≤ w20.heap.size := by have h9 := hbw20.size; (try simp at h9); omega
  have hs21 := hs19.step hbw20
  clear k0_0 k0_1
  have k0_0 := hs21.cellAt 0 rfl 0 rfl
  have k0_1 := hs21.cellAt 0 rfl 1 rfl
  have HL1 := Lib.hid hL1
  clear hL1 HSP
  obtain ⟨a1, c1, rfl, _⟩ := rd_list HL1.out
  obtain ⟨b1, o1, rfl, q0⟩ := rd_str_at HL1.out 0 (by simp)
  rw [Nat.add_zero] at q0
  have q9 : w20.cell? ⟨b1, o1 + LT.length, none⟩ = some (.string ⟨LZ.toArray⟩) := by
    obtain ⟨b, o, e, q⟩ := rd_str_at HL1.out LT.length (by simp)
    simp only [Option.some.injEq, Addr.mk.injEq] at e
    obtain ⟨rfl, rfl, -⟩ := e
    rw [last_at, ← HLZ.out] at q
    exact q
  have HCB := Lib.hid (show ∀ j (hj : j < M.length), w20.cell? ⟨b1, o1 + 1 + j, none⟩ = some (.string ⟨M[j].toArray⟩) from fun j hj => by
    obtain ⟨hj2, hg⟩ := HMG.out j hj
    obtain ⟨b, o, e, q⟩ := rd_str_at HL1.out (j + 1) (by simpa using hj2)
    simp only [Option.some.injEq, Addr.mk.injEq] at e
    obtain ⟨rfl, rfl, -⟩ := e
    rw [show o1 + 1 + j = o1 + (j + 1) by omega, ← hg]
    simpa using q)
  have hb1 : b1 < w20.heap.size := World.block_lt_of_cell? _ _ q0
  clear HL1 HLZ HMG
  have q0' : w20.cell? ⟨b1, o1, none⟩ = some (.string ⟨L0.toArray⟩) := q0
  clear q0
  have HBL := Lib.hid (Below.refl w20.heap.size w20)
  go_wp2_with fail
  refine (HSQ.out _).mono ?_
  rintro e w22 ⟨v2, rfl, hL2, hbw22⟩
  have hz_w22 : w20.heap.size ≤ w22.heap.size := by have h9 := hbw22.size; (try simp at h9); omega
  have hs23 := hs21.step hbw22
  have q0'_24 := cellL hbw22 q0'
  clear q0'
  have q9_25 := cellL hbw22 q9
  clear q9
  have HBL_26 := Lib.hid (HBL.out.trans ((hbw22).mono HBL.out.size))
  clear HBL
  clear k0_0 k0_1
  have k0_0 := hs23.cellAt 0 rfl 0 rfl
  have k0_1 := hs23.cellAt 0 rfl 1 rfl
  have HL2 := Lib.hid hL2
  clear hL2 HSQ
  obtain ⟨a2, c2, rfl, _⟩ := rd_list HL2.out
  by_cases h3 : HD.length = 2
  · have hML0 := HML.out h3
    have HML1 := Lib.hid hML0
    clear hML0 HML
    obtain ⟨x0, x1, rfl⟩ := list2 h3
    have hl1 : x1.length ≤ 1048576 := HM2.out x1 (by simp)
    obtain ⟨b2, o2, rfl, q4⟩ := rd_str_at HL2.out 0 (by simp)
    obtain ⟨b2', o2', e1, q5⟩ := rd_str_at HL2.out 1 (by simp)
    simp only [Option.some.injEq, Addr.mk.injEq] at e1
    obtain ⟨rfl, rfl, -⟩ := e1
    simp only [List.getElem_cons_succ, List.getElem_cons_zero, Nat.add_zero] at q4 q5
    have HQ1 := Lib.hid (show ¬ (x0 = insW ∧ LT.length ≤ 25 ∧ LZ = []) → rdS t = ((0, []), 5) from fun h => HR1.out (fun h1 => h ⟨h1.2.1, by have := h1.2.2.1; simp only [List.length_cons] at this; omega, h1.2.2.2⟩))
    have HQ3 := Lib.hid (show numS x1 = none → rdS t = ((0, []), 5) from HR3.out)
    have HQ5 := Lib.hid (show x0 = insW → LT.length ≤ 25 → LZ = [] → ∀ cs n, consS M = some cs → numS x1 = some n → rdS t = if shownI (n, cs) = true then ((n, cs), 0) else ((0, []), 5) from fun h1 h2 h4 => HR5.out h3 h1 (by simp only [List.length_cons]; omega) h4)
    clear h3 HM2 HL2 HR1 HR3 HR5
    by_cases h4 : x0 = insW
    · have gq : (x0 == [105, 110, 115, 116, 97, 110, 99, 101]) = true := by simp [h4, insW]
      by_cases h45 : LT.length ≤ 25
      · have g45 : ¬ ((26 : Int) < (LT.length : Int) + 1) := by omega
        by_cases h5 : LZ = []
        · have HMl := HML1.out h5
          have hb8 : (LZ == []) = true := by simp [h5]
          have hb9 : LZ.isEmpty = true := by simp [h5]
          have HQ6 := Lib.hid (HQ5.out h4 h45 h5)
          clear HML1 HQ1 HQ5 h4 h5
          obtain ⟨p, B1, HNU1, hIp, HP1, HP0⟩ := number_at x1 hl1
          go_wp2_with fail
          refine (HNU1.out _).mono ?_
          rintro e w27 ⟨rfl, rfl⟩
          have HCC := Lib.hid (fun j hj => cellL HBL_26.out (HCB.out j hj))
          clear HNU1 HCB
          have hzL := HBL_26.out.size
          clear HBL_26
          obtain ⟨wS, hwS⟩ : ∃ x, x = w22 := ⟨_, rfl⟩
          subst hwS
          have hb1b : b1 < wS.heap.size := by omega
          have hs28 := hs23.alloc #[.int .i64 p, .slice none 0 0] 32 (n := wS.heap.size) (by simp)
          have q0'_29 := cellL (belowA _ (.cells #[.int .i64 p, .slice none 0 0] 32)) q0'_24
          clear q0'_24
          have q9_30 := cellL (belowA _ (.cells #[.int .i64 p, .slice none 0 0] 32)) q9_25
          clear q9_25
          have q4_31 := cellL (belowA _ (.cells #[.int .i64 p, .slice none 0 0] 32)) q4
          clear q4
          have q5_32 := cellL (belowA _ (.cells #[.int .i64 p, .slice none 0 0] 32)) q5
          clear q5
          clear k0_0 k0_1
          have k0_0 := hs28.cellAt 0 rfl 0 rfl
          have k0_1 := hs28.cellAt 0 rfl 1 rfl
          have k1_0 := hs28.cellAt 1 rfl 0 rfl
          have k1_1 := hs28.cellAt 1 rfl 1 rfl
          have HS6 := Lib.hid hs28
          have HC6 := Lib.hid (fun j hj => cellL (belowA wS (.cells #[.int .i64 p, .slice none 0 0] 32)) (HCC.out j hj))
          have HBAD0 := Lib.hid (show B1 = false → rdS t = ((0, []), 5) from fun h => HQ3.out (HP0.out h))
          have HNP := Lib.hid (show B1 = true → numS x1 = some p from HP1.out)
          clear HCC HP1 HP0 HQ3
          go_wp2_with fail
          go_loopw [8, 10] (fun bv iv wl => ∃ (B : Bool) (k m : Nat) (av : Option Addr) (cv : Nat) (cs : List OpT), bv = .bool B ∧ iv = .int .i64 k ∧ k ≤ LT.length ∧ m ≤ M.length ∧ cs.length = m ∧ Hid (B = true → k = m + 1) ∧ Hid (B = true → consS (M.take m) = some cs ∧ numS x1 = some p) ∧ Hid (B = false → rdS t = ((0, []), 5)) ∧ Hid (St w (wS.heap.size + 1) wl [(w.heap.size, #[.int .i64 0, .slice none 0 0], 32), (wS.heap.size, #[.int .i64 p, .slice av m cv], 32)]) ∧
            Hid (∀ j (hj : j < M.length), wl.cell? ⟨b1, o1 + 1 + j, none⟩ = some (.string ⟨M[j].toArray⟩)) ∧
            Hid (AccP (fun z => wS.heap.size + 1 ≤ z ∧ z < wl.heap.size) 61 wl (.slice av m cv) cs)) (fun _ iv _ => LT.length + 1 - (intOf iv).toNat)
          case atStart => exact ⟨B1, 1, 0, none, 0, [], rfl, rfl, by omega, Nat.zero_le _, rfl, fun _ => rfl, fun h => ⟨rfl, HNP.out h⟩, HBAD0.out, HS6.out, HC6.out, AccP.nil _ _ _⟩
          case round =>
            clear HS6 HC6 HBAD0 HNP
            obtain ⟨B, k, m, av, cv, cs, rfl, rfl, hkL, hm, hel, hkm, hes, hbad, hst, hcb, hac⟩ := hrel
            have hzr : wS.heap.size + 1 ≤ wr.heap.size := hst.out.hi
            have HAV := Lib.hid (AccP.wk hac.out.tight (C := fun z => wS.heap.size + 1 ≤ z ∧ z < wr.heap.size) (fun z h => h.1))
            have HLK := Lib.hid hel
            clear hac hel
            have k0_0 := hst.out.cellAt 0 rfl 0 rfl
            have k0_1 := hst.out.cellAt 0 rfl 1 rfl
            have k1_0 := hst.out.cellAt 1 rfl 0 rfl
            have k1_1 := hst.out.cellAt 1 rfl 1 rfl
            cases B with
            | false =>
              have H1 := Lib.hid (hbad.out rfl)
              clear hkm hes hbad HQ6 HR2
              clear HAV
              by_cases hlt : k < LT.length
              · have hkl2 : (k : Int) < (LT.length : Int) := by omega
                have hkl : (k : Int) + 1 < (LT.length : Int) + 1 := by omega
                have g0 := (hst.out.freeAt 0 rfl 0)
                have g1 := (hst.out.freeAt 0 rfl 1)
                have hs9 := ((hst.out.set (p := []) (by simp <;> omega) 0 (.int .i64 0)).set (p := []) (by simp <;> omega) 1 (.slice none 0 0))
                have HB9 := Lib.hid hs9.bel
                have y0 := hs9.cellAt 0 rfl 0 rfl
                have y1 := hs9.cellAt 0 rfl 1 rfl
                clear hs9
                go_wp2_with fail
                refine bodyPost_ret (v := .tuple #[.agg #[.int .i64 0, .slice none 0 0], .int .i64 5]) (by simp [results, Tryd.results10, go_sem, y0, y1]) rfl ⟨_, _, by rw [H1.out], ?_, HB9.out⟩
                rw [H1.out]; exact fresh_inst0
              · have hkl2 : ¬ ((k : Int) < (LT.length : Int)) := by omega
                have hkl : ¬ ((k : Int) + 1 < (LT.length : Int) + 1) := by omega
                have g0 := (hst.out.freeAt 0 rfl 0)
                have g1 := (hst.out.freeAt 0 rfl 1)
                have hs9 := ((hst.out.set (p := []) (by simp <;> omega) 0 (.int .i64 0)).set (p := []) (by simp <;> omega) 1 (.slice none 0 0))
                have HB9 := Lib.hid hs9.bel
                have y0 := hs9.cellAt 0 rfl 0 rfl
                have y1 := hs9.cellAt 0 rfl 1 rfl
                clear hs9
                go_wp2_with fail
                refine bodyPost_ret (v := .tuple #[.agg #[.int .i64 0, .slice none 0 0], .int .i64 5]) (by simp [results, Tryd.results10, go_sem, y0, y1]) rfl ⟨_, _, by rw [H1.out], ?_, HB9.out⟩
                rw [H1.out]; exact fresh_inst0
            | true =>
            obtain rfl := hkm.out rfl
            obtain ⟨hes1, hes2⟩ := hes.out rfl
            have HES := Lib.hid hes1
            have HNX := Lib.hid hes2
            clear hkm hes hbad hes1 hes2
            by_cases hlt : m < M.length
            · have hkl2 : ((m : Int) + 1) < (LT.length : Int) := by omega
              have q0 : wr.cell? ⟨b1, o1 + (m + 1), none⟩ = some (.string ⟨M[m].toArray⟩) := by
                have h := hcb.out m hlt
                rwa [show o1 + 1 + m = o1 + (m + 1) by omega] at h
              have hX := HN2.out _ (List.getElem_mem hlt)
              have HXN := Lib.hid (show conS M[m] = none → rdS t = ((0, []), 5) from fun h => HR2.out (consS_none (List.getElem_mem hlt) h))
              have HXS := Lib.hid (show ∀ e, conS M[m] = some e → consS (M.take (m + 1)) = some (cs ++ [e]) from fun e h => by rw [List.take_succ_eq_append_getElem hlt]; exact consS_snoc HES.out h)
              generalize M[m] = X at *
              have HBR := Lib.hid (Below.refl wr.heap.size wr)
              obtain ⟨WS, hWS⟩ : ∃ WS, WS = splitC 32 X := ⟨_, rfl⟩
              have HSX := Lib.hid (show ∀ W : World, Calls Tryd.prog 15 #[.string ⟨X.toArray⟩, .int .u8 32] W fun e w' => ∃ v, e = .returned v ∧ Rd w' [v] WS ∧ Below W.heap.size W w' from fun W => by
                have h1 := l01Split_c X 32 W hX
                rw [← hWS] at h1
                exact h1)
              have HCO := Lib.hid (conS_of hWS.symm)
              have HWL := Lib.hid (show ∀ x, x ∈ WS → x.length ≤ 1048576 from fun x hx => by rw [hWS] at hx; have := (splitC_len 32 X).2 x hx; omega)
              have hWn : WS.length ≤ 1048577 := by rw [hWS]; have := (splitC_len 32 X).1; omega
              clear hWS
              go_wp2_with fail
              refine (HSX.out _).mono ?_
              rintro e w33 ⟨v2, rfl, hL3, hbw33⟩
              have hz_w33 : wr.heap.size ≤ w33.heap.size := by have h9 := hbw33.size; (try simp at h9); omega
              have hs34 := hst.out.step hbw33
              have HAV_35 := Lib.hid (AccP.mono HAV.out hbw33)
              clear HAV
              have HBR_36 := Lib.hid (HBR.out.trans ((hbw33).mono HBR.out.size))
              clear HBR
              clear k0_0 k0_1 k1_0 k1_1
              have k0_0 := hs34.cellAt 0 rfl 0 rfl
              have k0_1 := hs34.cellAt 0 rfl 1 rfl
              have k1_0 := hs34.cellAt 1 rfl 0 rfl
              have k1_1 := hs34.cellAt 1 rfl 1 rfl
              have HL3 := Lib.hid hL3
              clear hL3 HSX
              go_wp2_with fail
              refine (l05Numbers_c WS v2 _ HL3.out HWL.out hWn).mono ?_
              rintro e w37 ⟨a6, n6, c6, rfl, hF6, hbw37⟩
              have hz_w37 : w33.heap.size ≤ w37.heap.size := by have h9 := hbw37.size; (try simp at h9); omega
              have hs38 := hs34.step hbw37
              have HAV_39 := Lib.hid (AccP.mono HAV_35.out hbw37)
              clear HAV_35
              have HBR_40 := Lib.hid (HBR_36.out.trans ((hbw37).mono HBR_36.out.size))
              clear HBR_36
              clear k0_0 k0_1 k1_0 k1_1
              have k0_0 := hs38.cellAt 0 rfl 0 rfl
              have k0_1 := hs38.cellAt 0 rfl 1 rfl
              have k1_0 := hs38.cellAt 1 rfl 0 rfl
              have k1_1 := hs38.cellAt 1 rfl 1 rfl
              have HF6 := Lib.hid hF6
              clear hF6 HL3
              cases hq : numsS WS with
              | none =>
                have H1 := Lib.hid (HXN.out (by rw [HCO.out, hq]))
                clear HXN HXS HCO HF6 hq
                have HC7 := Lib.hid (fun j hj => cellL HBR_40.out (hcb.out j hj))
                go_wp2_with fail
                go_roundw
                case rel => exact ⟨false, m + 1 + 1, m, av, cv, cs, rfl, by go_num, by omega, hm, HLK.out, fun h => (by cases h), fun h => (by cases h), fun _ => H1.out, hs38, HC7.out, AccP.wk HAV_39.out (fun z hz => ⟨hz.1, by have := hz.2; have := HBR_40.out.size; omega⟩)⟩
                case measure => simp [intOf]; omega
              | some ns =>
                have HF5 := Lib.hid (HF6.out ns hq)
                have HI5 := Lib.hid (numsS_i64 hq)
                obtain ⟨a', c', e', hr6⟩ := rd_list HF5.out.rd
                simp only [Value.slice.injEq] at e'
                obtain ⟨rfl, rfl, rfl⟩ := e'
                have hcq := hr6.1
                have hcm6 := hr6.2.1
                unfold maxLen at hcm6
                clear hr6 HF6
                by_cases hn2 : 1 < ns.length
                · obtain ⟨r, z, l, rfl⟩ : ∃ r z l, ns = r :: z :: l := by
                    match ns, hn2 with
                    | r :: z :: l, _ => exact ⟨r, z, l, rfl⟩
                  have HTK := Lib.hid (HXS.out (r, z :: l) (by rw [HCO.out, hq]))
                  have hIr := HI5.out r (by simp)
                  simp only [List.length_cons] at hcq hn2
                  have hn3 : (1 : Int) < (l.length : Int) + 1 + 1 := by omega
                  have hlz : (1 : Int) ≤ (l.length : Int) + 1 + 1 := by omega
                  have hlz0 : (0 : Int) < (l.length : Int) + 1 + 1 := by omega
                  have hci2 : (2 : Int) ≤ c6 := by omega
                  have hcn : ¬ c6 = 1 := by omega
                  have hcu : c6 ≤ 9223372036854775807 := by omega
                  clear HXN HXS HCO hq HI5
                  obtain ⟨b5, o5, rfl, q5, _⟩ := rd_int_at HF5.out.rd 0 (by simp)
                  rw [Nat.add_zero, List.getElem_cons_zero] at q5
                  have hbz : wr.heap.size ≤ b5 := by
                    obtain ⟨g5, o6, c6', cur6, e6, hv6, _, _, _, hA6, _⟩ := ip_form HF5.out.ip (by simp)
                    simp only [Value.slice.injEq, Option.some.injEq, Addr.mk.injEq, and_true] at hv6
                    obtain ⟨⟨rfl, rfl⟩, -⟩ := hv6
                    have := hA6.1
                    omega
                  clear k0_0 k0_1 k1_0 k1_1
                  have k0_0 := hs38.cellAt 0 rfl 0 rfl
                  have k0_1 := hs38.cellAt 0 rfl 1 rfl
                  have k1_0 := hs38.cellAt 1 rfl 0 rfl
                  have k1_1 := hs38.cellAt 1 rfl 1 rfl
                  go_upto_region 16 with fail
                  refine wp_region_noPanic (wp_region_tree4 (fun w' => w'.cell? ⟨w.heap.size, 0, none⟩ = some (.int .i64 0) ∧ w'.cell? ⟨w.heap.size, 1, none⟩ = some (.slice none 0 0) ∧ w'.cell? ⟨wS.heap.size, 0, none⟩ = some (.int .i64 p) ∧ w'.cell? ⟨wS.heap.size, 1, none⟩ = some (.slice av m cv) ∧ w'.cell? ⟨b5, o5, none⟩ = some (.int .i64 r)) (.float 0 (.float 1 (.float 2 (.float 3 (.float 4 (.float 5 (.float 6 (.float 7 (.hard 8 (.hard 9 (.float 10 (.last 11 .nil)))))))))))) (by kernel_rfl) (by kernel_rfl) (by kernel_rfl) rfl ?_ (fun _ _ _ _ _ h => h) ?_)
                  · exact ⟨(hs38.drew).cellAt 0 rfl 0 rfl, (hs38.drew).cellAt 0 rfl 1 rfl, (hs38.drew).cellAt 1 rfl 0 rfl, (hs38.drew).cellAt 1 rfl 1 rfl, cellL (belowD _) q5⟩
                  have hs41 := hs38.drew
                  have q5_42 := cellL (belowD _) q5
                  clear q5
                  have HAV_43 := Lib.hid (AccP.mono HAV_39.out (belowD _))
                  clear HAV_39
                  have HBR_44 := Lib.hid (HBR_40.out.trans (((belowD _)).mono HBR_40.out.size))
                  clear HBR_40
                  have HF5_45 := Lib.hid (Fresh.mono HF5.out (belowD _))
                  clear HF5
                  clear k0_0 k0_1 k1_0 k1_1
                  have hz_wd46 : w37.heap.size ≤ (w37.drew).heap.size := by simp
                  generalize hgen_wd46 : w37.drew = wd46 at *
                  have HG_wd46 := Lib.hid hgen_wd46
                  clear hgen_wd46
                  (repeat (first | (apply t4_skip rfl (by rfl); try simp only [Act.put, List.setIfInBounds_toArray, List.set_cons_zero, List.set_cons_succ]) | (apply t4_float rfl (by rfl); (· (intro w' hS; go_simp <;> with_reducible rfl)); (try simp only [Act.put, List.setIfInBounds_toArray, List.set_cons_zero, List.set_cons_succ]))))
                  refine t4_hard rfl (by rfl) (fun K hK => ?_)
                  go_wp2_with fail
                  have hs47 := hs41.alloc #[.int .i64 r, .slice (some ⟨b5, o5 + 1, none⟩) (l.length + 1) (c6 - 1)] 61 (n := wd46.heap.size) (by simp)
                  have q5_48 := cellL (belowA _ (.cells #[.int .i64 r, .slice (some ⟨b5, o5 + 1, none⟩) (l.length + 1) (c6 - 1)] 61)) q5_42
                  clear q5_42
                  have HAV_49 := Lib.hid (AccP.mono HAV_43.out (belowA _ (.cells #[.int .i64 r, .slice (some ⟨b5, o5 + 1, none⟩) (l.length + 1) (c6 - 1)] 61)))
                  clear HAV_43
                  have HBR_50 := Lib.hid (HBR_44.out.trans (((belowA _ (.cells #[.int .i64 r, .slice (some ⟨b5, o5 + 1, none⟩) (l.length + 1) (c6 - 1)] 61))).mono HBR_44.out.size))
                  clear HBR_44
                  have HF5_51 := Lib.hid (Fresh.mono HF5_45.out (belowA _ (.cells #[.int .i64 r, .slice (some ⟨b5, o5 + 1, none⟩) (l.length + 1) (c6 - 1)] 61)))
                  clear HF5_45
                  refine ⟨⟨hs47.cellAt 0 rfl 0 rfl, hs47.cellAt 0 rfl 1 rfl, hs47.cellAt 1 rfl 0 rfl, hs47.cellAt 1 rfl 1 rfl, q5_48⟩, ?_⟩
                  (repeat (first | (apply t4_skip rfl (by rfl); try simp only [Act.put, List.setIfInBounds_toArray, List.set_cons_zero, List.set_cons_succ]) | (apply t4_float rfl (by rfl); (· (intro w' hS; go_simp <;> with_reducible rfl)); (try simp only [Act.put, List.setIfInBounds_toArray, List.set_cons_zero, List.set_cons_succ]))))
                  refine t4_hard rfl (by rfl) (fun K hK => ?_)
                  have hsW := hs47.hi
                  have IY := ip_cons (C := fun z => wr.heap.size ≤ z) (ip_int1 (C := fun _ => False) hIr) (ip_tail HF5_51.out.ip (aT := some ⟨b5, o5 + 1, none⟩) (cT := c6 - 1) (fun h => ⟨rfl, rfl⟩) (by unfold maxLen; omega)) (fun z h => h.elim) (fun z h => h.elim) (fun z h => by (try simp at h ⊢); omega)
                  refine wp_append_accP _ _ _ _ rfl E_cons rfl HAV_49.out IY (fun z h1 h2 => by have h3 := h1.2; omega) ⟨wd46.heap.size, 0, none⟩ 1 rfl (news2 (hs47.cellAt 2 rfl 0 rfl) (hs47.cellAt 2 rfl 1 rfl)) (by rw [HLK.out]; omega) ?_
                  simp only [HLK.out]
                  intro a8 c8 w8 hA8 hB8
                  have hz8 := hB8.size
                  have hs8 := hs47.butP hB8 (fun z hz => by have := hz.1; omega) (fun x hx hA => by have h1 := hA.1; have h2 := hA.2; simp at hx; rcases hx with rfl | rfl | rfl <;> (try simp only at h1 h2) <;> omega)
                  have HA8 := Lib.hid (AccP.wk hA8.tight (C := fun z => wS.heap.size + 1 ≤ z ∧ z < w8.heap.size) (fun z hz => ⟨by
                    rcases hz.1 with h | h | h
                    · exact h.1
                    · omega
                    · rw [h]; (try simp); omega, hz.2⟩))
                  have HC8 := Lib.hid (fun j hj => cellB hB8 (cellL HBR_50.out (hcb.out j hj)) (fun h => by have h3 := h.2; omega))
                  clear hA8 IY
                  clear HAV_49
                  clear HF5_51
                  clear HBR_50
                  have q5_52 := cellB hB8 q5_48 (fun h => by have := h.2; omega)
                  clear q5_48
                  refine hK _ _ ⟨⟨hs8.cellAt 0 rfl 0 rfl, hs8.cellAt 0 rfl 1 rfl, hs8.cellAt 1 rfl 0 rfl, hs8.cellAt 1 rfl 1 rfl, q5_52⟩, ?_⟩
                  (repeat (first | (apply t4_skip rfl (by rfl); try simp only [Act.put, List.setIfInBounds_toArray, List.set_cons_zero, List.set_cons_succ]) | (apply t4_float rfl (by rfl); (· (intro w' hS; go_simp <;> with_reducible rfl)); (try simp only [Act.put, List.setIfInBounds_toArray, List.set_cons_zero, List.set_cons_succ]))))
                  refine t4_last rfl (by rfl) (fun K hK => ?_)
                  have k0_0 := hs8.cellAt 0 rfl 0 rfl
                  have k0_1 := hs8.cellAt 0 rfl 1 rfl
                  have k1_0 := hs8.cellAt 1 rfl 0 rfl
                  have k1_1 := hs8.cellAt 1 rfl 1 rfl
                  have k2_0 := hs8.cellAt 2 rfl 0 rfl
                  have k2_1 := hs8.cellAt 2 rfl 1 rfl
                  have hs53 := hs8.low (B' := wS.heap.size + 1) (bx' := [(w.heap.size, #[.int .i64 0, .slice none 0 0], 32), (wS.heap.size, #[.int .i64 p, .slice av m cv], 32)]) (by omega) (by (try simp) <;> omega) (fun x hx => by simp only [List.mem_cons, List.not_mem_nil, or_false] at hx; rcases hx with rfl | rfl <;> (refine ⟨?_, ?_⟩ <;> (try simp) <;> (try omega)))
                  have f1_0 := hs53.freeAt 1 rfl 0
                  have f1_1 := hs53.freeAt 1 rfl 1
                  have HC9 := Lib.hid (fun j hj => cell_put (b' := wS.heap.size) (o' := 1) (u := .slice a8 (m + 1) c8) (HC8.out j hj) (by omega))
                  have HAV := HA8
                  clear HA8
                  go_wp2_with fail
                  refine t4_nil (NoPanic.normal ?_)
                  have hs54 := hs53.set (p := [_]) (by simp <;> omega) 1 (.slice a8 (m + 1) c8)
                  have q5_55 := (cell_put (b' := wS.heap.size) (o' := 1) (u := .slice a8 (m + 1) c8) q5_52 (by (try simp) <;> omega))
                  clear q5_52
                  have HAV_56 := Lib.hid (AccP.setCell (b := wS.heap.size) (o := 1) HAV.out (.slice a8 (m + 1) c8) (by intro hA9; (try simp only at hA9); omega))
                  clear HAV
                  clear k0_0 k0_1 k1_0 k1_1 k2_0 k2_1
                  have hz_wP : w8.heap.size ≤ ((w8.setCell ⟨wS.heap.size, 1, none⟩ (.slice a8 (m + 1) c8))).heap.size := by simp [World.setCell]
                  generalize hgen_wP : (w8.setCell ⟨wS.heap.size, 1, none⟩ (.slice a8 (m + 1) c8)) = wP at *
                  clear hgen_wP
                  have k0_0 := hs54.cellAt 0 rfl 0 rfl
                  have k0_1 := hs54.cellAt 0 rfl 1 rfl
                  have k1_0 := hs54.cellAt 1 rfl 0 rfl
                  have k1_1 := hs54.cellAt 1 rfl 1 rfl
                  go_wp2_with fail
                  go_roundw
                  case rel => exact ⟨true, m + 1 + 1, m + 1, a8, c8, cs ++ [(r, z :: l)], rfl, by go_num, by omega, by omega, by rw [List.length_append, HLK.out]; rfl, fun _ => rfl, fun _ => ⟨HTK.out, HNX.out⟩, fun h => (by cases h), hs54, HC9.out, AccP.wk HAV_56.out (fun z hz => ⟨hz.1, by have := hz.2; omega⟩)⟩
                  case measure => simp [intOf]; omega
                · have hn3 : ¬ ((1 : Int) < (ns.length : Int)) := by omega
                  have H1 := Lib.hid (HXN.out (by
                    rw [HCO.out, hq]
                    match ns, hn2 with
                    | [], _ => rfl
                    | [r], _ => rfl
                    | r :: z :: l, h => exact absurd (by simp) h))
                  clear HXN HXS HCO HF5 hq HI5
                  have HC7 := Lib.hid (fun j hj => cellL HBR_40.out (hcb.out j hj))
                  go_wp2_with fail
                  go_roundw
                  case rel => exact ⟨false, m + 1 + 1, m, av, cv, cs, (by rw [decide_eq_false (by omega)]), by go_num, by omega, hm, HLK.out, fun h => (by cases h), fun h => (by cases h), fun _ => H1.out, hs38, HC7.out, AccP.wk HAV_39.out (fun z hz => ⟨hz.1, by have := hz.2; have := HBR_40.out.size; omega⟩)⟩
                  case measure => simp [intOf]; omega
            · obtain rfl : m = M.length := by omega
              have hkl2 : ¬ (((M.length : Int) + 1) < (LT.length : Int)) := by omega
              have HQ7 := Lib.hid (HQ6.out cs p (by have h := HES.out; rwa [List.take_length] at h) HNX.out)
              clear hcb HES HNX HQ6 HR2 HN2
              have HX := Lib.hid (show Rd wr [.int .i64 p, .slice av M.length cv] ((p, cs) : Inst) from mk_cons (mk_rdint hIp) HAV.out.rd)
              have HFA := Lib.hid (show Fresh (wS.heap.size + 1) wr [.slice av M.length cv] cs from HAV.out.ip.fresh (fun k hk => hk.1))
              clear HAV
              go_wp2_with fail
              refine (l05Shown_c (p, cs) _ _ _ _ HX.out (hst.out.cellAt 1 rfl 0 rfl) (hst.out.cellAt 1 rfl 1 rfl)).mono ?_
              rintro e w57 ⟨rfl, hbw57⟩
              have hz_w57 : wr.heap.size ≤ w57.heap.size := by have h9 := hbw57.size; (try simp at h9); omega
              have hs58 := hst.out.step hbw57
              have HX_59 := Lib.hid (Rd.mono HX.out hbw57)
              clear HX
              have HFA_60 := Lib.hid (Fresh.mono HFA.out hbw57)
              clear HFA
              clear k0_0 k0_1 k1_0 k1_1
              have k0_0 := hs58.cellAt 0 rfl 0 rfl
              have k0_1 := hs58.cellAt 0 rfl 1 rfl
              have k1_0 := hs58.cellAt 1 rfl 0 rfl
              have k1_1 := hs58.cellAt 1 rfl 1 rfl
              cases hok : shownI (p, cs) with
              | false =>
                have H1 := Lib.hid (show rdS t = ((0, []), 5) by rw [HQ7.out, hok]; rfl)
                clear hok HQ7
                have g0 := (hs58.freeAt 0 rfl 0)
                have g1 := (hs58.freeAt 0 rfl 1)
                have hs9 := ((hs58.set (p := []) (by simp <;> omega) 0 (.int .i64 0)).set (p := []) (by simp <;> omega) 1 (.slice none 0 0))
                have HB9 := Lib.hid hs9.bel
                have y0 := hs9.cellAt 0 rfl 0 rfl
                have y1 := hs9.cellAt 0 rfl 1 rfl
                clear hs9
                go_wp2_with fail
                refine bodyPost_ret (v := .tuple #[.agg #[.int .i64 0, .slice none 0 0], .int .i64 5]) (by simp [results, Tryd.results10, go_sem, y0, y1]) rfl ⟨_, _, by rw [H1.out], ?_, HB9.out⟩
                rw [H1.out]; exact fresh_inst0
              | true =>
                have H1 := Lib.hid (show rdS t = ((p, cs), 0) by rw [HQ7.out, if_pos hok])
                clear hok HQ7
                have g0 := (hs58.freeAt 0 rfl 0)
                have g1 := (hs58.freeAt 0 rfl 1)
                have hs9 := ((hs58.set (p := []) (by simp <;> omega) 0 (.int .i64 p)).set (p := []) (by simp <;> omega) 1 (.slice av M.length cv))
                have HF9 := Lib.hid (show Fresh w.heap.size ((w57.setCell ⟨w.heap.size, 0, none⟩ (.int .i64 p)).setCell ⟨w.heap.size, 1, none⟩ (.slice av M.length cv)) [.int .i64 p, .slice av M.length cv] ((p, cs) : Inst) from
                  fresh_ic hIp (((HFA_60.out.setCell (a := ⟨w.heap.size, 0, none⟩) (by simp <;> omega) (.int .i64 p)).setCell (a := ⟨w.heap.size, 1, none⟩) (by simp <;> omega) (.slice av M.length cv)).lower (by omega)))
                have HB9 := Lib.hid hs9.bel
                have y0 := hs9.cellAt 0 rfl 0 rfl
                have y1 := hs9.cellAt 0 rfl 1 rfl
                clear hs9
                go_wp2_with fail
                refine bodyPost_ret (v := .tuple #[.agg #[.int .i64 p, .slice av M.length cv], .int .i64 0]) (by simp [results, Tryd.results10, go_sem, y0, y1]) rfl ⟨_, _, by rw [H1.out], ?_, HB9.out⟩
                rw [H1.out]; exact HF9.out
        · have hb8 : (LZ == []) = false := by simp [h5]
          have hb9 : LZ.isEmpty = false := by simp [h5]
          have H1 := Lib.hid (HQ1.out (fun h => h5 h.2.2))
          clear HML1 HQ1 HQ3 HQ5 HCB h4 h5
          have g0 := (hs23.freeAt 0 rfl 0)
          have g1 := (hs23.freeAt 0 rfl 1)
          have hs9 := ((hs23.set (p := []) (by simp <;> omega) 0 (.int .i64 0)).set (p := []) (by simp <;> omega) 1 (.slice none 0 0))
          have HB9 := Lib.hid hs9.bel
          have y0 := hs9.cellAt 0 rfl 0 rfl
          have y1 := hs9.cellAt 0 rfl 1 rfl
          clear hs9
          go_wp2_with fail
          refine bodyPost_ret (v := .tuple #[.agg #[.int .i64 0, .slice none 0 0], .int .i64 5]) (by simp [results, Tryd.results10, go_sem, y0, y1]) rfl ⟨_, _, by rw [H1.out], ?_, HB9.out⟩
          rw [H1.out]; exact fresh_inst0
      · have g45 : (26 : Int) < (LT.length : Int) + 1 := by omega
        have H1 := Lib.hid (HQ1.out (fun h => h45 h.2.1))
        clear HML1 HQ1 HQ3 HQ5 HCB h4
        have g0 := (hs23.freeAt 0 rfl 0)
        have g1 := (hs23.freeAt 0 rfl 1)
        have hs9 := ((hs23.set (p := []) (by simp <;> omega) 0 (.int .i64 0)).set (p := []) (by simp <;> omega) 1 (.slice none 0 0))
        have HB9 := Lib.hid hs9.bel
        have y0 := hs9.cellAt 0 rfl 0 rfl
        have y1 := hs9.cellAt 0 rfl 1 rfl
        clear hs9
        go_wp2_with fail
        refine bodyPost_ret (v := .tuple #[.agg #[.int .i64 0, .slice none 0 0], .int .i64 5]) (by simp [results, Tryd.results10, go_sem, y0, y1]) rfl ⟨_, _, by rw [H1.out], ?_, HB9.out⟩
        rw [H1.out]; exact fresh_inst0
    · have gq : (x0 == [105, 110, 115, 116, 97, 110, 99, 101]) = false := by simp only [insW] at h4; simp [h4]
      have H1 := Lib.hid (HQ1.out (fun h => h4 h.1))
      clear HML1 HQ1 HQ3 HQ5 HCB h4
      have g0 := (hs23.freeAt 0 rfl 0)
      have g1 := (hs23.freeAt 0 rfl 1)
      have hs9 := ((hs23.set (p := []) (by simp <;> omega) 0 (.int .i64 0)).set (p := []) (by simp <;> omega) 1 (.slice none 0 0))
      have HB9 := Lib.hid hs9.bel
      have y0 := hs9.cellAt 0 rfl 0 rfl
      have y1 := hs9.cellAt 0 rfl 1 rfl
      clear hs9
      go_wp2_with fail
      refine bodyPost_ret (v := .tuple #[.agg #[.int .i64 0, .slice none 0 0], .int .i64 5]) (by simp [results, Tryd.results10, go_sem, y0, y1]) rfl ⟨_, _, by rw [H1.out], ?_, HB9.out⟩
      rw [H1.out]; exact fresh_inst0
  · have hb : ((HD.length : Int) != 2) = true := by rw [bne_iff_ne]; omega
    have H1 := Lib.hid (HR1.out (fun h => h3 h.1))
    clear HML HR1 HR2 HR3 HR5 HCB h3
    have g0 := (hs23.freeAt 0 rfl 0)
    have g1 := (hs23.freeAt 0 rfl 1)
    have hs9 := ((hs23.set (p := []) (by simp <;> omega) 0 (.int .i64 0)).set (p := []) (by simp <;> omega) 1 (.slice none 0 0))
    have HB9 := Lib.hid hs9.bel
    have y0 := hs9.cellAt 0 rfl 0 rfl
    have y1 := hs9.cellAt 0 rfl 1 rfl
    clear hs9
    go_wp2_with fail
    refine bodyPost_ret (v := .tuple #[.agg #[.int .i64 0, .slice none 0 0], .int .i64 5]) (by simp [results, Tryd.results10, go_sem, y0, y1]) rfl ⟨_, _, by rw [H1.out], ?_, HB9.out⟩
    rw [H1.out]; exact fresh_inst0

end Go.Proofs.YtjnkkjgkinmhkaaDoor
