/-
  CONTRACTS: RefuteSystem. (Printed by wip/gensys.py.)
-/
import Derived.Test.YtkbeihkjhmillaaCount
import Derived.Test.YtkbeihkjhmillaaTimes
import Derived.Test.YtkbeihkjhmillaaIpRow2
import Derived.Test.YtkbeihkjhmillaaScale
namespace Go.Proofs.Ytkbeihkjhmillaa
open Go.RowKit Go.Shelf Go.IntWalk
open Rep (Rd Own sz)
set_option linter.unusedSimpArgs false
set_option linter.unusedVariables false

theorem fresh_nil {α : Type} [Rep α] {lo : Nat} {w : World} (a : Option Addr) : Fresh lo w [.slice a 0 0] ([] : List α) :=
  ⟨[], ⟨_, rfl, .inl ⟨rfl, rfl, a, 0, rfl, Nat.zero_le _⟩⟩, by simp, by simp⟩
theorem row_by (a b : Option Addr) (n m c d : Nat) (w : World) : (Instr.field 90 (.agg #[.slice a n c, .slice b m d]) 1).run Try.prog w = .ok (.slice b m d) w := by kernel_rfl
theorem falseS_lt {s : Sys} (h : 0 ≤ falseS s) : (falseS s).toNat < (elimS s).1.length ∧ falseS s = (falseS s).toNat := ⟨(falseF_lt h).1, (falseF_lt h).2.1⟩
theorem elim_badI {s : Sys} (K : ElimOk s) (hf : 0 ≤ falseS s) : ∃ h : (falseS s).toNat < (elimI s).1.length, (elimI s).1[(falseS s).toNat] = flat (badS s) := by
  have h1 := (falseS_lt hf).1
  have hlt : (falseS s).toNat < (elimI s).1.length := by rw [K.flat]; simpa using h1
  refine ⟨hlt, ?_⟩
  have : (elimI s).1[(falseS s).toNat]? = some (flat (badS s)) := by
    rw [K.flat]
    unfold badS
    simp only [List.getElem?_map, List.getD, List.getElem?_eq_getElem h1, Option.map_some, Option.getD_some]
  rw [List.getElem?_eq_getElem hlt] at this
  simpa using this
theorem refuteF_small (x : Sys) : (refuteF x).1.length ≤ 1000000 := by
  unfold refuteF
  split
  · rename_i h
    have K := elim_ok h
    split
    · rename_i hf
      have := (K.bad hf).1.by_
      have := K.hl
      simp [scaleS, scaleL]; omega
    · simp
  · simp
set_option maxRecDepth 100000 in
set_option maxHeartbeats 2000000 in
theorem RefuteSystem_c (x : Sys) (v0 v1 v2 : Value) (w : World) (hx : Rd w [v0, v1, v2] x) :
    Calls Try.prog 27 #[.agg #[v0, v1, v2]] w fun e w' => ∃ v, e = .returned (.tuple #[v, .int .i64 (refuteF x).2]) ∧ Fresh w.heap.size w' [v] (refuteF x).1 ∧ Below w.heap.size w w' := by
  obtain ⟨p, u, l⟩ := x
  have HX := Lib.hid hx
  have z := rd_cons rfl hx
  obtain ⟨rfl, _⟩ := rd_i1 z.1
  have z2 := rd_cons rfl z.2
  obtain ⟨rfl, _⟩ := rd_i1 z2.1
  obtain ⟨a, c, rfl, _⟩ := rd_list z2.2
  clear hx z z2
  have hs := (St.start w).alloc #[.int .i64 p, .int .i64 u, .slice a l.length c] 31 rfl
  have k0 := hs.cellAt 0 rfl 0 rfl
  have k1 := hs.cellAt 0 rfl 1 rfl
  have k2 := hs.cellAt 0 rfl 2 rfl
  go_enter Try.func27, Try.ntmps27
  go_wp2_with fail
  refine (ValidSystem_c (p, u, l) _ _ _ _ (Rd.mono HX.out hs.bel)).mono ?_
  rintro e w1 ⟨rfl, hb1⟩
  have hs1 := hs.step hb1
  clear k0 k1 k2
  have k0 := hs1.cellAt 0 rfl 0 rfl
  have k1 := hs1.cellAt 0 rfl 1 rfl
  have k2 := hs1.cellAt 0 rfl 2 rfl
  cases hok : validS (p, u, l) with
  | false =>
    have HK := Lib.hid hok
    clear hok
    go_wp2_with fail
    refine bodyPost_ret (v := .tuple #[.slice none 0 0, .int .i64 1]) (by simp [results, Try.results27, go_sem]) rfl ⟨.slice none 0 0, ?_, ?_, hs1.bel⟩
    · unfold refuteF; rw [HK.out]; rfl
    · unfold refuteF; rw [HK.out]; exact fresh_nil none
  | true =>
    have HK := Lib.hid hok
    have KO := Lib.hid (elim_ok hok)
    clear hok
    go_wp2_with fail
    refine (reduced_c (p, u, l) _ _ _ _ (Rd.mono HX.out hs1.bel) HK.out).mono ?_
    rintro e w2 ⟨vr, vb, rfl, rr, rb, hb2⟩
    obtain ⟨ar, cr, rfl, _⟩ := rd_list rr
    obtain ⟨ab, cb, rfl, _⟩ := rd_list rb
    have RR := Lib.hid rr
    have RB := Lib.hid rb
    have hs2 := hs1.step hb2
    clear rr rb
    clear k0 k1 k2
    have k0 := hs2.cellAt 0 rfl 0 rfl
    have k1 := hs2.cellAt 0 rfl 1 rfl
    have k2 := hs2.cellAt 0 rfl 2 rfl
    go_wp2_with fail
    refine (contradiction_c _ _ _ RR.out KO.out.contr).mono ?_
    rintro e w3 ⟨o0, n0, d0, o1, n1, d1, rfl, hb3, hat⟩
    have HAT := Lib.hid hat
    rw [contrI KO.out]
    have hs3 := hs2.step hb3
    clear hat
    clear k0 k1 k2
    have hs5 := hs3.alloc #[.slice o0 n0 d0, .slice o1 n1 d1] 90 rfl
    have k0 := hs5.cellAt 0 rfl 0 rfl
    have k1 := hs5.cellAt 0 rfl 1 rfl
    have k2 := hs5.cellAt 0 rfl 2 rfl
    have m2 := hs5.cellAt 1 rfl 0 rfl
    have m3 := hs5.cellAt 1 rfl 1 rfl
    by_cases hf : 0 ≤ falseS (p, u, l)
    · rw [decide_eq_true hf]
      have HF := Lib.hid hf
      obtain ⟨hlt, hel⟩ := elim_badI KO.out hf
      have hrd := HAT.out _ hlt (by rw [contrI KO.out]; exact (falseS_lt hf).2)
      rw [hel] at hrd
      have HB := Lib.hid (KO.out.bad hf)
      have hN := HB.out.1.right
      have hp2 := KO.out.hp
      have hu2 := KO.out.hu
      have hl2 := KO.out.hl
      have hG := flat_good HB.out.1
      have hR : Hid (rightR (flat (badS (p, u, l))).1 = (badS (p, u, l)).2.1) := by simp [Hid, rightR, flat, List.getD]
      simp only at hN hp2 hu2 hl2
      have HRD := Lib.hid hrd
      have HG := Lib.hid hG
      have HX2 := Lib.hid (show refuteF (p, u, l) = ((timesR p (rightR (flat (badS (p, u, l))).1) (flat (badS (p, u, l)))).2, 0) by
        unfold refuteF; rw [if_pos HK.out, if_pos HF.out, hR.out, ← flat_scale]; rfl)
      rw [← hR.out] at hN
      clear hf hrd hel hG hlt
      generalize flat (badS (p, u, l)) = Y at *
      have HY5 := Lib.hid (Rd.mono HRD.out (belowA _ (.cells #[.slice o0 n0 d0, .slice o1 n1 d1] 90)))
      have z0 := (rd_cons rfl HRD.out).1
      have z1 := (rd_cons rfl HRD.out).2
      obtain ⟨a6, c6, e6, _⟩ := rd_list z0
      obtain ⟨a7, c7, e7, _⟩ := rd_list z1
      simp only [Value.slice.injEq] at e6 e7
      obtain ⟨rfl, rfl, rfl⟩ := e6
      obtain ⟨rfl, rfl, rfl⟩ := e7
      clear z0 z1
      have q0 := hs5.cellAt 1 rfl 0 rfl
      have q1 := hs5.cellAt 1 rfl 1 rfl
      generalize hRR : rightR Y.1 = RV at *
      have HRR := Lib.hid hRR
      clear hRR
      go_wp2_with fail
      refine wp_region_noPanic (wp_region_el (fun w' => w'.cell? ⟨w.heap.size, 0, none⟩ = some (.int .i64 p) ∧ w'.cell? ⟨w3.heap.size, 0, none⟩ = some (.slice o0 Y.1.length d0) ∧ w'.cell? ⟨w3.heap.size, 1, none⟩ = some (.slice o1 Y.2.length d1)) [(0, 0), (1, 0), (2, 0), (3, 0), (4, 1), (5, 1), (6, 1), (7, 0), (8, 0), (9, 0)] (by kernel_rfl) (by kernel_rfl) (by kernel_rfl) rfl ?_ (fun _ _ _ _ _ h => h) ?_)
      · exact ⟨k0, q0, q1⟩
      have hs6 := hs5.drew
      (repeat (first | (apply el_skip rfl (by rfl); try simp only [Act.put, List.setIfInBounds_toArray, List.set_cons_zero, List.set_cons_succ]) | (apply el_float rfl (by rfl); (· (intro w' hS; go_simp <;> with_reducible rfl)); (try simp only [Act.put, List.setIfInBounds_toArray, List.set_cons_zero, List.set_cons_succ]))))
      refine el_hard rfl (by rfl) (fun K hK => ?_)
      go_wp2_with (go_at_call 78; refine (right_c Y _ _ _ (Rd.mono HY5.out (belowD _)) (by rw [HG.out.1]; omega) (by rw [HG.out.1]; omega)).mono ?_; rintro e w5 ⟨rfl, hb5⟩)
      rw [HRR.out]
      have hs7 := hs6.step hb5
      refine ⟨⟨hs7.cellAt 0 rfl 0 rfl, hs7.cellAt 1 rfl 0 rfl, hs7.cellAt 1 rfl 1 rfl⟩, ?_⟩
      (repeat (first | (apply el_skip rfl (by rfl); try simp only [Act.put, List.setIfInBounds_toArray, List.set_cons_zero, List.set_cons_succ]) | (apply el_float rfl (by rfl); (· (intro w' hS; go_simp <;> with_reducible rfl)); (try simp only [Act.put, List.setIfInBounds_toArray, List.set_cons_zero, List.set_cons_succ]))))
      refine el_hard rfl (by rfl) (fun K hK => ?_)
      go_wp2_with (go_at_call 86; refine (inverse_c RV _).mono ?_; rintro e w6 ⟨rfl, rfl⟩)
      refine ⟨⟨hs7.cellAt 0 rfl 0 rfl, hs7.cellAt 1 rfl 0 rfl, hs7.cellAt 1 rfl 1 rfl⟩, ?_⟩
      (repeat (first | (apply el_skip rfl (by rfl); try simp only [Act.put, List.setIfInBounds_toArray, List.set_cons_zero, List.set_cons_succ]) | (apply el_float rfl (by rfl); (· (intro w' hS; go_simp <;> with_reducible rfl)); (try simp only [Act.put, List.setIfInBounds_toArray, List.set_cons_zero, List.set_cons_succ]))))
      refine el_hard rfl (by rfl) (fun K hK => ?_)
      go_wp2_with (go_at_call 85; refine (times_c p RV Y _ _ _ (Rd.mono (Rd.mono HY5.out (belowD _)) hb5) (by rw [HG.out.1]; omega) (by rw [HG.out.2.1]; omega) (by omega) (by omega) (by omega) (by omega) HG.out.2.2.1 HG.out.2.2.2).mono ?_; rintro e w7 ⟨x0, x1, rfl, fr, hb7⟩)
      have hs8 := hs7.step hb7
      have FR := Lib.hid (fresh_snd (α := List Int) (β := List Int) rfl fr)
      obtain ⟨a8, c8, rfl, _⟩ := rd_list FR.out.rd
      obtain ⟨a9, c9, rfl, _⟩ := rd_list (rd_cons rfl fr.rd).1
      clear fr
      have hfd : ∀ w : World, (Instr.field 90 (.agg #[.slice a9 (timesR p RV Y).1.length c9, .slice a8 (timesR p RV Y).2.length c8]) 1).run Try.prog w = .ok (.slice a8 (timesR p RV Y).2.length c8) w := fun _ => row_by _ _ _ _ _ _ _
      refine ⟨⟨hs8.cellAt 0 rfl 0 rfl, hs8.cellAt 1 rfl 0 rfl, hs8.cellAt 1 rfl 1 rfl⟩, ?_⟩
      (repeat (first | (apply el_skip rfl (by rfl); try simp only [Act.put, List.setIfInBounds_toArray, List.set_cons_zero, List.set_cons_succ]) | (apply el_float rfl (by rfl); (· (intro w' hS; go_simp <;> with_reducible rfl)); (try simp only [Act.put, List.setIfInBounds_toArray, List.set_cons_zero, List.set_cons_succ]))))
      refine el_nil (NoPanic.normal ?_)
      go_wp2_with fail
      refine bodyPost_ret (v := .tuple #[.slice a8 (timesR p RV Y).2.length c8, .int .i64 0]) (by simp [results, Try.results27, go_sem]) rfl ⟨.slice a8 (timesR p RV Y).2.length c8, ?_, ?_, hs8.bel⟩
      · rw [HX2.out]
      · rw [HX2.out]; exact FR.out.lower (by have := hs7.lo; have := hs7.hi; omega)
    · rw [decide_eq_false hf]
      have HF := Lib.hid hf
      clear hf
      go_wp2_with fail
      refine bodyPost_ret (v := .tuple #[.slice none 0 0, .int .i64 6]) (by simp [results, Try.results27, go_sem]) rfl ⟨.slice none 0 0, ?_, ?_, hs5.bel⟩
      · unfold refuteF; rw [if_pos HK.out, if_neg (by have := HF.out; omega)]
      · unfold refuteF; rw [if_pos HK.out, if_neg (by have := HF.out; omega)]; exact fresh_nil none
theorem ownInts_nodup {ps : List Nat} {w : World} {v : Value} {l : List Int} (h : OwnSl ps w v l) : ps.Nodup := by
  rcases h with ⟨_, rfl, _⟩ | ⟨g, o, c, cur, e, pss, _, _, _, _, rfl, h5, h6⟩
  · simp
  · have hps : List.flatten pss = [] := by
      rw [List.flatten_eq_nil_iff]
      intro p hp
      obtain ⟨j, hj, rfl⟩ := List.mem_iff_getElem.1 hp
      obtain ⟨p', vs, hp', hO, _⟩ := h6 j (by omega)
      rw [List.getElem?_eq_getElem hj] at hp'
      cases hp'
      exact hO.1
    rw [hps]; simp
set_option maxRecDepth 100000 in
set_option maxHeartbeats 2000000 in
theorem sRefuteSystem_c (x : Sys) (v0 v1 v2 : Value) (w : World) (hx : Rd w [v0, v1, v2] x) :
    Calls Try.prog 26 #[.agg #[v0, v1, v2]] w fun e w' => ∃ v, e = .returned (.tuple #[v, .int .i64 (refuteF x).2]) ∧ Fresh w.heap.size w' [v] (refuteF x).1 ∧ Below w.heap.size w w' := by
  obtain ⟨p, u, l⟩ := x
  have HX := Lib.hid hx
  have z := rd_cons rfl hx
  obtain ⟨rfl, _⟩ := rd_i1 z.1
  have z2 := rd_cons rfl z.2
  obtain ⟨rfl, _⟩ := rd_i1 z2.1
  obtain ⟨a, c, rfl, _⟩ := rd_list z2.2
  clear hx z z2
  have hs := (St.start w).alloc #[.int .i64 p, .int .i64 u, .slice a l.length c] 31 rfl
  go_enter Try.func26, Try.ntmps26
  go_wp2_with fail
  refine (l07Ok_c (p, u, l) _ _ _ _ _ (Rd.mono HX.out hs.bel) (hs.cellAt 0 rfl 0 rfl) (hs.cellAt 0 rfl 1 rfl) (hs.cellAt 0 rfl 2 rfl)).mono ?_
  rintro e w1 ⟨rfl, n1, rfl⟩
  have hs1 := hs.drewN n1
  cases hok : validS (p, u, l) with
  | false =>
    have HK := Lib.hid hok
    clear hok
    have hsz := hs1.alloc #[] 2 rfl
    go_wp2_with fail
    refine bodyPost_ret (v := .tuple #[.slice (some ⟨w.heap.size + 1, 0, none⟩) 0 0, .int .i64 1]) (by simp [results, Try.results26, go_sem]) rfl ⟨.slice (some ⟨w.heap.size + 1, 0, none⟩) 0 0, ?_, ?_, hsz.bel⟩
    · unfold refuteF; rw [HK.out]; rfl
    · unfold refuteF; rw [HK.out]; exact fresh_nil _
  | true =>
    have HK := Lib.hid hok
    have KO := Lib.hid (elim_ok hok)
    clear hok
    go_wp2_with fail
    refine (l07Reduce_c (p, u, l) _ _ _ _ _ (Rd.mono HX.out hs1.bel) (hs1.cellAt 0 rfl 0 rfl) (hs1.cellAt 0 rfl 1 rfl) (hs1.cellAt 0 rfl 2 rfl) HK.out).mono ?_
    rintro e w2 ⟨g4, c4, rfl, fr, hb2⟩
    have hs2 := hs1.step hb2
    have FR := Lib.hid fr
    clear fr
    have RR := Lib.hid FR.out.rd
    simp only at RR
    go_wp2_with fail
    refine (l07False_c (elimS (p, u, l)).1 _ _ _ RR.out (by rw [KO.out.len]; exact KO.out.le) (by have := KO.out.len; have := KO.out.hl; omega)).mono ?_
    rintro e w3 ⟨rfl, rfl⟩
    rw [show falseF (elimS (p, u, l)).1 (elimS (p, u, l)).2.length = falseS (p, u, l) from rfl]
    by_cases hf : 0 ≤ falseS (p, u, l)
    · have hlt := (falseS_lt hf).1
      have heq := (falseS_lt hf).2
      have HB := Lib.hid (show GoodS p u.toNat l.length (badS (p, u, l)) ∧ (badS (p, u, l)).2.1 ≠ 0 from KO.out.bad hf)
      have hbad : (elimS (p, u, l)).1[(falseS (p, u, l)).toNat] = badS (p, u, l) := by unfold badS; simp [List.getD, hlt]
      have HX2 := Lib.hid (show refuteF (p, u, l) = ((scaleS p (badS (p, u, l)).2.1 (badS (p, u, l))).2.2, 0) by
        unfold refuteF; rw [if_pos HK.out, if_pos hf])
      have hfr := Lib.hid (show Ip (fun z => w.heap.size ≤ z) w2.drew [.slice (some ⟨g4, 0, none⟩) l.length c4] (elimS (p, u, l)).1 from (Fresh.lower FR.out (by have := hs1.lo; have := hs1.hi; omega)).mono (belowD w2))
      have hlen := KO.out.len
      simp only at hlen
      have hp2 := KO.out.hp
      simp only at hp2
      have hN := HB.out.1.right
      have hp0 : 2 ≤ p := by omega
      have hp3 : p ≤ 3 := by omega
      obtain ⟨cur1, et, p0, p2, v0, v2, hrow, hpA, hgA, -⟩ := ip_row hfr.out (falseS (p, u, l)).toNat hlt
      rw [hbad] at hrow
      generalize badS (p, u, l) = Y at *
      rw [heq]
      generalize (falseS (p, u, l)).toNat = J at *
      have hkl : (J : Int) < l.length := by omega
      obtain ⟨a2, c2, ev2, _⟩ := rd_list (Rep.own_rd (α := List Int) (ps := p2) (vs := [v2]) ⟨v2, rfl, hrow.own2⟩)
      rw [HB.out.1.by_] at ev2
      subst ev2
      have j1 : w2.drew.cell? ⟨g4, J * 3 + 1, none⟩ = some (.int .i64 Y.2.1) := by rw [cell_at_block hrow.blk]; exact hrow.c1
      have k0 := (hs2.drew).cellAt 0 rfl 0 rfl
      have HROW := Lib.hid hrow
      have HPA := Lib.hid hpA
      have HGA := Lib.hid hgA
      clear hrow hpA hbad hf heq hlt hfr hgA hlen
      generalize hRV : Y.2.1 = RV at *
      have HRV := Lib.hid hRV
      clear hRV
      have hK0 : ¬ (J : Int) < 0 := by omega
      go_wp2_with fail
      refine wp_region_noPanic (wp_region_eb (fun w' => w'.cell? ⟨g4, J * 3 + 1, none⟩ = some (.int .i64 RV) ∧ w'.cell? ⟨w.heap.size, 0, none⟩ = some (.int .i64 p)) [0, 1, 2, 3, 4, 5, 6, 8] [(7, 0), (9, 0), (10, 2)] (by kernel_rfl) (by kernel_rfl) (by kernel_rfl) rfl (fun _ _ _ _ _ h => h) ?_)
      (repeat (apply ep_pure rfl (by rfl); (· (intro w'; go_simp <;> with_reducible rfl)); (try simp only [Act.put, List.setIfInBounds_toArray, List.set_cons_zero, List.set_cons_succ])))
      refine ep_nil ?_ ?_
      · exact ⟨j1, k0⟩
      (repeat (first | (apply eb_skip rfl (by rfl); try simp only [Act.put, List.setIfInBounds_toArray, List.set_cons_zero, List.set_cons_succ]) | (apply eb_float rfl (by rfl); (· (intro w' hS; go_simp <;> with_reducible rfl)); (try simp only [Act.put, List.setIfInBounds_toArray, List.set_cons_zero, List.set_cons_succ]))))
      refine eb_last rfl (by rfl) (fun K hK => ?_)
      go_wp2_with (go_at_call 84; refine (scale_c p RV Y g4 (J * 3) cur1 et p0 p2 _ _ _ HROW.out hp0 hp3 hN.1 (by omega) HB.out.1.res HB.out.1.right HB.out.1.resBy).mono ?_; rintro e wS ⟨rfl, hrS, hoS⟩)
      refine ⟨fun _ => True, trivial, ?_⟩
      (repeat (first | (apply eb_skip rfl (by rfl); try simp only [Act.put, List.setIfInBounds_toArray, List.set_cons_zero, List.set_cons_succ]) | (apply eb_float rfl (by rfl); (· (intro w' hS; go_simp <;> with_reducible rfl)); (try simp only [Act.put, List.setIfInBounds_toArray, List.set_cons_zero, List.set_cons_succ]))))
      refine eb_nil (NoPanic.normal ?_)
      have j2 : wS.cell? ⟨g4, J * 3 + 2, none⟩ = some (.slice a2 l.length c2) := by rw [cell_at_block hrS.blk]; exact hrS.c2
      have HRS := Lib.hid hrS.own2
      have hbS := Lib.hid (((hs2.drew).bel).trans (hoS.below (B := w.heap.size) (fun z hz => by
        rcases List.mem_cons.1 hz with rfl | hz
        · have := HGA.out; exact this
        · exact HPA.out z hz)))
      clear hrS hoS HROW
      go_wp2_with fail
      refine bodyPost_ret (v := .tuple #[.slice a2 l.length c2, .int .i64 0]) (by simp [results, Try.results26, go_sem]) rfl ⟨.slice a2 l.length c2, ?_, ?_, hbS.out⟩
      · rw [HX2.out]
      · rw [HX2.out]; exact ⟨p2, ⟨_, rfl, HRS.out⟩, ownInts_nodup HRS.out, fun k hk => HPA.out k (by simp [hk])⟩
    · have HF := Lib.hid hf
      have hm1 : falseS (p, u, l) < 0 := by omega
      clear hf
      have hsz := hs2.alloc #[] 2 rfl
      go_wp2_with fail
      refine bodyPost_ret (v := .tuple #[.slice (some ⟨w2.heap.size, 0, none⟩) 0 0, .int .i64 6]) (by simp [results, Try.results26, go_sem]) rfl ⟨.slice (some ⟨w2.heap.size, 0, none⟩) 0 0, ?_, ?_, hsz.bel⟩
      · unfold refuteF; rw [if_pos HK.out, if_neg (by have := HF.out; omega)]
      · unfold refuteF; rw [if_pos HK.out, if_neg (by have := HF.out; omega)]; exact fresh_nil _

end Go.Proofs.Ytkbeihkjhmillaa
