import Derived.Test.YtoblfnoaepbhfaaGreatSysBQb
import Derived.Test.YtoblfnoaepbhfaaGreatReducedQb
import Derived.Test.YtoblfnoaepbhfaaGreatRowBQb
import Derived.Test.YtoblfnoaepbhfaaGreatReduceSQb
import Derived.Test.YtoblfnoaepbhfaaGreatRowsBQb
import Derived.Test.YtoblfnoaepbhfaaGreatKindsQb
import Derived.Test.YtoblfnoaepbhfaaGreatBaseQb
set_option linter.unusedSimpArgs false
set_option linter.unusedVariables false
namespace Go.Proofs.YtoblfnoaepbhfaaGreat
open Go.RowKit Go.Shelf Go.IntWalk
open Rep (Rd Own sz)
end Go.Proofs.YtoblfnoaepbhfaaGreat
namespace Go.Proofs.YtoblfnoaepbhfaaGreat
open Go.RowKit Go.Shelf Go.IntWalk
open Rep (Rd Own sz)
end Go.Proofs.YtoblfnoaepbhfaaGreat
namespace Go.Proofs.YtoblfnoaepbhfaaGreat
open Go.RowKit Go.Shelf Go.IntWalk
open Rep (Rd Own sz)
theorem fresh_nil {α : Type} [Rep α] {lo : Nat} {w : World} (a : Option Addr) : Fresh lo w [.slice a 0 0] ([] : List α) :=
  ⟨[], ⟨_, rfl, .inl ⟨rfl, rfl, a, 0, rfl, Nat.zero_le _⟩⟩, by simp, by simp⟩
theorem row_by (a b : Option Addr) (n m c d : Nat) (w : World) : (Instr.field 223 (.agg #[.slice a n c, .slice b m d]) 1).run Tryz.prog w = .ok (.slice b m d) w := by kernel_rfl
theorem falseS_lt {s : Sys} (h : 0 ≤ falseS s) : (falseS s).toNat < (elimS s).1.length ∧ falseS s = (falseS s).toNat := ⟨(falseF_lt h).1, (falseF_lt h).2.1⟩
theorem elim_badI {s : Sys} (K : ElimOk s) (hf : 0 ≤ falseS s) : ∃ h : (falseS s).toNat < (elimI s).1.length, (elimI s).1[(falseS s).toNat] = flat (badS s) := by
  have h1 := (falseS_lt hf).1
  have hlt : (falseS s).toNat < (elimI s).1.length := by rw [K.flat]; simpa using h1
  refine ⟨hlt, ?_⟩
  have : (elimI s).1[(falseS s).toNat]? = some (flat (badS s)) := by
    rw [K.flat]
    unfold badS
    simp only [List.getElem?_map, List.getD, List.getElem?_eq_getElem h1, Option.map_some, Option.getD_some]
  rw [List.getElem?_eq_getElem hlt] at this
  simpa using this
set_option maxRecDepth 100000 in
set_option maxHeartbeats 2000000 in
theorem RefuteSystem_c (x : Sys) (v0 v1 v2 : Value) (w : World) (hx : Rd w [v0, v1, v2] x) :
    Calls Tryz.prog 89 #[.agg #[v0, v1, v2]] w fun e w' => ∃ v, e = .returned (.tuple #[v, .int .i64 (refuteF x).2]) ∧ Fresh w.heap.size w' [v] (refuteF x).1 ∧ Below w.heap.size w w' := by
  obtain ⟨p, u, l⟩ := x
  have HX := Lib.hid hx
  have z := rd_cons rfl hx
  obtain ⟨rfl, _⟩ := rd_i1 z.1
  have z2 := rd_cons rfl z.2
  obtain ⟨rfl, _⟩ := rd_i1 z2.1
  obtain ⟨a, c, rfl, _⟩ := rd_list z2.2
  clear hx z z2
  have hs := (St.start w).alloc #[.int .i64 p, .int .i64 u, .slice a l.length c] 61 rfl
  have k0 := hs.cellAt 0 rfl 0 rfl
  have k1 := hs.cellAt 0 rfl 1 rfl
  have k2 := hs.cellAt 0 rfl 2 rfl
  go_enter Tryz.func89, Tryz.ntmps89
  go_wp2_with fail
  refine (ValidSystem_c (p, u, l) _ _ _ _ (Rd.mono HX.out hs.bel)).mono ?_
  rintro e w1 ⟨rfl, hb1⟩
  have hs1 := hs.step hb1
  clear k0 k1 k2
  have k0 := hs1.cellAt 0 rfl 0 rfl
  have k1 := hs1.cellAt 0 rfl 1 rfl
  have k2 := hs1.cellAt 0 rfl 2 rfl
  cases hok : validS (p, u, l) with
  | false =>
    have HK := Lib.hid hok
    clear hok
    go_wp2_with fail
    refine bodyPost_ret (v := .tuple #[.slice none 0 0, .int .i64 1]) (by simp [results, Tryz.results89, go_sem]) rfl ⟨.slice none 0 0, ?_, ?_, hs1.bel⟩
    · unfold refuteF; rw [HK.out]; rfl
    · unfold refuteF; rw [HK.out]; exact fresh_nil none
  | true =>
    have HK := Lib.hid hok
    have KO := Lib.hid (elim_ok hok)
    clear hok
    go_wp2_with fail
    refine (reduced_c (p, u, l) _ _ _ _ (Rd.mono HX.out hs1.bel) HK.out).mono ?_
    rintro e w2 ⟨vr, vb, rfl, rr, rb, hb2⟩
    obtain ⟨ar, cr, rfl, _⟩ := rd_list rr
    obtain ⟨ab, cb, rfl, _⟩ := rd_list rb
    have RR := Lib.hid rr
    have RB := Lib.hid rb
    have hs2 := hs1.step hb2
    clear rr rb
    clear k0 k1 k2
    have k0 := hs2.cellAt 0 rfl 0 rfl
    have k1 := hs2.cellAt 0 rfl 1 rfl
    have k2 := hs2.cellAt 0 rfl 2 rfl
    go_wp2_with fail
    refine (contradiction_c _ _ _ RR.out KO.out.contr).mono ?_
    rintro e w3 ⟨o0, n0, d0, o1, n1, d1, rfl, hb3, hat⟩
    have HAT := Lib.hid hat
    rw [contrI KO.out]
    have hs3 := hs2.step hb3
    clear hat
    clear k0 k1 k2
    have hs5 := hs3.alloc #[.slice o0 n0 d0, .slice o1 n1 d1] 223 rfl
    have k0 := hs5.cellAt 0 rfl 0 rfl
    have k1 := hs5.cellAt 0 rfl 1 rfl
    have k2 := hs5.cellAt 0 rfl 2 rfl
    have m2 := hs5.cellAt 1 rfl 0 rfl
    have m3 := hs5.cellAt 1 rfl 1 rfl
    by_cases hf : 0 ≤ falseS (p, u, l)
    · rw [decide_eq_true hf]
      have HF := Lib.hid hf
      obtain ⟨hlt, hel⟩ := elim_badI KO.out hf
      have hrd := HAT.out _ hlt (by rw [contrI KO.out]; exact (falseS_lt hf).2)
      rw [hel] at hrd
      have HB := Lib.hid (KO.out.bad hf)
      have hN := HB.out.1.right
      have hp2 := KO.out.hp
      have hu2 := KO.out.hu
      have hl2 := KO.out.hl
      have hG := flat_good HB.out.1
      have hR : Hid (rightR (flat (badS (p, u, l))).1 = (badS (p, u, l)).2.1) := by simp [Hid, rightR, flat, List.getD]
      simp only at hN hp2 hu2 hl2
      have HRD := Lib.hid hrd
      have HG := Lib.hid hG
      have HX2 := Lib.hid (show refuteF (p, u, l) = ((timesR p (rightR (flat (badS (p, u, l))).1) (flat (badS (p, u, l)))).2, 0) by
        unfold refuteF; rw [if_pos HK.out, if_pos HF.out, hR.out, ← flat_scale]; rfl)
      rw [← hR.out] at hN
      clear hf hrd hel hG hlt
      generalize flat (badS (p, u, l)) = Y at *
      have HY5 := Lib.hid (Rd.mono HRD.out (belowA _ (.cells #[.slice o0 n0 d0, .slice o1 n1 d1] 223)))
      have z0 := (rd_cons rfl HRD.out).1
      have z1 := (rd_cons rfl HRD.out).2
      obtain ⟨a6, c6, e6, _⟩ := rd_list z0
      obtain ⟨a7, c7, e7, _⟩ := rd_list z1
      simp only [Value.slice.injEq] at e6 e7
      obtain ⟨rfl, rfl, rfl⟩ := e6
      obtain ⟨rfl, rfl, rfl⟩ := e7
      clear z0 z1
      have q0 := hs5.cellAt 1 rfl 0 rfl
      have q1 := hs5.cellAt 1 rfl 1 rfl
      generalize hRR : rightR Y.1 = RV at *
      have HRR := Lib.hid hRR
      clear hRR
      go_wp2_with fail
      refine wp_region_noPanic (wp_region_el (fun w' => w'.cell? ⟨w.heap.size, 0, none⟩ = some (.int .i64 p) ∧ w'.cell? ⟨w3.heap.size, 0, none⟩ = some (.slice o0 Y.1.length d0) ∧ w'.cell? ⟨w3.heap.size, 1, none⟩ = some (.slice o1 Y.2.length d1)) [(0, 0), (1, 0), (2, 0), (3, 0), (4, 1), (5, 1), (6, 1), (7, 0), (8, 0), (9, 0)] (by kernel_rfl) (by kernel_rfl) (by kernel_rfl) rfl ?_ (fun _ _ _ _ _ h => h) ?_)
      · exact ⟨k0, q0, q1⟩
      have hs6 := hs5.drew
      (repeat (first | (apply el_skip rfl (by rfl); try simp only [Act.put, sI, sZ, sS]) | (apply el_float rfl (by rfl); (· (intro w' hS; go_simp <;> with_reducible rfl)); (try simp only [Act.put, sI, sZ, sS]))))
      refine el_hard rfl (by rfl) (fun K hK => ?_)
      go_wp2_with (go_at_call 161; refine (right_c Y _ _ _ (Rd.mono HY5.out (belowD _)) (by rw [HG.out.1]; omega) (by rw [HG.out.1]; omega)).mono ?_; rintro e w5 ⟨rfl, hb5⟩)
      rw [HRR.out]
      have hs7 := hs6.step hb5
      refine ⟨⟨hs7.cellAt 0 rfl 0 rfl, hs7.cellAt 1 rfl 0 rfl, hs7.cellAt 1 rfl 1 rfl⟩, ?_⟩
      (repeat (first | (apply el_skip rfl (by rfl); try simp only [Act.put, sI, sZ, sS]) | (apply el_float rfl (by rfl); (· (intro w' hS; go_simp <;> with_reducible rfl)); (try simp only [Act.put, sI, sZ, sS]))))
      refine el_hard rfl (by rfl) (fun K hK => ?_)
      go_wp2_with (go_at_call 163; refine (inverse_c RV _).mono ?_; rintro e w6 ⟨rfl, rfl⟩)
      refine ⟨⟨hs7.cellAt 0 rfl 0 rfl, hs7.cellAt 1 rfl 0 rfl, hs7.cellAt 1 rfl 1 rfl⟩, ?_⟩
      (repeat (first | (apply el_skip rfl (by rfl); try simp only [Act.put, sI, sZ, sS]) | (apply el_float rfl (by rfl); (· (intro w' hS; go_simp <;> with_reducible rfl)); (try simp only [Act.put, sI, sZ, sS]))))
      refine el_hard rfl (by rfl) (fun K hK => ?_)
      go_wp2_with (go_at_call 162; refine (times_c p RV Y _ _ _ (Rd.mono (Rd.mono HY5.out (belowD _)) hb5) (by rw [HG.out.1]; omega) (by rw [HG.out.2.1]; omega) (by omega) (by omega) (by omega) (by omega) HG.out.2.2.1 HG.out.2.2.2).mono ?_; rintro e w7 ⟨x0, x1, rfl, fr, hb7⟩)
      have hs8 := hs7.step hb7
      have FR := Lib.hid (fresh_snd (α := List Int) (β := List Int) rfl fr)
      obtain ⟨a8, c8, rfl, _⟩ := rd_list FR.out.rd
      obtain ⟨a9, c9, rfl, _⟩ := rd_list (rd_cons rfl fr.rd).1
      clear fr
      have hfd : ∀ w : World, (Instr.field 223 (.agg #[.slice a9 (timesR p RV Y).1.length c9, .slice a8 (timesR p RV Y).2.length c8]) 1).run Tryz.prog w = .ok (.slice a8 (timesR p RV Y).2.length c8) w := fun _ => row_by _ _ _ _ _ _ _
      refine ⟨⟨hs8.cellAt 0 rfl 0 rfl, hs8.cellAt 1 rfl 0 rfl, hs8.cellAt 1 rfl 1 rfl⟩, ?_⟩
      (repeat (first | (apply el_skip rfl (by rfl); try simp only [Act.put, sI, sZ, sS]) | (apply el_float rfl (by rfl); (· (intro w' hS; go_simp <;> with_reducible rfl)); (try simp only [Act.put, sI, sZ, sS]))))
      refine el_nil (NoPanic.normal ?_)
      go_wp2_with fail
      refine bodyPost_ret (v := .tuple #[.slice a8 (timesR p RV Y).2.length c8, .int .i64 0]) (by simp [results, Tryz.results89, go_sem]) rfl ⟨.slice a8 (timesR p RV Y).2.length c8, ?_, ?_, hs8.bel⟩
      · rw [HX2.out]
      · rw [HX2.out]; exact FR.out.lower (by have := hs7.lo; have := hs7.hi; omega)
    · rw [decide_eq_false hf]
      have HF := Lib.hid hf
      clear hf
      go_wp2_with fail
      refine bodyPost_ret (v := .tuple #[.slice none 0 0, .int .i64 6]) (by simp [results, Tryz.results89, go_sem]) rfl ⟨.slice none 0 0, ?_, ?_, hs5.bel⟩
      · unfold refuteF; rw [if_pos HK.out, if_neg (by have := HF.out; omega)]
      · unfold refuteF; rw [if_pos HK.out, if_neg (by have := HF.out; omega)]; exact fresh_nil none
theorem ownInts_nodup {ps : List Nat} {w : World} {v : Value} {l : List Int} (h : OwnSl ps w v l) : ps.Nodup := by
  rcases h with ⟨_, rfl, _⟩ | ⟨g, o, c, cur, e, pss, _, _, _, _, rfl, h5, h6⟩
  · simp
  · have hps : List.flatten pss = [] := by
      rw [List.flatten_eq_nil_iff]
      intro p hp
      obtain ⟨j, hj, rfl⟩ := List.mem_iff_getElem.1 hp
      obtain ⟨p', vs, hp', hO, _⟩ := h6 j (by omega)
      rw [List.getElem?_eq_getElem hj] at hp'
      cases hp'
      exact hO.1
    rw [hps]; simp
set_option maxRecDepth 100000 in
set_option maxHeartbeats 2000000 in
theorem sRefuteSystem_c (x : Sys) (v0 v1 v2 : Value) (w : World) (hx : Rd w [v0, v1, v2] x) :
    Calls Tryz.prog 87 #[.agg #[v0, v1, v2]] w fun e w' => ∃ v, e = .returned (.tuple #[v, .int .i64 (refuteF x).2]) ∧ Fresh w.heap.size w' [v] (refuteF x).1 ∧ Below w.heap.size w w' := by
  obtain ⟨p, u, l⟩ := x
  have HX := Lib.hid hx
  have z := rd_cons rfl hx
  obtain ⟨rfl, _⟩ := rd_i1 z.1
  have z2 := rd_cons rfl z.2
  obtain ⟨rfl, _⟩ := rd_i1 z2.1
  obtain ⟨a, c, rfl, _⟩ := rd_list z2.2
  clear hx z z2
  have hs := (St.start w).alloc #[.int .i64 p, .int .i64 u, .slice a l.length c] 61 rfl
  go_enter Tryz.func87, Tryz.ntmps87
  go_wp2_with fail
  refine (l07Ok_c (p, u, l) _ _ _ _ _ (Rd.mono HX.out hs.bel) (hs.cellAt 0 rfl 0 rfl) (hs.cellAt 0 rfl 1 rfl) (hs.cellAt 0 rfl 2 rfl)).mono ?_
  rintro e w1 ⟨rfl, n1, rfl⟩
  have hs1 := hs.drewN n1
  cases hok : validS (p, u, l) with
  | false =>
    have HK := Lib.hid hok
    clear hok
    have hsz := hs1.alloc #[] 2 rfl
    go_wp2_with fail
    refine bodyPost_ret (v := .tuple #[.slice (some ⟨w.heap.size + 1, 0, none⟩) 0 0, .int .i64 1]) (by simp [results, Tryz.results87, go_sem]) rfl ⟨.slice (some ⟨w.heap.size + 1, 0, none⟩) 0 0, ?_, ?_, hsz.bel⟩
    · unfold refuteF; rw [HK.out]; rfl
    · unfold refuteF; rw [HK.out]; exact fresh_nil _
  | true =>
    have HK := Lib.hid hok
    have KO := Lib.hid (elim_ok hok)
    clear hok
    go_wp2_with fail
    refine (l07Reduce_c (p, u, l) _ _ _ _ _ (Rd.mono HX.out hs1.bel) (hs1.cellAt 0 rfl 0 rfl) (hs1.cellAt 0 rfl 1 rfl) (hs1.cellAt 0 rfl 2 rfl) HK.out).mono ?_
    rintro e w2 ⟨g4, c4, rfl, fr, hb2⟩
    have hs2 := hs1.step hb2
    have FR := Lib.hid fr
    clear fr
    have RR := Lib.hid FR.out.rd
    simp only at RR
    go_wp2_with fail
    refine (l07False_c (elimS (p, u, l)).1 _ _ _ RR.out (by rw [KO.out.len]; exact KO.out.le) (by have := KO.out.len; have := KO.out.hl; omega)).mono ?_
    rintro e w3 ⟨rfl, rfl⟩
    rw [show falseF (elimS (p, u, l)).1 (elimS (p, u, l)).2.length = falseS (p, u, l) from rfl]
    by_cases hf : 0 ≤ falseS (p, u, l)
    · have hlt := (falseS_lt hf).1
      have heq := (falseS_lt hf).2
      have HB := Lib.hid (show GoodS p u.toNat l.length (badS (p, u, l)) ∧ (badS (p, u, l)).2.1 ≠ 0 from KO.out.bad hf)
      have hbad : (elimS (p, u, l)).1[(falseS (p, u, l)).toNat] = badS (p, u, l) := by unfold badS; simp [List.getD, hlt]
      have HX2 := Lib.hid (show refuteF (p, u, l) = ((scaleS p (badS (p, u, l)).2.1 (badS (p, u, l))).2.2, 0) by
        unfold refuteF; rw [if_pos HK.out, if_pos hf])
      have hfr := Lib.hid (show Ip (fun z => w.heap.size ≤ z) w2.drew [.slice (some ⟨g4, 0, none⟩) l.length c4] (elimS (p, u, l)).1 from (Fresh.lower FR.out (by have := hs1.lo; have := hs1.hi; omega)).mono (belowD w2))
      have hlen := KO.out.len
      simp only at hlen
      have hp2 := KO.out.hp
      simp only at hp2
      have hN := HB.out.1.right
      have hp0 : 2 ≤ p := by omega
      have hp3 : p ≤ 3 := by omega
      obtain ⟨cur1, et, p0, p2, v0, v2, hrow, hpA, hgA, -⟩ := ip_row hfr.out (falseS (p, u, l)).toNat hlt
      rw [hbad] at hrow
      generalize badS (p, u, l) = Y at *
      rw [heq]
      generalize (falseS (p, u, l)).toNat = J at *
      have hkl : (J : Int) < l.length := by omega
      obtain ⟨a2, c2, ev2, _⟩ := rd_list (Rep.own_rd (α := List Int) (ps := p2) (vs := [v2]) ⟨v2, rfl, hrow.own2⟩)
      rw [HB.out.1.by_] at ev2
      subst ev2
      have j1 : w2.drew.cell? ⟨g4, J * 3 + 1, none⟩ = some (.int .i64 Y.2.1) := by rw [cell_at_block hrow.blk]; exact hrow.c1
      have k0 := (hs2.drew).cellAt 0 rfl 0 rfl
      have HROW := Lib.hid hrow
      have HPA := Lib.hid hpA
      have HGA := Lib.hid hgA
      clear hrow hpA hbad hf heq hlt hfr hgA hlen
      generalize hRV : Y.2.1 = RV at *
      have HRV := Lib.hid hRV
      clear hRV
      have hK0 : ¬ (J : Int) < 0 := by omega
      go_wp2_with fail
      refine wp_region_noPanic (wp_region_eb (fun w' => w'.cell? ⟨g4, J * 3 + 1, none⟩ = some (.int .i64 RV) ∧ w'.cell? ⟨w.heap.size, 0, none⟩ = some (.int .i64 p)) [0, 1, 2, 3, 4, 5, 6, 8] [(7, 0), (9, 0), (10, 2)] (by kernel_rfl) (by kernel_rfl) (by kernel_rfl) rfl (fun _ _ _ _ _ h => h) ?_)
      (repeat (apply ep_pure rfl (by rfl); (· (intro w'; go_simp <;> with_reducible rfl)); (try simp only [Act.put, sI, sZ, sS])))
      refine ep_nil ?_ ?_
      · exact ⟨j1, k0⟩
      (repeat (first | (apply eb_skip rfl (by rfl); try simp only [Act.put, sI, sZ, sS]) | (apply eb_float rfl (by rfl); (· (intro w' hS; go_simp <;> with_reducible rfl)); (try simp only [Act.put, sI, sZ, sS]))))
      refine eb_last rfl (by rfl) (fun K hK => ?_)
      go_wp2_with (go_at_call 157; refine (scale_c p RV Y g4 (J * 3) cur1 et p0 p2 _ _ _ HROW.out hp0 hp3 hN.1 (by omega) HB.out.1.res HB.out.1.right HB.out.1.resBy).mono ?_; rintro e wS ⟨rfl, hrS, hoS⟩)
      refine ⟨fun _ => True, trivial, ?_⟩
      (repeat (first | (apply eb_skip rfl (by rfl); try simp only [Act.put, sI, sZ, sS]) | (apply eb_float rfl (by rfl); (· (intro w' hS; go_simp <;> with_reducible rfl)); (try simp only [Act.put, sI, sZ, sS]))))
      refine eb_nil (NoPanic.normal ?_)
      have j2 : wS.cell? ⟨g4, J * 3 + 2, none⟩ = some (.slice a2 l.length c2) := by rw [cell_at_block hrS.blk]; exact hrS.c2
      have HRS := Lib.hid hrS.own2
      have hbS := Lib.hid (((hs2.drew).bel).trans (hoS.below (B := w.heap.size) (fun z hz => by
        rcases List.mem_cons.1 hz with rfl | hz
        · have := HGA.out; exact this
        · exact HPA.out z hz)))
      clear hrS hoS HROW
      go_wp2_with fail
      refine bodyPost_ret (v := .tuple #[.slice a2 l.length c2, .int .i64 0]) (by simp [results, Tryz.results87, go_sem]) rfl ⟨.slice a2 l.length c2, ?_, ?_, hbS.out⟩
      · rw [HX2.out]
      · rw [HX2.out]; exact ⟨p2, ⟨_, rfl, HRS.out⟩, ownInts_nodup HRS.out, fun k hk => HPA.out k (by simp [hk])⟩
    · have HF := Lib.hid hf
      have hm1 : falseS (p, u, l) < 0 := by omega
      clear hf
      have hsz := hs2.alloc #[] 2 rfl
      go_wp2_with fail
      refine bodyPost_ret (v := .tuple #[.slice (some ⟨w2.heap.size, 0, none⟩) 0 0, .int .i64 6]) (by simp [results, Tryz.results87, go_sem]) rfl ⟨.slice (some ⟨w2.heap.size, 0, none⟩) 0 0, ?_, ?_, hsz.bel⟩
      · unfold refuteF; rw [if_pos HK.out, if_neg (by have := HF.out; omega)]
      · unfold refuteF; rw [if_pos HK.out, if_neg (by have := HF.out; omega)]; exact fresh_nil _
end Go.Proofs.YtoblfnoaepbhfaaGreat
namespace Go.Proofs.YtoblfnoaepbhfaaGreat
open Go.RowKit Go.Shelf Go.IntWalk
open Rep (Rd Own sz)
theorem solveTo_length (rows : List SRow) (bs : List Int) (U : Nat) : ∀ j, (solveTo rows bs U j).length = U
  | 0 => by simp [solveTo]
  | j + 1 => by rw [solveTo, List.length_set]; exact solveTo_length rows bs U j
theorem elim_first {s : Sys} (K : ElimOk s) (j : Nat) (hj : j < (elimS s).2.length) (hr : j < (elimS s).1.length) : firstI (fun a => a != 0) (elimS s).1[j].1 = (elimS s).2[j] := by
  obtain ⟨b, hb, hbU⟩ := K.bs j hj
  have hlen := (K.good _ (List.getElem_mem hr)).len
  have hcol := K.rref.col j _ j _ (List.getElem?_eq_getElem hr) (List.getElem?_eq_getElem hj)
  have hlead := K.rref.lead j _ _ (List.getElem?_eq_getElem hr) (List.getElem?_eq_getElem hj)
  rw [hb] at hcol hlead ⊢
  rw [if_pos rfl, Int.toNat_natCast] at hcol
  have hbl : b < (elimS s).1[j].1.length := by omega
  refine firstI_at hbl (fun i hi hib => ?_) ?_
  · have := hlead i (by omega)
    simp only [List.getD, List.getElem?_eq_getElem hi, Option.getD_some] at this
    simp [this]
  · simp only [List.getD, List.getElem?_eq_getElem hbl, Option.getD_some] at hcol
    simp [hcol]
theorem elim_rowI {s : Sys} (K : ElimOk s) (j : Nat) (hj : j < (elimS s).1.length) (h : j < (elimI s).1.length) : (elimI s).1[j] = flat (elimS s).1[j] := by
  have : (elimI s).1[j]? = some (flat (elimS s).1[j]) := by
    rw [K.flat]
    simp only [List.getElem?_map, List.getElem?_eq_getElem hj, Option.map_some]
  rw [List.getElem?_eq_getElem h] at this
  simpa using this
set_option maxRecDepth 100000 in
set_option maxHeartbeats 4000000 in
theorem SolveSystem_c (x : Sys) (v0 v1 v2 : Value) (w : World) (hx : Rd w [v0, v1, v2] x) :
    Calls Tryz.prog 88 #[.agg #[v0, v1, v2]] w fun e w' => ∃ v, e = .returned (.tuple #[v, .int .i64 (solveF x).2]) ∧ Fresh w.heap.size w' [v] (solveF x).1 ∧ Below w.heap.size w w' := by
  obtain ⟨p, u, l⟩ := x
  have HX := Lib.hid hx
  have z := rd_cons rfl hx
  obtain ⟨rfl, _⟩ := rd_i1 z.1
  have z2 := rd_cons rfl z.2
  obtain ⟨rfl, _⟩ := rd_i1 z2.1
  obtain ⟨a, c, rfl, _⟩ := rd_list z2.2
  clear hx z z2
  have hs := (St.start w).alloc #[.int .i64 p, .int .i64 u, .slice a l.length c] 61 rfl
  have k0 := hs.cellAt 0 rfl 0 rfl
  have k1 := hs.cellAt 0 rfl 1 rfl
  have k2 := hs.cellAt 0 rfl 2 rfl
  go_enter Tryz.func88, Tryz.ntmps88
  go_wp2_with fail
  refine (ValidSystem_c (p, u, l) _ _ _ _ (Rd.mono HX.out hs.bel)).mono ?_
  rintro e w1 ⟨rfl, hb1⟩
  have hs1 := hs.step hb1
  clear k0 k1 k2
  have k0 := hs1.cellAt 0 rfl 0 rfl
  have k1 := hs1.cellAt 0 rfl 1 rfl
  have k2 := hs1.cellAt 0 rfl 2 rfl
  cases hok : validS (p, u, l) with
  | false =>
    have HK := Lib.hid hok
    clear hok
    go_wp2_with fail
    refine bodyPost_ret (v := .tuple #[.slice none 0 0, .int .i64 1]) (by simp [results, Tryz.results88, go_sem]) rfl ⟨.slice none 0 0, ?_, ?_, hs1.bel⟩
    · unfold solveF; rw [HK.out]; rfl
    · unfold solveF; rw [HK.out]; exact fresh_nil none
  | true =>
    have HK := Lib.hid hok
    have KO := Lib.hid (elim_ok hok)
    clear hok
    go_wp2_with fail
    refine (reduced_c (p, u, l) _ _ _ _ (Rd.mono HX.out hs1.bel) HK.out).mono ?_
    rintro e w2 ⟨vr, vb, rfl, rr, rb, hb2⟩
    have hfl := KO.out.flat
    obtain ⟨ar, cr, er, _⟩ := rd_list rr
    rw [show (elimI (p, u, l)).1.length = l.length from KO.out.rowsI.1] at er
    subst er
    obtain ⟨ab, cb, eb, _⟩ := rd_list rb
    rw [show (elimI (p, u, l)).2.length = (elimS (p, u, l)).2.length by rw [hfl]] at eb
    subst eb
    have RR := Lib.hid rr
    have RB := Lib.hid (show Rd w2 [.slice ab (elimS (p, u, l)).2.length cb] (elimS (p, u, l)).2 by
      have h2 : (elimI (p, u, l)).2 = (elimS (p, u, l)).2 := by rw [hfl]
      rw [← h2]; exact (by rw [h2]; rw [h2] at rb; exact rb))
    clear hfl
    have hs2 := hs1.step hb2
    clear rr rb
    clear k0 k1 k2
    have k0 := hs2.cellAt 0 rfl 0 rfl
    have k1 := hs2.cellAt 0 rfl 1 rfl
    have k2 := hs2.cellAt 0 rfl 2 rfl
    go_wp2_with fail
    refine (contradiction_c _ _ _ RR.out KO.out.contr).mono ?_
    rintro e w3 ⟨o0, n0, d0, o1, n1, d1, rfl, hb3, hat⟩
    have HAT := Lib.hid hat
    rw [contrI KO.out]
    have hs3 := hs2.step hb3
    clear hat
    clear k0 k1 k2
    have hs5 := hs3.alloc #[.slice o0 n0 d0, .slice o1 n1 d1] 223 rfl
    have k0 := hs5.cellAt 0 rfl 0 rfl
    have k1 := hs5.cellAt 0 rfl 1 rfl
    have k2 := hs5.cellAt 0 rfl 2 rfl
    have m2 := hs5.cellAt 1 rfl 0 rfl
    have m3 := hs5.cellAt 1 rfl 1 rfl
    by_cases hf : 0 ≤ falseS (p, u, l)
    · rw [decide_eq_true hf]
      have HF := Lib.hid hf
      clear hf
      go_wp2_with fail
      refine bodyPost_ret (v := .tuple #[.slice none 0 0, .int .i64 6]) (by simp [results, Tryz.results88, go_sem]) rfl ⟨.slice none 0 0, ?_, ?_, hs5.bel⟩
      · unfold solveF; rw [if_pos HK.out, if_pos HF.out]
      · unfold solveF; rw [if_pos HK.out, if_pos HF.out]; exact fresh_nil none
    · rw [decide_eq_false hf]
      have HF := Lib.hid hf
      have hu2 := KO.out.hu
      simp only at hu2
      have HSF := Lib.hid (show solveF (p, u, l) = (solveTo (elimS (p, u, l)).1 (elimS (p, u, l)).2 u.toNat (elimS (p, u, l)).2.length, 0) by
        unfold solveF; rw [if_pos HK.out, if_neg (by have := HF.out; omega)])
      obtain ⟨U, hU⟩ : ∃ U : Nat, u = U := ⟨u.toNat, by omega⟩
      subst hU
      have hb4 := Lib.hid (hb3.trans ((belowA w3 (.cells #[.slice o0 n0 d0, .slice o1 n1 d1] 223)).mono hb3.size))
      have RR2 := Lib.hid (Rd.mono RR.out hb4.out)
      have RB2 := Lib.hid (Rd.mono RB.out hb4.out)
      clear hf
      go_wp2_with (at_make; refine wpList_make_rep _ rfl _ _ 28 rfl E_ints (0 : Int) own0_int U (by omega) rfl rfl ?_; intro wM hownM hbM hzM)
      have hz3 : wM.heap.size = w3.heap.size + 1 + 1 := by simpa using hzM
      have hbM1 : Below (w3.heap.size + 1) (w3.alloc (.cells #[.slice o0 n0 d0, .slice o1 n1 d1] 223)) wM := by simpa using hbM
      have HOWN := Lib.hid (show OwnSl [w3.heap.size + 1] wM (.slice (some ⟨w3.heap.size + 1, 0, none⟩) U U) (List.replicate U (0 : Int)) by simpa using hownM)
      have hszA : (w3.alloc (.cells #[.slice o0 n0 d0, .slice o1 n1 d1] 223)).heap.size = w3.heap.size + 1 := by simp
      have HW := Lib.hid hs5.bel
      have hwlo : w.heap.size ≤ w3.heap.size := by have := hs3.lo; have := hs3.hi; omega
      have hle := KO.out.le
      have hll := KO.out.hl
      simp only at hle hll
      have HKO := KO
      clear hownM hbM hzM HF HAT hs hs1 hs2 hs3 hs5 hb1 hb2 hb3 hb4 k0 k1 k2 m2 m3 HX KO RR RB
      generalize hWA : w3.alloc (.cells #[.slice o0 n0 d0, .slice o1 n1 d1] 223) = WA at *
      clear hWA
      go_loopw [30] (fun i wl => ∃ j : Nat, j ≤ (elimS (p, (U : Int), l)).2.length ∧ i = .int .i64 j ∧ Hid (Below (w3.heap.size + 1) WA wl) ∧ Hid (OwnSl [w3.heap.size + 1] wl (.slice (some ⟨w3.heap.size + 1, 0, none⟩) U U) (solveTo (elimS (p, (U : Int), l)).1 (elimS (p, (U : Int), l)).2 U j))) (fun i _ => (elimS (p, (U : Int), l)).2.length - (intOf i).toNat)
      case atStart => exact ⟨0, Nat.zero_le _, rfl, hbM1, HOWN.out⟩
      case round =>
        obtain ⟨j, hj, rfl, hbl, hown⟩ := hrel
        have HBW : Below WA.heap.size WA wr := by rw [hszA]; exact hbl.out
        by_cases hlt : j < (elimS (p, (U : Int), l)).2.length
        · obtain ⟨bq, hbq, hbU⟩ := HKO.out.bs j hlt
          simp only [Int.toNat_natCast] at hbU
          have hjr : j < (elimS (p, (U : Int), l)).1.length := by rw [HKO.out.len]; simp only; omega
          have hjI : j < (elimI (p, (U : Int), l)).1.length := by rw [HKO.out.rowsI.1]; simp only; omega
          obtain ⟨b1, e1, rfl, q0, _⟩ := rd_int_at (Rd.mono RB2.out HBW) j hlt
          rw [hbq] at q0
          obtain ⟨b2, e2, y0, y1, rfl, f0, f1, hrow⟩ := rd_two_at rfl (Rd.mono RR2.out HBW) j hjI
          rw [elim_rowI HKO.out j hjr hjI] at hrow
          have hg := flat_good (HKO.out.good _ (List.getElem_mem hjr))
          have hgr := (HKO.out.good _ (List.getElem_mem hjr)).right
          have hrr : rightR (flat (elimS (p, (U : Int), l)).1[j]).1 = (elimS (p, (U : Int), l)).1[j].2.1 := by simp [rightR, flat, List.getD]
          have hst : solveTo (elimS (p, (U : Int), l)).1 (elimS (p, (U : Int), l)).2 U (j + 1) = (solveTo (elimS (p, (U : Int), l)).1 (elimS (p, (U : Int), l)).2 U j).set bq (elimS (p, (U : Int), l)).1[j].2.1 := by
            rw [solveTo]
            simp only [List.getD, List.getElem?_eq_getElem hlt, List.getElem?_eq_getElem hjr, Option.getD_some, hbq, Int.toNat_natCast]
          have z0 := (rd_cons rfl hrow).1
          have z1 := (rd_cons rfl hrow).2
          obtain ⟨a6, c6, e6, _⟩ := rd_list z0
          obtain ⟨a7, c7, e7, _⟩ := rd_list z1
          subst e6 e7
          have HRW := Lib.hid hrow
          have HST := Lib.hid hst
          have HG := Lib.hid hg
          have HRR := Lib.hid hrr
          clear hrow hst hg hrr z0 z1 hbq
          generalize (elimS (p, (U : Int), l)).1[j].2.1 = RV at *
          generalize flat (elimS (p, (U : Int), l)).1[j] = Y at *
          have hp2 := HKO.out.hp
          simp only at hp2 hgr
          have hjb : (j : Int) < (elimS (p, (U : Int), l)).2.length := by omega
          have hjl : (j : Int) < l.length := by omega
          have hbUi : (bq : Int) < U := by omega
          go_wp2_with fail
          refine (right_c Y _ _ _ HRW.out (by rw [HG.out.1]; omega) (by rw [HG.out.1]; simp only [Int.toNat_natCast]; omega)).mono ?_
          rintro e w5 ⟨rfl, hb5⟩
          rw [HRR.out]
          have hown5 := Lib.hid (ownSl_mono hown.out hb5)
          have hbl5 := Lib.hid (hbl.out.trans (hb5.mono (by have := hbl.out.size; omega)))
          obtain ⟨g', o', c', hv, hps, hc, hf, hI, hset⟩ := own_int_set hown5.out bq (by rw [solveTo_length]; exact hbU)
          rw [solveTo_length] at hv
          simp only [Value.slice.injEq, Option.some.injEq, Addr.mk.injEq, and_true] at hv
          obtain ⟨⟨rfl, rfl⟩, -, rfl⟩ := hv
          rw [Nat.zero_add] at hc hf hset
          have hN := hset RV ⟨by omega, by omega⟩
          rw [← HST.out] at hN
          have HN := Lib.hid hN
          clear hN hset hps HST
          go_wp2_with fail
          go_roundw
          case rel => exact ⟨j + 1, hlt, by go_num, hbl5.out.setCell (by simp) _, HN.out⟩
          case measure => simp [intOf]; omega
        · obtain rfl : j = (elimS (p, (U : Int), l)).2.length := by omega
          go_wp2_with fail
          refine bodyPost_ret (v := .tuple #[.slice (some ⟨w3.heap.size + 1, 0, none⟩) U U, .int .i64 0]) (by simp [results, Tryz.results88, go_sem]) rfl ⟨.slice (some ⟨w3.heap.size + 1, 0, none⟩) U U, ?_, ?_, ?_⟩
          · rw [HSF.out]
          · rw [HSF.out]
            exact ⟨[w3.heap.size + 1], ⟨_, rfl, by simpa using hown.out⟩, by simp, by simp; omega⟩
          · exact HW.out.trans (hbl.out.mono (by omega))
set_option maxRecDepth 100000 in
set_option maxHeartbeats 4000000 in
theorem sSolveSystem_c (x : Sys) (v0 v1 v2 : Value) (w : World) (hx : Rd w [v0, v1, v2] x) :
    Calls Tryz.prog 86 #[.agg #[v0, v1, v2]] w fun e w' => ∃ v, e = .returned (.tuple #[v, .int .i64 (solveF x).2]) ∧ Fresh w.heap.size w' [v] (solveF x).1 ∧ Below w.heap.size w w' := by
  obtain ⟨p, u, l⟩ := x
  have HX := Lib.hid hx
  have z := rd_cons rfl hx
  obtain ⟨rfl, _⟩ := rd_i1 z.1
  have z2 := rd_cons rfl z.2
  obtain ⟨rfl, _⟩ := rd_i1 z2.1
  obtain ⟨a, c, rfl, _⟩ := rd_list z2.2
  clear hx z z2
  have hs := (St.start w).alloc #[.int .i64 p, .int .i64 u, .slice a l.length c] 61 rfl
  go_enter Tryz.func86, Tryz.ntmps86
  go_wp2_with fail
  refine (l07Ok_c (p, u, l) _ _ _ _ _ (Rd.mono HX.out hs.bel) (hs.cellAt 0 rfl 0 rfl) (hs.cellAt 0 rfl 1 rfl) (hs.cellAt 0 rfl 2 rfl)).mono ?_
  rintro e w1 ⟨rfl, n1, rfl⟩
  have hs1 := hs.drewN n1
  cases hok : validS (p, u, l) with
  | false =>
    have HK := Lib.hid hok
    clear hok
    have hsz := hs1.alloc #[] 2 rfl
    go_wp2_with fail
    refine bodyPost_ret (v := .tuple #[.slice (some ⟨w.heap.size + 1, 0, none⟩) 0 0, .int .i64 1]) (by simp [results, Tryz.results86, go_sem]) rfl ⟨.slice (some ⟨w.heap.size + 1, 0, none⟩) 0 0, ?_, ?_, hsz.bel⟩
    · unfold solveF; rw [HK.out]; rfl
    · unfold solveF; rw [HK.out]; exact fresh_nil _
  | true =>
    have HK := Lib.hid hok
    have KO := Lib.hid (elim_ok hok)
    clear hok
    go_wp2_with fail
    refine (l07Reduce_c (p, u, l) _ _ _ _ _ (Rd.mono HX.out hs1.bel) (hs1.cellAt 0 rfl 0 rfl) (hs1.cellAt 0 rfl 1 rfl) (hs1.cellAt 0 rfl 2 rfl) HK.out).mono ?_
    rintro e w2 ⟨g4, c4, rfl, fr, hb2⟩
    have hs2 := hs1.step hb2
    have FR := Lib.hid fr
    clear fr
    have RR := Lib.hid FR.out.rd
    simp only at RR
    go_wp2_with fail
    refine (l07False_c (elimS (p, u, l)).1 _ _ _ RR.out (by rw [KO.out.len]; exact KO.out.le) (by have := KO.out.len; have := KO.out.hl; omega)).mono ?_
    rintro e w3 ⟨rfl, rfl⟩
    rw [show falseF (elimS (p, u, l)).1 (elimS (p, u, l)).2.length = falseS (p, u, l) from rfl]
    by_cases hf : 0 ≤ falseS (p, u, l)
    · have HF := Lib.hid hf
      have hsz := hs2.alloc #[] 2 rfl
      go_wp2_with fail
      refine bodyPost_ret (v := .tuple #[.slice (some ⟨w2.heap.size, 0, none⟩) 0 0, .int .i64 6]) (by simp [results, Tryz.results86, go_sem]) rfl ⟨.slice (some ⟨w2.heap.size, 0, none⟩) 0 0, ?_, ?_, hsz.bel⟩
      · unfold solveF; rw [if_pos HK.out, if_pos HF.out]
      · unfold solveF; rw [if_pos HK.out, if_pos HF.out]; exact fresh_nil _
    · have hm1 : falseS (p, u, l) < 0 := by omega
      have hu2 := KO.out.hu
      simp only at hu2
      have HSF := Lib.hid (show solveF (p, u, l) = (solveTo (elimS (p, u, l)).1 (elimS (p, u, l)).2 u.toNat (elimS (p, u, l)).2.length, 0) by
        unfold solveF; rw [if_pos HK.out, if_neg hf])
      obtain ⟨U, hU⟩ : ∃ U : Nat, u = U := ⟨u.toNat, by omega⟩
      subst hU
      have k1 := hs2.cellAt 0 rfl 1 rfl
      clear hf
      go_wp2_with (at_make; refine wpList_make_rep _ rfl _ _ 28 rfl E_ints (0 : Int) own0_int U (by omega) rfl rfl ?_; intro wM hownM hbM hzM)
      have HOWN := Lib.hid hownM
      have HW := Lib.hid (hs2.bel.trans (hbM.mono (by have := hs2.lo; have := hs2.hi; omega)))
      have hwlo : w.heap.size ≤ w2.heap.size := by have := hs2.lo; have := hs2.hi; omega
      have hle := KO.out.le
      have hll := KO.out.hl
      simp only at hle hll
      have HKO := KO
      have RM := Lib.hid RR
      have HW2 := Lib.hid hs2.bel
      have HBM := Lib.hid hbM
      clear hownM hm1 hs hs1 hs2 hb2 hbM k1 HX KO RR FR HW
      go_wp2_with fail
      go_loopw [7] (fun i wl => ∃ j : Nat, j ≤ (elimS (p, (U : Int), l)).2.length ∧ i = .int .i64 j ∧ Hid (Below w2.heap.size w2 wl) ∧ Hid (OwnSl [w2.heap.size] wl (.slice (some ⟨w2.heap.size, 0, none⟩) U U) (solveTo (elimS (p, (U : Int), l)).1 (elimS (p, (U : Int), l)).2 U j))) (fun i _ => (elimS (p, (U : Int), l)).2.length - (intOf i).toNat)
      case atStart => exact ⟨0, Nat.zero_le _, rfl, HBM.out, HOWN.out⟩
      case round =>
        obtain ⟨j, hj, rfl, hbl, hown⟩ := hrel
        by_cases hlt : j < (elimS (p, (U : Int), l)).2.length
        · obtain ⟨bq, hbq, hbU⟩ := HKO.out.bs j hlt
          simp only [Int.toNat_natCast] at hbU
          have hjr : j < (elimS (p, (U : Int), l)).1.length := by rw [HKO.out.len]; simp only; omega
          have hfi := elim_first HKO.out j hlt hjr
          rw [hbq] at hfi
          obtain ⟨b2, e2, y0, y1, y2, e4, f0, f1, f2, hrow⟩ := rd_three_at rfl (Rd.mono RM.out hbl.out) j hjr
          simp only [Option.some.injEq, Addr.mk.injEq, and_true] at e4
          obtain ⟨rfl, rfl⟩ := e4
          rw [Nat.zero_add] at f0 f1 f2
          have hg := HKO.out.good _ (List.getElem_mem hjr)
          have hgr := hg.right
          have hst : solveTo (elimS (p, (U : Int), l)).1 (elimS (p, (U : Int), l)).2 U (j + 1) = (solveTo (elimS (p, (U : Int), l)).1 (elimS (p, (U : Int), l)).2 U j).set bq (elimS (p, (U : Int), l)).1[j].2.1 := by
            rw [solveTo]
            simp only [List.getD, List.getElem?_eq_getElem hlt, List.getElem?_eq_getElem hjr, Option.getD_some, hbq, Int.toNat_natCast]
          have z0 := (rd_cons rfl hrow).1
          have z1 := (rd_cons rfl (rd_cons rfl hrow).2).1
          obtain ⟨a6, c6, e6, _⟩ := rd_list z0
          rw [hg.len] at e6
          simp only [Int.toNat_natCast] at e6
          subst e6
          obtain ⟨rfl, _⟩ := rd_i1 z1
          have HL := Lib.hid (show Rd wr [.slice a6 U c6] (elimS (p, (U : Int), l)).1[j].1 from z0)
          have HST := Lib.hid hst
          have HFI := Lib.hid hfi
          clear hrow hst hg z0 z1 hbq hfi f2
          generalize (elimS (p, (U : Int), l)).1[j].2.1 = RV at *
          generalize (elimS (p, (U : Int), l)).1[j].1 = Y at *
          have hp2 := HKO.out.hp
          simp only at hp2 hgr
          have hjb : (j : Int) < (elimS (p, (U : Int), l)).2.length := by omega
          have hjl : (j : Int) < l.length := by omega
          have hbUi : (bq : Int) < U := by omega
          obtain ⟨g', o', c', hv, hps, hc, hf, hI, hset⟩ := own_int_set hown.out bq (by rw [solveTo_length]; exact hbU)
          rw [solveTo_length] at hv
          simp only [Value.slice.injEq, Option.some.injEq, Addr.mk.injEq, and_true] at hv
          obtain ⟨⟨rfl, rfl⟩, -, rfl⟩ := hv
          rw [Nat.zero_add] at hc hf hset
          have hN := hset RV ⟨by omega, by omega⟩
          rw [← HST.out] at hN
          have HN := Lib.hid hN
          clear hN hset hps HST
          go_wp2_with fail
          refine wp_region_noPanic (wp_region_el (fun w' => w'.cell? ⟨g4, j * 3, none⟩ = some (.slice a6 U c6) ∧ w'.cell? ⟨g4, j * 3 + 1, none⟩ = some (.int .i64 RV)) [(0, 0), (1, 0), (2, 0), (3, 0), (4, 0), (5, 0), (7, 0), (8, 0), (9, 0), (10, 0), (11, 0), (6, 1), (12, 0), (13, 2)] (by kernel_rfl) (by kernel_rfl) (by kernel_rfl) rfl ?_ (fun _ _ _ _ _ h => h) ?_)
          · exact ⟨f0, f1⟩
          (repeat (first | (apply el_skip rfl (by rfl); try simp only [Act.put, sI, sZ, sS]) | (apply el_float rfl (by rfl); (· (intro w' hS; go_simp <;> with_reducible rfl)); (try simp only [Act.put, sI, sZ, sS]))))
          refine el_hard rfl (by rfl) (fun K hK => ?_)
          go_wp2_with (go_at_call 156; refine (l07First_c Y _ _ (Rd.mono HL.out (belowD _))).mono ?_; rintro e w5 ⟨rfl, rfl⟩)
          rw [HFI.out]
          refine ⟨⟨f0, f1⟩, ?_⟩
          (repeat (first | (apply el_skip rfl (by rfl); try simp only [Act.put, sI, sZ, sS]) | (apply el_float rfl (by rfl); (· (intro w' hS; go_simp <;> with_reducible rfl)); (try simp only [Act.put, sI, sZ, sS]))))
          refine el_last rfl (by rfl) (fun K hK => ?_)
          go_wp2_with fail
          refine el_nil (NoPanic.normal ?_)
          go_wp2_with fail
          go_roundw
          case rel => exact ⟨j + 1, hlt, by go_num, (hbl.out.trans ((belowD wr).mono hbl.out.size)).setCell (by simp) _, ownSl_heap HN.out rfl⟩
          case measure => simp [intOf]; omega
        · obtain rfl : j = (elimS (p, (U : Int), l)).2.length := by omega
          go_wp2_with fail
          refine bodyPost_ret (v := .tuple #[.slice (some ⟨w2.heap.size, 0, none⟩) U U, .int .i64 0]) (by simp [results, Tryz.results86, go_sem]) rfl ⟨.slice (some ⟨w2.heap.size, 0, none⟩) U U, ?_, ?_, ?_⟩
          · rw [HSF.out]
          · rw [HSF.out]
            exact ⟨[w2.heap.size], ⟨_, rfl, by simpa using hown.out⟩, by simp, by simp; omega⟩
          · exact HW2.out.trans (hbl.out.mono hwlo)
end Go.Proofs.YtoblfnoaepbhfaaGreat
namespace Go.Proofs.YtoblfnoaepbhfaaGreat
open Go.RowKit Go.Shelf Go.IntWalk
open Rep (Rd Own sz)
def eqnOf (r : SRow) : Eqn := (r.1, r.2.1)
def redTo (rows : List SRow) (j : Nat) : List Eqn := (rows.take j).map eqnOf
theorem redTo_succ (rows : List SRow) (j : Nat) (h : j < rows.length) : redTo rows (j + 1) = redTo rows j ++ [eqnOf rows[j]] := by
  unfold redTo; rw [List.take_succ_eq_append_getElem h, List.map_append]; rfl
theorem redTo_length (rows : List SRow) (j : Nat) (h : j ≤ rows.length) : (redTo rows j).length = j := by simp [redTo]; omega
theorem rd_take {α : Type} [Rep α] {w : World} {a : Option Addr} {n c : Nat} {l : List α} (h : Rd w [.slice a n c] l) (m : Nat) (hm : m ≤ l.length) : Rd w [.slice a m c] (l.take m) := by
  obtain ⟨a', c', e, hr⟩ := rd_list h
  simp only [Value.slice.injEq] at e
  obtain ⟨rfl, -, rfl⟩ := e
  have := mk_rd (rdSl_take hr m)
  rw [List.length_take, Nat.min_eq_left hm] at this
  exact this
theorem reducedF_no {s : Sys} (h : ¬ 0 ≤ falseS s) : reducedF s = (s.1, s.2.1, redTo (elimS s).1 (elimS s).2.length) := by
  unfold reducedF; rw [if_neg h]; rfl
theorem reducedF_yes {s : Sys} (h : 0 ≤ falseS s) : reducedF s = (s.1, s.2.1, [(List.replicate s.2.1.toNat 0, 1)]) := by
  unfold reducedF; rw [if_pos h]
theorem own_eqn1 {w : World} {g c : Nat} {e : TypeId} {v : Value} {n : Int} {l : List Int} {ps : List Nat} (hb : w.heap[g]? = some (.cells #[v, .int .i64 n] e (0, 0))) (ho : OwnSl ps w v l) (hn : I64 n) (hc : 1 ≤ c) (hm : c ≤ maxLen) :
    OwnSl (g :: ps) w (.slice (some ⟨g, 0, none⟩) 1 c) [((l, n) : Eqn)] := by
  refine .inr ⟨g, 0, c, _, e, [ps], rfl, hc, hm, hb, by simp, rfl, fun i hi => ?_⟩
  obtain rfl : i = 0 := by simp at hi; omega
  refine ⟨ps, [v, .int .i64 n], rfl, by have h := mk_own (q := []) (x := l) (y := n) (w := w) (p := ps) ⟨v, rfl, ho⟩ ⟨rfl, rfl, hn⟩; rw [List.append_nil] at h; exact h, fun k hk => ?_⟩
  match k, hk with
  | 0, _ => simp
  | 1, _ => simp
set_option maxRecDepth 100000 in
set_option maxHeartbeats 8000000 in
theorem reducedSystemW_c (x : Sys) (v0 v1 v2 : Value) (w : World) (hx : Rd w [v0, v1, v2] x) (hok : wideS x = true) :
    Calls Tryz.prog 275 #[.agg #[v0, v1, v2]] w fun e w' => ∃ a n c, e = .returned (.agg #[.int .i64 x.1, .int .i64 x.2.1, .slice a n c]) ∧ Fresh w.heap.size w' [.int .i64 x.1, .int .i64 x.2.1, .slice a n c] (reducedF x) ∧ Below w.heap.size w w' := by
  obtain ⟨p, u, l⟩ := x
  have HX := Lib.hid hx
  have z := rd_cons rfl hx
  obtain ⟨rfl, hIp⟩ := rd_i1 z.1
  have z2 := rd_cons rfl z.2
  obtain ⟨rfl, hIu⟩ := rd_i1 z2.1
  obtain ⟨a, c, rfl, _⟩ := rd_list z2.2
  have HK := Lib.hid hok
  have KO := Lib.hid (elimW_ok hok)
  clear hx z z2 hok
  have hu2 := KO.out.hu
  simp only at hu2
  obtain ⟨U, hU⟩ : ∃ U : Nat, u = U := ⟨u.toNat, by omega⟩
  subst hU
  have hs1 := (((St.start w).alloc #[.int .i64 p, .int .i64 U, .slice a l.length c] 61 rfl).alloc #[.int .i64 0, .int .i64 0, .slice none 0 0] 61 (n := w.heap.size + 1) (by simp)).alloc #[.int .i64 p, .int .i64 U, .slice none 0 0] 61 (n := w.heap.size + 1 + 1) (by simp)
  have k0 := hs1.cellAt 0 rfl 0 rfl
  have k1 := hs1.cellAt 0 rfl 1 rfl
  have k2 := hs1.cellAt 0 rfl 2 rfl
  go_enter Tryz.func275, Tryz.ntmps275
  go_wp2_with fail
  refine (reduced_f (p, (U : Int), l) _ _ _ _ (Rd.mono HX.out hs1.bel) HK.out).mono ?_
  rintro e w2 ⟨vr, vb, rfl, frr, frb, hb2⟩
  have rr := frr.rd
  have rb := frb.rd
  have hfl := KO.out.flat
  obtain ⟨ar, cr, er, _⟩ := rd_list rr
  rw [show (elimI (p, (U : Int), l)).1.length = l.length from KO.out.rowsI.1] at er
  subst er
  obtain ⟨ab, cb, eb, _⟩ := rd_list rb
  rw [show (elimI (p, (U : Int), l)).2.length = (elimS (p, (U : Int), l)).2.length by rw [hfl]] at eb
  subst eb
  have RR := Lib.hid rr
  have RB := Lib.hid (show Rd w2 [.slice ab (elimS (p, (U : Int), l)).2.length cb] (elimS (p, (U : Int), l)).2 by
    have h2 : (elimI (p, (U : Int), l)).2 = (elimS (p, (U : Int), l)).2 := by rw [hfl]
    rw [← h2]; exact (by rw [h2]; rw [h2] at rb; exact rb))
  clear hfl
  have hs2 := hs1.step hb2
  have JR := Lib.hid (Fresh.iv (frr.lower (lo' := w.heap.size + 1 + 1 + 1) (by simp)))
  clear rr rb frr frb
  clear k0 k1 k2
  have k0 := hs2.cellAt 0 rfl 0 rfl
  have k1 := hs2.cellAt 0 rfl 1 rfl
  have k2 := hs2.cellAt 0 rfl 2 rfl
  go_wp2_with fail
  refine (contradiction_c _ _ _ RR.out KO.out.contr).mono ?_
  rintro e w3 ⟨o0, n0, d0, o1, n1, d1, rfl, hb3, hat⟩
  have HAT := Lib.hid hat
  rw [contrI KO.out]
  have hs3 := hs2.step hb3
  clear hat
  clear k0 k1 k2
  have hs5 := hs3.alloc #[.slice o0 n0 d0, .slice o1 n1 d1] 223 rfl
  have k0 := hs5.cellAt 0 rfl 0 rfl
  have k1 := hs5.cellAt 0 rfl 1 rfl
  have k2 := hs5.cellAt 0 rfl 2 rfl
  by_cases hf : 0 ≤ falseS (p, (U : Int), l)
  · rw [decide_eq_true hf]
    have HF := Lib.hid hf
    have hlo : w.heap.size + 1 + 1 + 1 ≤ w3.heap.size := by have := hs3.hi; simpa using this
    clear hf
    go_wp2_with (at_make; refine wpList_make_rep _ rfl _ _ 28 rfl E_ints (0 : Int) own0_int U (by omega) rfl rfl ?_; intro wM hownM hbM hzM; (have hzz : wM.heap.size = w3.heap.size + 1 + 1 := by simpa using hzM); have hs6 := hs5.step hbM; have hs7 := hs6.alloc #[.slice (some ⟨w3.heap.size + 1, 0, none⟩) U U, .int .i64 1] 200 (n := w3.heap.size + 1 + 1) hzz.symm; have f2 := hs7.freeAt 2 rfl 2; have t2 := hs7.cellAt 2 rfl 2 rfl; have hs8 := hs7.set (p := [_, _]) (by simp <;> omega) 2 (.slice (some ⟨w3.heap.size + 1 + 1, 0, none⟩) 1 1); have t20 := hs8.cellAt 2 rfl 0 rfl; have t21 := hs8.cellAt 2 rfl 1 rfl; have t22 := hs8.cellAt 2 rfl 2 rfl; have g0 := hs8.freeAt 1 rfl 0; have g1 := hs8.freeAt 1 rfl 1; have g2 := hs8.freeAt 1 rfl 2; have y0 := hs8.cellAt 1 rfl 0 rfl; have y1 := hs8.cellAt 1 rfl 1 rfl; have y2 := hs8.cellAt 1 rfl 2 rfl)
    have hs9 := ((hs8.set (p := [_]) (by simp <;> omega) 0 (.int .i64 p)).set (p := [_]) (by simp <;> omega) 1 (.int .i64 U)).set (p := [_]) (by simp <;> omega) 2 (.slice (some ⟨w3.heap.size + 1 + 1, 0, none⟩) 1 1)
    have x0 := hs9.cellAt 1 rfl 0 rfl
    have x1 := hs9.cellAt 1 rfl 1 rfl
    have x2 := hs9.cellAt 1 rfl 2 rfl
    refine bodyPost_ret (v := .agg #[.int .i64 p, .int .i64 U, .slice (some ⟨w3.heap.size + 1 + 1, 0, none⟩) 1 1]) (by simp [results, Tryz.results275, go_sem, x0, x1, x2]) rfl ⟨_, _, _, rfl, ?_, hs9.bel⟩
    rw [reducedF_yes HF.out]
    have hownM' : OwnSl [w3.heap.size + 1] wM (.slice (some ⟨w3.heap.size + 1, 0, none⟩) U U) (List.replicate U (0 : Int)) := by simpa using hownM
    have h7 := own_eqn1 (c := 1) (n := 1) (heap_alloc_at wM (.cells #[.slice (some ⟨w3.heap.size + 1, 0, none⟩) U U, .int .i64 1] 200) hzz) (ownSl_mono hownM' (belowA wM _)) ⟨by decide, by decide⟩ (Nat.le_refl _) (by decide)
    have ho := ((((OnlyAt.refl [w.heap.size + 1, w.heap.size + 1 + 1] (wM.alloc (.cells #[.slice (some ⟨w3.heap.size + 1, 0, none⟩) U U, .int .i64 1] 200))).setCell (p := ⟨w.heap.size + 1 + 1, 2, none⟩) (by simp) (.slice (some ⟨w3.heap.size + 1 + 1, 0, none⟩) 1 1)).setCell (p := ⟨w.heap.size + 1, 0, none⟩) (by simp) (.int .i64 p)).setCell (p := ⟨w.heap.size + 1, 1, none⟩) (by simp) (.int .i64 U)).setCell (p := ⟨w.heap.size + 1, 2, none⟩) (by simp) (.slice (some ⟨w3.heap.size + 1 + 1, 0, none⟩) 1 1)
    exact ⟨_, mk_own (p := []) ⟨rfl, rfl, hIp⟩ (mk_own (p := []) ⟨rfl, rfl, hIu⟩ ⟨_, rfl, ownSl_only h7 ho (by simp; omega)⟩), by simp, by simp; omega⟩
  · rw [decide_eq_false hf]
    have HF := Lib.hid hf
    have HRF := Lib.hid (reducedF_no hf)
    have hlo : w.heap.size + 1 + 1 + 1 ≤ w3.heap.size := by have := hs3.hi; simpa using this
    have hb4 := Lib.hid (hb3.trans ((belowA w3 (.cells #[.slice o0 n0 d0, .slice o1 n1 d1] 223)).mono hb3.size))
    have RR2 := Lib.hid (Rd.mono RR.out hb4.out)
    have JR2 := Lib.hid (Iv.mono JR.out hb4.out)
    have hz2 : w2.heap.size ≤ w3.heap.size := hb3.size
    have hszA : (w3.alloc (.cells #[.slice o0 n0 d0, .slice o1 n1 d1] 223)).heap.size = w3.heap.size + 1 := by simp
    have HKO := KO
    have hle := KO.out.le
    have hll := KO.out.hl
    have hp2 := KO.out.hp
    simp only at hle hll hp2
    have hs6 := Lib.hid (St.sub (bx' := [(w.heap.size, #[.int .i64 p, .int .i64 U, .slice a l.length c], 61), (w.heap.size + 1, #[.int .i64 0, .int .i64 0, .slice none 0 0], 61), (w.heap.size + 1 + 1, #[.int .i64 p, .int .i64 U, .slice none 0 0], 61)]) hs5 (fun x hx => by simp at hx ⊢; rcases hx with rfl | rfl | rfl <;> simp))
    obtain ⟨_, _, e6, hrr⟩ := rd_list RR2.out
    rw [show (elimI (p, (U : Int), l)).1.length = l.length from HKO.out.rowsI.1] at e6
    simp only [Value.slice.injEq] at e6
    obtain ⟨rfl, -, rfl⟩ := e6
    have hcr : (elimS (p, (U : Int), l)).2.length ≤ cr := by have := (rdSl_len hrr).1; rw [show (elimI (p, (U : Int), l)).1.length = l.length from HKO.out.rowsI.1] at this; omega
    have hcr2 : ((elimS (p, (U : Int), l)).2.length : Int) ≤ cr := by omega
    clear hf JR HAT hs1 hs2 hs3 hs5 hb2 hb3 hb4 k0 k1 k2 HX KO RR RB hrr
    go_wp2_with fail
    generalize hWA : w3.alloc (.cells #[.slice o0 n0 d0, .slice o1 n1 d1] 223) = WA at *
    clear hWA
    go_loopw [38] (fun i wl => ∃ (j : Nat) (va : Option Addr) (vc : Nat), j ≤ (elimS (p, (U : Int), l)).2.length ∧ i = .int .i64 j ∧ Hid (St w (w3.heap.size + 1) wl [(w.heap.size, #[.int .i64 p, .int .i64 U, .slice a l.length c], 61), (w.heap.size + 1, #[.int .i64 0, .int .i64 0, .slice none 0 0], 61), (w.heap.size + 1 + 1, #[.int .i64 p, .int .i64 U, .slice va j vc], 61)]) ∧ Hid (Acc (w3.heap.size + 1) wl.heap.size 200 wl (.slice va j vc) (redTo (elimS (p, (U : Int), l)).1 j)) ∧ Hid (Iv (w.heap.size + 1 + 1 + 1) w2.heap.size wl [.slice ar l.length cr] (elimI (p, (U : Int), l)).1)) (fun i _ => (elimS (p, (U : Int), l)).2.length - (intOf i).toNat)
    case atStart => exact ⟨0, none, 0, Nat.zero_le _, rfl, hs6.out, Acc.nil _ _ _ _, JR2.out⟩
    case round =>
      obtain ⟨j, va, vc, hj, rfl, hst, hac, hbl⟩ := hrel
      have hszw := hst.out.hi
      by_cases hlt : j < (elimS (p, (U : Int), l)).2.length
      · have hjr : j < (elimS (p, (U : Int), l)).1.length := by rw [HKO.out.len]; simp only; omega
        have hjI : j < (elimI (p, (U : Int), l)).1.length := by rw [HKO.out.rowsI.1]; simp only; omega
        have hRT := Lib.hid (Iv.rd hbl.out)
        obtain ⟨b2, e2, y0, y1, rfl, f0, f1, hrow⟩ := rd_two_at rfl hRT.out j hjI
        rw [elim_rowI HKO.out j hjr hjI] at hrow
        have hgd := HKO.out.good _ (List.getElem_mem hjr)
        have hgr := hgd.right
        have hg := flat_good hgd
        have hrr : rightR (flat (elimS (p, (U : Int), l)).1[j]).1 = (elimS (p, (U : Int), l)).1[j].2.1 := by simp [rightR, flat, List.getD]
        have hst2 := redTo_succ (elimS (p, (U : Int), l)).1 j hjr
        have hlj := redTo_length (elimS (p, (U : Int), l)).1 j (by omega)
        have hlen := hgd.len
        have htk : (flat (elimS (p, (U : Int), l)).1[j]).1.take U = (elimS (p, (U : Int), l)).1[j].1 := by
          simp only [Int.toNat_natCast] at hlen
          unfold flat
          rw [List.take_append_of_le_length (by omega), List.take_of_length_le (by omega)]
        simp only [Int.toNat_natCast] at hg hlen
        have z0 := (rd_cons rfl hrow).1
        have z1 := (rd_cons rfl hrow).2
        obtain ⟨a6, c6, e6, hr6⟩ := rd_list z0
        have hcap : U + 1 ≤ c6 := by have := (rdSl_len hr6).1; rw [hg.1] at this; exact this
        rw [hg.1] at e6
        obtain ⟨a7, c7, e7, _⟩ := rd_list z1
        rw [hg.2.1] at e7
        subst e6 e7
        have hl1 := rd_take z0 U (by rw [hg.1]; omega)
        rw [htk] at hl1
        have HL := Lib.hid hl1
        have HRW := Lib.hid hrow
        have HST := Lib.hid hst2
        have HG := Lib.hid hg
        have HRR := Lib.hid hrr
        have HLJ := Lib.hid hlj
        have HLEN := Lib.hid hlen
        clear hrow hst2 hg hrr z0 z1 hr6 hl1 htk hlj hlen hgd
        have heq : eqnOf (elimS (p, (U : Int), l)).1[j] = ((elimS (p, (U : Int), l)).1[j].1, (elimS (p, (U : Int), l)).1[j].2.1) := rfl
        rw [heq] at HST
        clear heq
        generalize flat (elimS (p, (U : Int), l)).1[j] = Y at *
        generalize (elimS (p, (U : Int), l)).1[j].2.1 = RV at *
        generalize (elimS (p, (U : Int), l)).1[j].1 = Y1 at *
        simp only at hgr
        have hjb : (j : Int) < (elimS (p, (U : Int), l)).2.length := by omega
        have hjl : (j : Int) < l.length := by omega
        have hcap2 : (U : Int) ≤ c6 := by omega
        have hIR : I64 RV := ⟨by omega, by omega⟩
        have hq := hst.out.alloc #[.slice a6 (U + 1) c6, .slice a7 l.length c7] 223 rfl
        have hqd := hq.drew
        go_wp2_with fail
        refine wp_region_noPanic (wp_region_el (fun w' => w'.cell? ⟨w.heap.size + 1 + 1, 2, none⟩ = some (.slice va j vc) ∧ w'.cell? ⟨wr.heap.size, 0, none⟩ = some (.slice a6 (U + 1) c6) ∧ w'.cell? ⟨wr.heap.size, 1, none⟩ = some (.slice a7 l.length c7) ∧ w'.cell? ⟨w.heap.size, 1, none⟩ = some (.int .i64 U)) [(0, 0), (1, 0), (2, 0), (3, 0), (4, 0), (5, 0), (6, 0), (8, 0), (7, 1), (9, 1), (10, 0), (11, 1), (12, 1), (13, 0), (14, 2)] (by kernel_rfl) (by kernel_rfl) (by kernel_rfl) rfl ?_ (fun _ _ _ _ _ h => h) ?_)
        · exact ⟨hqd.cellAt 2 rfl 2 rfl, hqd.cellAt 3 rfl 0 rfl, hqd.cellAt 3 rfl 1 rfl, hqd.cellAt 0 rfl 1 rfl⟩
        (repeat (first | (apply el_skip rfl (by rfl); try simp only [Act.put, sI, sZ, sS]) | (apply el_float rfl (by rfl); (· (intro w' hS; go_simp <;> with_reducible rfl)); (try simp only [Act.put, sI, sZ, sS]))))
        refine el_hard rfl (by rfl) (fun K hK => ?_)
        go_wp2_with (go_at_call 121; refine (cloneIntsA_c Y1 _ _ (Rd.mono HL.out ((belowA wr _).trans (belowD _ |>.mono (by simp)))) (by rw [HLEN.out]; omega)).mono ?_; rintro e w4 ⟨b4, rfl, hA4, hb4⟩)
        have hq4 := hqd.step hb4
        obtain ⟨m4, n4, rfl, _⟩ := hA4.len
        have HA4 := Lib.hid hA4
        clear hA4
        refine ⟨⟨hq4.cellAt 2 rfl 2 rfl, hq4.cellAt 3 rfl 0 rfl, hq4.cellAt 3 rfl 1 rfl, hq4.cellAt 0 rfl 1 rfl⟩, ?_⟩
        (repeat (first | (apply el_skip rfl (by rfl); try simp only [Act.put, sI, sZ, sS]) | (apply el_float rfl (by rfl); (· (intro w' hS; go_simp <;> with_reducible rfl)); (try simp only [Act.put, sI, sZ, sS]))))
        refine el_hard rfl (by rfl) (fun K hK => ?_)
        have HRW4 := Lib.hid (Rd.mono HRW.out (((belowA wr (.cells #[.slice a6 (U + 1) c6, .slice a7 l.length c7] 223)).trans (belowD _ |>.mono (by simp))).trans (hb4.mono (by simp))))
        go_wp2_with (go_at_call 161; refine (right_c Y _ _ _ HRW4.out (by rw [HG.out.1]; omega) (by rw [HG.out.1]; omega)).mono ?_; rintro e w5 ⟨rfl, hb5⟩)
        rw [HRR.out]
        have hq5 := hq4.step hb5
        have hz45 := hb5.size
        refine ⟨⟨hq5.cellAt 2 rfl 2 rfl, hq5.cellAt 3 rfl 0 rfl, hq5.cellAt 3 rfl 1 rfl, hq5.cellAt 0 rfl 1 rfl⟩, ?_⟩
        (repeat (first | (apply el_skip rfl (by rfl); try simp only [Act.put, sI, sZ, sS]) | (apply el_float rfl (by rfl); (· (intro w' hS; go_simp <;> with_reducible rfl)); (try simp only [Act.put, sI, sZ, sS]))))
        refine el_hard rfl (by rfl) (fun K hK => ?_)
        go_wp2_with fail
        have hbA := belowA w5 (.cells #[.slice m4 Y1.length n4, .int .i64 RV] 200)
        have hq6 := hq5.step hbA
        refine ⟨⟨hq6.cellAt 2 rfl 2 rfl, hq6.cellAt 3 rfl 0 rfl, hq6.cellAt 3 rfl 1 rfl, hq6.cellAt 0 rfl 1 rfl⟩, ?_⟩
        (repeat (first | (apply el_skip rfl (by rfl); try simp only [Act.put, sI, sZ, sS]) | (apply el_float rfl (by rfl); (· (intro w' hS; go_simp <;> with_reducible rfl)); (try simp only [Act.put, sI, sZ, sS]))))
        refine el_hard rfl (by rfl) (fun K hK => ?_)
        obtain ⟨ps5, ho5, hn5, hk5⟩ := ((HA4.out.mono hb5).mono hbA).ownSl
        have IY : Fresh wr.heap.size (w5.alloc (.cells #[.slice m4 Y1.length n4, .int .i64 RV] 200)) [.slice m4 Y1.length n4, .int .i64 RV] ((Y1, RV) : Eqn) :=
          ⟨ps5 ++ [], mk_own ⟨_, rfl, ho5⟩ ⟨rfl, rfl, hIR⟩, by simpa using hn5, fun k hk => by have h := (hk5 k (by simpa using hk)).1; simp at h; omega⟩
        have hbr : Below wr.heap.size wr (w5.alloc (.cells #[.slice m4 Y1.length n4, .int .i64 RV] 200)) := ((((belowA wr (.cells #[.slice a6 (U + 1) c6, .slice a7 l.length c7] 223)).trans (belowD _ |>.mono (by simp))).trans (hb4.mono (by simp))).trans (hb5.mono (by have := hb4.size; simp at this; omega))).trans (hbA.mono (by have := hb4.size; simp at this; omega))
        have hzw := hbr.size
        refine wp_append_acc _ _ _ _ rfl E_eqns rfl (hac.out.mono hbr) IY (by omega) hzw ⟨w5.heap.size, 0, none⟩ 1 rfl (fun z u hz => by
          match z with
          | 0 => simp at hz; subst hz; exact cell_at_block (heap_alloc_new w5 _)
          | 1 => simp at hz; subst hz; exact cell_at_block (heap_alloc_new w5 _)
          | z + 2 => simp at hz) (by rw [HLJ.out]; omega) ?_
        intro a8 c8 w8 hA8 hB8 hK8
        rw [HLJ.out] at hA8 ⊢
        rw [← HST.out] at hA8
        have hkk := hK8 wr.heap.size (Nat.le_refl _) (by have := hb4.size; simp at this; simp; omega)
        have hq7 := ((hst.out.step hbr).stepB hB8)
        refine hK _ _ ⟨⟨hq7.cellAt 2 rfl 2 rfl, cellK (hq6.cellAt 3 rfl 0 rfl) hkk, cellK (hq6.cellAt 3 rfl 1 rfl) hkk, hq7.cellAt 0 rfl 1 rfl⟩, ?_⟩
        have r2 := hq7.cellAt 2 rfl 2 rfl
        have r3 := hq7.freeAt 2 rfl 2
        have HA8 := Lib.hid hA8
        have HBL8 := Lib.hid ((Iv.mono hbl.out hbr).frame (fun k h1 h2 => hB8.block k (by omega)))
        have HA9 := Lib.hid (show Acc (w3.heap.size + 1) (w8.setCell ⟨w.heap.size + 1 + 1, 2, none⟩ (.slice a8 (j + 1) c8)).heap.size 200 (w8.setCell ⟨w.heap.size + 1 + 1, 2, none⟩ (.slice a8 (j + 1) c8)) (.slice a8 (j + 1) c8) (redTo (elimS (p, (U : Int), l)).1 (j + 1)) from by
          have e : (w8.setCell ⟨w.heap.size + 1 + 1, 2, none⟩ (.slice a8 (j + 1) c8)).heap.size = w8.heap.size := by simp [World.setCell]
          rw [e]; exact hA8.setCell (by simp <;> omega) _)
        have HQ8 := Lib.hid (hq7.set (p := [_, _]) (by simp <;> omega) 2 (.slice a8 (j + 1) c8))
        clear hA8 ho5 hn5 hk5 IY
        (repeat (first | (apply el_skip rfl (by rfl); try simp only [Act.put, sI, sZ, sS]) | (apply el_float rfl (by rfl); (· (intro w' hS; go_simp <;> with_reducible rfl)); (try simp only [Act.put, sI, sZ, sS]))))
        refine el_last rfl (by rfl) (fun K hK => ?_)
        go_wp2_with fail
        refine el_nil (NoPanic.normal ?_)
        go_wp2_with fail
        go_roundw
        case rel => exact ⟨j + 1, a8, c8, hlt, by go_num, HQ8.out, HA9.out, Iv.setOut HBL8.out (.inl (by simp <;> omega)) _⟩
        case measure => simp [intOf]; omega
      · obtain rfl : j = (elimS (p, (U : Int), l)).2.length := by omega
        have hs7 := hst.out
        have t20 := hs7.cellAt 2 rfl 0 rfl
        have t21 := hs7.cellAt 2 rfl 1 rfl
        have t22 := hs7.cellAt 2 rfl 2 rfl
        have g0 := hs7.freeAt 1 rfl 0
        have g1 := hs7.freeAt 1 rfl 1
        have g2 := hs7.freeAt 1 rfl 2
        have y0 := hs7.cellAt 1 rfl 0 rfl
        have y1 := hs7.cellAt 1 rfl 1 rfl
        have y2 := hs7.cellAt 1 rfl 2 rfl
        have hs9 := ((hs7.set (p := [_]) (by simp <;> omega) 0 (.int .i64 p)).set (p := [_]) (by simp <;> omega) 1 (.int .i64 U)).set (p := [_]) (by simp <;> omega) 2 (.slice va (elimS (p, (U : Int), l)).2.length vc)
        have x0 := hs9.cellAt 1 rfl 0 rfl
        have x1 := hs9.cellAt 1 rfl 1 rfl
        have x2 := hs9.cellAt 1 rfl 2 rfl
        go_wp2_with fail
        refine bodyPost_ret (v := .agg #[.int .i64 p, .int .i64 U, .slice va (elimS (p, (U : Int), l)).2.length vc]) (by simp [results, Tryz.results275, go_sem, x0, x1, x2]) rfl ⟨_, _, _, rfl, ?_, hs9.bel⟩
        rw [HRF.out]
        obtain ⟨ps, ho, hn, hk⟩ := hac.out.ownSl
        have hoo := (((OnlyAt.refl [w.heap.size + 1] wr).setCell (p := ⟨w.heap.size + 1, 0, none⟩) (by simp) (.int .i64 p)).setCell (p := ⟨w.heap.size + 1, 1, none⟩) (by simp) (.int .i64 U)).setCell (p := ⟨w.heap.size + 1, 2, none⟩) (by simp) (.slice va (elimS (p, (U : Int), l)).2.length vc)
        exact ⟨[] ++ ([] ++ ps), mk_own (p := []) ⟨rfl, rfl, hIp⟩ (mk_own (p := []) ⟨rfl, rfl, hIu⟩ ⟨_, rfl, ownSl_only ho hoo (fun k h1 h2 => by have := (hk k h1).1; simp at h2; omega)⟩), by simpa using hn, fun k h1 => by have := (hk k (by simpa using h1)).1; omega⟩
end Go.Proofs.YtoblfnoaepbhfaaGreat
namespace Go.Proofs.YtoblfnoaepbhfaaGreat
open Go.RowKit Go.Shelf Go.IntWalk
open Rep (Rd Own sz)
theorem fresh_rows {lo : Nat} {w : World} {g n c : Nat} {R : List SRow} (h : Fresh lo w [.slice (some ⟨g, 0, none⟩) n c] R) :
    ∃ rss : List (List Nat), rss.length = R.length ∧ (List.flatten rss).Nodup ∧ (∀ k, k ∈ List.flatten rss → lo ≤ k ∧ k < w.heap.size) ∧
      ∀ i (hi : i < R.length), ∃ p p1 v0 v2, rss[i]? = some p ∧ (∀ k, k ∈ p1 → k ∈ p) ∧ p1.Nodup ∧ Own p1 w [v0] R[i].1 ∧ I64 R[i].2.1 ∧ w.cell? ⟨g, i * 3, none⟩ = some v0 ∧ w.cell? ⟨g, i * 3 + 1, none⟩ = some (.int .i64 R[i].2.1) ∧ w.cell? ⟨g, i * 3 + 2, none⟩ = some v2 := by
  obtain ⟨ps, ⟨v, e, ho⟩, hnd, hlo⟩ := h
  obtain rfl : .slice (some ⟨g, 0, none⟩) n c = v := by simpa using e
  have hlt := Rep.own_lt (α := List SRow) (ps := ps) (w := w) (vs := [.slice (some ⟨g, 0, none⟩) n c]) (x := R) ⟨_, rfl, ho⟩
  rcases ho with ⟨rfl, rfl, _⟩ | ⟨g', o', c', cur, e', pss, hv, _, _, hh, rfl, h5, h6⟩
  · exact ⟨[], rfl, by simp, by simp, fun i hi => absurd hi (Nat.not_lt_zero _)⟩
  · simp only [Value.slice.injEq, Option.some.injEq, Addr.mk.injEq, and_true] at hv
    obtain ⟨⟨rfl, rfl⟩, rfl, rfl⟩ := hv
    refine ⟨pss, h5, (List.nodup_cons.1 hnd).2, fun k hk => ⟨hlo k (List.mem_cons_of_mem _ hk), hlt k (List.mem_cons_of_mem _ hk)⟩, fun i hi => ?_⟩
    obtain ⟨p, vs, hp, hO, hc⟩ := h6 i hi
    have hl := Rep.rd_len (Rep.own_rd hO)
    match vs, hl with
    | [v0, v1, v2], _ =>
      obtain ⟨p1, q1, rfl, ho1, ho2⟩ := own_cons rfl hO
      obtain ⟨p2, q2, rfl, ho3, _⟩ := own_cons rfl ho2
      obtain ⟨_, e1, hI⟩ := ho3
      obtain rfl : v1 = .int .i64 R[i].2.1 := by simpa using e1
      have hpn : (p1 ++ (p2 ++ q2)).Nodup := by
        have h7 := (List.nodup_cons.1 hnd).2
        exact (List.pairwise_flatten.1 h7).1 _ (List.mem_of_getElem? hp)
      refine ⟨_, p1, v0, v2, hp, fun k hk => by simp [hk], (List.nodup_append.1 hpn).1, ho1, hI, ?_, ?_, ?_⟩
      · rw [cell_at_block hh]; have := hc 0 (by simp); simpa using this
      · rw [cell_at_block hh]; have := hc 1 (by simp); simpa using this
      · rw [cell_at_block hh]; have := hc 2 (by simp); simpa using this
theorem flat_nodup {rss pss : List (List Nat)} (h : (List.flatten rss).Nodup) (hs : ∀ (i : Nat) p, pss[i]? = some p → p.Nodup ∧ ∃ q, rss[i]? = some q ∧ ∀ k, k ∈ p → k ∈ q) : (List.flatten pss).Nodup := by
  refine nodup_of_disj (fun k p hp => (hs k p hp).1) (fun a b p q hab hp hq k hk hkq => ?_)
  obtain ⟨_, p', hp', hs1⟩ := hs a p hp
  obtain ⟨_, q', hq', hs2⟩ := hs b q hq
  have h2 := (List.pairwise_flatten.1 h).2
  rw [List.pairwise_iff_getElem] at h2
  obtain ⟨ha, ea⟩ := List.getElem?_eq_some_iff.1 hp'
  obtain ⟨hb, eb⟩ := List.getElem?_eq_some_iff.1 hq'
  rcases Nat.lt_or_gt_of_ne hab with h3 | h3
  · exact h2 a b ha hb h3 k (by rw [ea]; exact hs1 k hk) k (by rw [eb]; exact hs2 k hkq) rfl
  · exact h2 b a hb ha h3 k (by rw [eb]; exact hs2 k hkq) k (by rw [ea]; exact hs1 k hk) rfl
theorem accP_of_row {α : Type} [Rep α] {A : Nat → Prop} {e : TypeId} {w : World} {v : Value} {l : List α} {xs : List Value} {pss : List (List Nat)} (h : w.ownsRow 0 e (sz α) v l.length xs) (hp : pss.length = l.length)
    (hel : ∀ i (hi : i < l.length), ∃ p vs, pss[i]? = some p ∧ Own p w vs l[i] ∧ ∀ k, k < vs.length → xs[i * sz α + k]? = vs[k]?) (hn : (v.ownBlock.toList ++ List.flatten pss).Nodup) (hA : ∀ k, k ∈ v.ownBlock.toList ++ List.flatten pss → A k) : AccP A e w v l := by
  have ho : Own (v.ownBlock.toList ++ List.flatten pss) w [v] l := ⟨_, rfl, ownSl_of_row h hp hel⟩
  exact ⟨xs, pss, h, hp, hn, fun k hk => ⟨hA k hk, Rep.own_lt ho k hk⟩, hel⟩
set_option maxRecDepth 100000 in
set_option maxHeartbeats 8000000 in
theorem l07ReducedA_c (x : Sys) (sb : Nat) (v0 v1 v2 : Value) (w : World) (hx : Rd w [v0, v1, v2] x) (c0 : w.cell? ⟨sb, 0, none⟩ = some v0) (c1 : w.cell? ⟨sb, 1, none⟩ = some v1) (c2 : w.cell? ⟨sb, 2, none⟩ = some v2) (hok : validS x = true) :
    Calls Tryz.prog 264 #[.pointer (some ⟨sb, 0, none⟩)] w fun e w' => ∃ a n c, e = .returned (.agg #[.int .i64 x.1, .int .i64 x.2.1, .slice a n c]) ∧ AccP (fun z => w.heap.size ≤ z) 200 w' (.slice a n c) (reducedF x).2.2 ∧ n = (reducedF x).2.2.length ∧ Below w.heap.size w w' := by
  obtain ⟨p, u, l⟩ := x
  have HX := Lib.hid hx
  have z := rd_cons rfl hx
  obtain ⟨rfl, hIp⟩ := rd_i1 z.1
  have z2 := rd_cons rfl z.2
  obtain ⟨rfl, hIu⟩ := rd_i1 z2.1
  obtain ⟨a, c, rfl, _⟩ := rd_list z2.2
  have HK := Lib.hid hok
  have KO := Lib.hid (elim_ok hok)
  clear hx z z2 hok
  have hu2 := KO.out.hu
  simp only at hu2
  obtain ⟨U, hU⟩ : ∃ U : Nat, u = U := ⟨u.toNat, by omega⟩
  subst hU
  have c0_ := cellL (St.start w).bel c0
  clear c0_
  have c0_ := cellL (St.start w).bel c0
  have c1_ := cellL (St.start w).bel c1
  clear c0_ c1_
  have c0_ := cellL (St.start w).bel c0
  have c1_ := cellL (St.start w).bel c1
  have c2_ := cellL (St.start w).bel c2
  have hs1 := (St.start w).alloc #[.int .i64 0, .int .i64 0, .slice none 0 0] 61 (n := w.heap.size) (by simp)
  clear c0_ c1_ c2_
  have k0_0 := hs1.cellAt 0 rfl 0 rfl
  have k0_1 := hs1.cellAt 0 rfl 1 rfl
  have k0_2 := hs1.cellAt 0 rfl 2 rfl
  have c0_ := cellL hs1.bel c0
  have c1_ := cellL hs1.bel c1
  have c2_ := cellL hs1.bel c2
  go_enter Tryz.func264, Tryz.ntmps264
  go_wp2_with fail
  refine (l07Reduce_c (p, (U : Int), l) _ _ _ _ _ (Rd.mono HX.out hs1.bel) c0_ c1_ c2_ HK.out).mono ?_
  rintro e w2 ⟨g4, c4, rfl, fr, hbw2⟩
  have hz_w2 : w.heap.size + 1 ≤ w2.heap.size := by have h9 := hbw2.size; (try simp at h9); omega
  have hs3 := hs1.step hbw2
  clear k0_0 k0_1 k0_2 c0_ c1_ c2_
  have k0_0 := hs3.cellAt 0 rfl 0 rfl
  have k0_1 := hs3.cellAt 0 rfl 1 rfl
  have k0_2 := hs3.cellAt 0 rfl 2 rfl
  have c0_ := cellL hs3.bel c0
  have c1_ := cellL hs3.bel c1
  have c2_ := cellL hs3.bel c2
  have FR := Lib.hid (show Fresh (w.heap.size + 1) w2 [.slice (some ⟨g4, 0, none⟩) l.length c4] (elimS (p, (U : Int), l)).1 by simpa using fr)
  clear fr
  obtain ⟨wB, hwB⟩ : ∃ x, x = w2 := ⟨_, rfl⟩
  subst hwB
  have HS1 := Lib.hid hs3
  have HBL := Lib.hid (Below.refl wB.heap.size wB)
  go_upto_region 2 with fail
  go_cut [5] from 12 to 60 (fun x5 wx => ∃ g gL, x5 = .pointer (some ⟨g, 0, none⟩) ∧ Hid (St w wx.heap.size wx [(w.heap.size, #[.int .i64 0, .int .i64 0, .slice none 0 0], 61), (g, #[.int .i64 p, .int .i64 U, .slice (some ⟨gL, 0, none⟩) 0 0], 61)]) ∧ Hid (wx.ownsRow 0 200 2 (.slice (some ⟨gL, 0, none⟩) 0 0) 0 []) ∧ Hid (Below wB.heap.size wB wx ∧ g ≠ gL ∧ wB.heap.size ≤ g ∧ wB.heap.size ≤ gL ∧ g < wx.heap.size ∧ gL < wx.heap.size))
  case first =>
    refine wp_region_noPanic (wp_region_tree4 (fun w' => w'.cell? ⟨w.heap.size, 0, none⟩ = some (.int .i64 0) ∧ w'.cell? ⟨w.heap.size, 1, none⟩ = some (.int .i64 0) ∧ w'.cell? ⟨w.heap.size, 2, none⟩ = some (.slice none 0 0) ∧ w'.cell? ⟨sb, 0, none⟩ = some (.int .i64 p) ∧ w'.cell? ⟨sb, 1, none⟩ = some (.int .i64 U) ∧ w'.cell? ⟨sb, 2, none⟩ = some (.slice a l.length c)) (.float 0 (.float 1 (.float 2 (.float 3 (.float 4 (.float 5 (.float 6 (.float 7 (.fork2 8 (.float 9 (.hard 10 (.last 11 .nil))) 10 (.hard 8 (.float 9 (.last 11 .nil)))))))))))) (by kernel_rfl) (by kernel_rfl) (by kernel_rfl) rfl ?_ (fun _ _ _ _ _ h => h) ?_)
    · exact ⟨(hs3.drew).cellAt 0 rfl 0 rfl, (hs3.drew).cellAt 0 rfl 1 rfl, (hs3.drew).cellAt 0 rfl 2 rfl, cellL (hs3.drew).bel c0, cellL (hs3.drew).bel c1, cellL (hs3.drew).bel c2⟩
    have hs4 := hs3.drew
    have HBL_5 := Lib.hid (HBL.out.trans (((belowD _)).mono HBL.out.size))
    clear HBL
    clear k0_0 k0_1 k0_2 c0_ c1_ c2_
    have hz_wd6 : wB.heap.size ≤ (wB.drew).heap.size := by simp
    generalize hgen_wd6 : wB.drew = wd6 at *
    have HG_wd6 := Lib.hid hgen_wd6
    clear hgen_wd6
    (repeat (first | (apply t4_skip rfl (by rfl); try simp only [Act.put, sI, sZ, sS]) | (apply t4_float rfl (by rfl); (· (intro w' hS; go_simp <;> with_reducible rfl)); (try simp only [Act.put, sI, sZ, sS]))))
    refine t4_fork2 ?_ ?_
    · refine t4_hard rfl (by rfl) (fun K hK => ?_)
      go_wp2_with fail
      have HROW := Lib.hid (row_made (size := 2) wd6 200)
      have hs7 := hs4.alloc #[] 200 (n := wd6.heap.size) (by simp)
      have HBL_8 := Lib.hid (HBL_5.out.trans (((belowA _ (.cells #[] 200))).mono HBL_5.out.size))
      clear HBL_5
      have hz_wL : wd6.heap.size + 1 ≤ ((wd6.alloc (.cells #[] 200))).heap.size := by simp
      generalize hgen_wL : (wd6.alloc (.cells #[] 200)) = wL at *
      clear hgen_wL
      refine ⟨⟨hs7.cellAt 0 rfl 0 rfl, hs7.cellAt 0 rfl 1 rfl, hs7.cellAt 0 rfl 2 rfl, cellL hs7.bel c0, cellL hs7.bel c1, cellL hs7.bel c2⟩, ?_⟩
      (repeat (first | (apply t4_skip rfl (by rfl); try simp only [Act.put, sI, sZ, sS]) | (apply t4_float rfl (by rfl); (· (intro w' hS; go_simp <;> with_reducible rfl)); (try simp only [Act.put, sI, sZ, sS]))))
      refine t4_hard rfl (by rfl) (fun K hK => ?_)
      go_wp2_with fail
      have hs9 := hs7.alloc #[.int .i64 0, .int .i64 0, .slice none 0 0] 61 (n := wL.heap.size) (by simp)
      have HBL_10 := Lib.hid (HBL_8.out.trans (((belowA _ (.cells #[.int .i64 0, .int .i64 0, .slice none 0 0] 61))).mono HBL_8.out.size))
      clear HBL_8
      have HROW_11 := Lib.hid (ownsRow_below HROW.out (belowA _ (.cells #[.int .i64 0, .int .i64 0, .slice none 0 0] 61)))
      clear HROW
      have hz_wA : wL.heap.size + 1 ≤ ((wL.alloc (.cells #[.int .i64 0, .int .i64 0, .slice none 0 0] 61))).heap.size := by simp
      generalize hgen_wA : (wL.alloc (.cells #[.int .i64 0, .int .i64 0, .slice none 0 0] 61)) = wA at *
      clear hgen_wA
      refine ⟨⟨hs9.cellAt 0 rfl 0 rfl, hs9.cellAt 0 rfl 1 rfl, hs9.cellAt 0 rfl 2 rfl, cellL hs9.bel c0, cellL hs9.bel c1, cellL hs9.bel c2⟩, ?_⟩
      (repeat (first | (apply t4_skip rfl (by rfl); try simp only [Act.put, sI, sZ, sS]) | (apply t4_float rfl (by rfl); (· (intro w' hS; go_simp <;> with_reducible rfl)); (try simp only [Act.put, sI, sZ, sS]))))
      refine t4_last rfl (by rfl) (fun K hK => ?_)
      have k0_0 := hs9.cellAt 0 rfl 0 rfl
      have k0_1 := hs9.cellAt 0 rfl 1 rfl
      have k0_2 := hs9.cellAt 0 rfl 2 rfl
      have k2_0 := hs9.cellAt 2 rfl 0 rfl
      have k2_1 := hs9.cellAt 2 rfl 1 rfl
      have k2_2 := hs9.cellAt 2 rfl 2 rfl
      have c0_ := cellL hs9.bel c0
      have c1_ := cellL hs9.bel c1
      have c2_ := cellL hs9.bel c2
      have f0 := (hs9.freeAt 2 rfl 0)
      have f1 := (hs9.freeAt 2 rfl 1)
      have f2 := (hs9.freeAt 2 rfl 2)
      have hgG := (hs9.box (wL.heap.size, #[.int .i64 0, .int .i64 0, .slice none 0 0], 61) (by simp)).2.1
      have hgL := (hs9.box (wd6.heap.size, #[], 200) (by simp)).2.1
      have hgH := hs9.hi
      simp only at hgG hgL
      have hq := ((hs9.set (p := [_, _]) (by simp <;> omega) 0 (.int .i64 p)).set (p := [_, _]) (by simp <;> omega) 1 (.int .i64 U)).set (p := [_, _]) (by simp <;> omega) 2 (.slice (some ⟨wd6.heap.size, 0, none⟩) 0 0)
      go_wp2_with fail
      refine t4_nil (NoPanic.normal ?_)
      go_wp2_with fail
      go_meet
      case rel =>
        have ho := (((OnlyAt.refl [wL.heap.size] wA).setCell (p := ⟨wL.heap.size, 0, none⟩) (by simp) (.int .i64 p)).setCell (p := ⟨wL.heap.size, 1, none⟩) (by simp) (.int .i64 U)).setCell (p := ⟨wL.heap.size, 2, none⟩) (by simp) (.slice (some ⟨wd6.heap.size, 0, none⟩) 0 0)
        refine ⟨wL.heap.size, wd6.heap.size, rfl, (hq.up hq.hi (Nat.le_refl _)).sub (fun x hx => ?_), row_frame HROW_11.out (fun k hk => ho.block k (by simp [Value.ownBlock] at hk ⊢; omega)), ⟨HBL_10.out.trans (ho.below (by simp; omega)), by omega, by omega, by omega, by rw [ho.size]; omega, by rw [ho.size]; omega⟩⟩
        simp only [List.mem_cons, List.not_mem_nil, or_false] at hx
        rcases hx with rfl | rfl <;> simp
    · refine t4_hard rfl (by rfl) (fun K hK => ?_)
      go_wp2_with fail
      have hs12 := hs4.alloc #[.int .i64 0, .int .i64 0, .slice none 0 0] 61 (n := wd6.heap.size) (by simp)
      have HBL_13 := Lib.hid (HBL_5.out.trans (((belowA _ (.cells #[.int .i64 0, .int .i64 0, .slice none 0 0] 61))).mono HBL_5.out.size))
      clear HBL_5
      have hz_wA : wd6.heap.size + 1 ≤ ((wd6.alloc (.cells #[.int .i64 0, .int .i64 0, .slice none 0 0] 61))).heap.size := by simp
      generalize hgen_wA : (wd6.alloc (.cells #[.int .i64 0, .int .i64 0, .slice none 0 0] 61)) = wA at *
      clear hgen_wA
      refine ⟨⟨hs12.cellAt 0 rfl 0 rfl, hs12.cellAt 0 rfl 1 rfl, hs12.cellAt 0 rfl 2 rfl, cellL hs12.bel c0, cellL hs12.bel c1, cellL hs12.bel c2⟩, ?_⟩
      (repeat (first | (apply t4_skip rfl (by rfl); try simp only [Act.put, sI, sZ, sS]) | (apply t4_float rfl (by rfl); (· (intro w' hS; go_simp <;> with_reducible rfl)); (try simp only [Act.put, sI, sZ, sS]))))
      refine t4_hard rfl (by rfl) (fun K hK => ?_)
      go_wp2_with fail
      have HROW := Lib.hid (row_made (size := 2) wA 200)
      have hs14 := hs12.alloc #[] 200 (n := wA.heap.size) (by simp)
      have HBL_15 := Lib.hid (HBL_13.out.trans (((belowA _ (.cells #[] 200))).mono HBL_13.out.size))
      clear HBL_13
      have hz_wL : wA.heap.size + 1 ≤ ((wA.alloc (.cells #[] 200))).heap.size := by simp
      generalize hgen_wL : (wA.alloc (.cells #[] 200)) = wL at *
      clear hgen_wL
      refine ⟨⟨hs14.cellAt 0 rfl 0 rfl, hs14.cellAt 0 rfl 1 rfl, hs14.cellAt 0 rfl 2 rfl, cellL hs14.bel c0, cellL hs14.bel c1, cellL hs14.bel c2⟩, ?_⟩
      (repeat (first | (apply t4_skip rfl (by rfl); try simp only [Act.put, sI, sZ, sS]) | (apply t4_float rfl (by rfl); (· (intro w' hS; go_simp <;> with_reducible rfl)); (try simp only [Act.put, sI, sZ, sS]))))
      refine t4_last rfl (by rfl) (fun K hK => ?_)
      have k0_0 := hs14.cellAt 0 rfl 0 rfl
      have k0_1 := hs14.cellAt 0 rfl 1 rfl
      have k0_2 := hs14.cellAt 0 rfl 2 rfl
      have k1_0 := hs14.cellAt 1 rfl 0 rfl
      have k1_1 := hs14.cellAt 1 rfl 1 rfl
      have k1_2 := hs14.cellAt 1 rfl 2 rfl
      have c0_ := cellL hs14.bel c0
      have c1_ := cellL hs14.bel c1
      have c2_ := cellL hs14.bel c2
      have f0 := (hs14.freeAt 1 rfl 0)
      have f1 := (hs14.freeAt 1 rfl 1)
      have f2 := (hs14.freeAt 1 rfl 2)
      have hgG := (hs14.box (wd6.heap.size, #[.int .i64 0, .int .i64 0, .slice none 0 0], 61) (by simp)).2.1
      have hgL := (hs14.box (wA.heap.size, #[], 200) (by simp)).2.1
      have hgH := hs14.hi
      simp only at hgG hgL
      have hq := ((hs14.set (p := [_]) (by simp <;> omega) 0 (.int .i64 p)).set (p := [_]) (by simp <;> omega) 1 (.int .i64 U)).set (p := [_]) (by simp <;> omega) 2 (.slice (some ⟨wA.heap.size, 0, none⟩) 0 0)
      go_wp2_with fail
      refine t4_nil (NoPanic.normal ?_)
      go_wp2_with fail
      go_meet
      case rel =>
        have ho := (((OnlyAt.refl [wd6.heap.size] wL).setCell (p := ⟨wd6.heap.size, 0, none⟩) (by simp) (.int .i64 p)).setCell (p := ⟨wd6.heap.size, 1, none⟩) (by simp) (.int .i64 U)).setCell (p := ⟨wd6.heap.size, 2, none⟩) (by simp) (.slice (some ⟨wA.heap.size, 0, none⟩) 0 0)
        refine ⟨wd6.heap.size, wA.heap.size, rfl, (hq.up hq.hi (Nat.le_refl _)).sub (fun x hx => ?_), row_frame HROW.out (fun k hk => ho.block k (by simp [Value.ownBlock] at hk ⊢; omega)), ⟨HBL_15.out.trans (ho.below (by simp; omega)), by omega, by omega, by omega, by rw [ho.size]; omega, by rw [ho.size]; omega⟩⟩
        simp only [List.mem_cons, List.not_mem_nil, or_false] at hx
        rcases hx with rfl | rfl <;> simp
  case rest =>
    obtain ⟨g, gL, rfl, hst, hrow, hx⟩ := hcut
    have HRD := Lib.hid (Rd.mono (Fresh.rd FR.out) hx.out.1)
    have hglt := hx.out.2.2.2.2
    have hsz1 : w.heap.size + 1 ≤ wB.heap.size := by have := HS1.out.hi; omega
    have hszc : wB.heap.size ≤ wc.heap.size := hx.out.1.size
    have k0_0 := hst.out.cellAt 0 rfl 0 rfl
    have k0_1 := hst.out.cellAt 0 rfl 1 rfl
    have k0_2 := hst.out.cellAt 0 rfl 2 rfl
    have k1_0 := hst.out.cellAt 1 rfl 0 rfl
    have k1_1 := hst.out.cellAt 1 rfl 1 rfl
    have k1_2 := hst.out.cellAt 1 rfl 2 rfl
    have c0_ := cellL hst.out.bel c0
    have c1_ := cellL hst.out.bel c1
    have c2_ := cellL hst.out.bel c2
    go_wp2_with fail
    refine (l07False_c (elimS (p, (U : Int), l)).1 _ _ _ HRD.out (by rw [KO.out.len]; exact KO.out.le) (by have := KO.out.len; have := KO.out.hl; omega)).mono ?_
    rintro e w16 ⟨rfl, rfl⟩
    rw [show falseF (elimS (p, (U : Int), l)).1 (elimS (p, (U : Int), l)).2.length = falseS (p, (U : Int), l) from rfl]
    have HROW := hrow
    by_cases hf : 0 ≤ falseS (p, (U : Int), l)
    · have HF := Lib.hid hf
      have hgne := hx.out.2.1
      have hgL := hx.out.2.2.2.1
      have hgG := hx.out.2.2.1
      go_upto_region 4 with fail
      refine wp_region_noPanic (wp_region_tree4 (fun w' => w'.cell? ⟨w.heap.size, 0, none⟩ = some (.int .i64 0) ∧ w'.cell? ⟨w.heap.size, 1, none⟩ = some (.int .i64 0) ∧ w'.cell? ⟨w.heap.size, 2, none⟩ = some (.slice none 0 0) ∧ w'.cell? ⟨g, 0, none⟩ = some (.int .i64 p) ∧ w'.cell? ⟨g, 1, none⟩ = some (.int .i64 U) ∧ w'.cell? ⟨g, 2, none⟩ = some (.slice (some ⟨gL, 0, none⟩) 0 0) ∧ w'.cell? ⟨sb, 0, none⟩ = some (.int .i64 p) ∧ w'.cell? ⟨sb, 1, none⟩ = some (.int .i64 U) ∧ w'.cell? ⟨sb, 2, none⟩ = some (.slice a l.length c)) (.float 0 (.float 1 (.float 2 (.float 3 (.float 4 (.float 5 (.hard 6 (.float 7 (.hard 8 (.hard 9 (.float 10 (.last 11 .nil)))))))))))) (by kernel_rfl) (by kernel_rfl) (by kernel_rfl) rfl ?_ (fun _ _ _ _ _ h => h) ?_)
      · exact ⟨(hst.out.drew).cellAt 0 rfl 0 rfl, (hst.out.drew).cellAt 0 rfl 1 rfl, (hst.out.drew).cellAt 0 rfl 2 rfl, (hst.out.drew).cellAt 1 rfl 0 rfl, (hst.out.drew).cellAt 1 rfl 1 rfl, (hst.out.drew).cellAt 1 rfl 2 rfl, cellL (hst.out.drew).bel c0, cellL (hst.out.drew).bel c1, cellL (hst.out.drew).bel c2⟩
      have hs17 := hst.out.drew
      have HROW_18 := Lib.hid (ownsRow_below HROW.out (belowD _))
      clear HROW
      clear k0_0 k0_1 k0_2 k1_0 k1_1 k1_2 c0_ c1_ c2_
      have hz_wd19 : wc.heap.size ≤ (wc.drew).heap.size := by simp
      generalize hgen_wd19 : wc.drew = wd19 at *
      have HG_wd19 := Lib.hid hgen_wd19
      clear hgen_wd19
      (repeat (first | (apply t4_skip rfl (by rfl); try simp only [Act.put, sI, sZ, sS]) | (apply t4_float rfl (by rfl); (· (intro w' hS; go_simp <;> with_reducible rfl)); (try simp only [Act.put, sI, sZ, sS]))))
      refine t4_hard rfl (by rfl) (fun K hK => ?_)
      refine wp_make_rep _ _ _ 28 rfl E_ints (0 : Int) own0_int U (by omega) rfl rfl ?_
      intro wM hownM hbM hzM
      have HOM : Hid (OwnSl [wd19.heap.size] wM (.slice (some ⟨wd19.heap.size, 0, none⟩) U U) (List.replicate U (0 : Int))) := Lib.hid (by simpa using hownM)
      have hgM : wd19.heap.size < wM.heap.size := by rw [hzM]; simp
      clear hownM hzM
      have hz_wM : wd19.heap.size ≤ wM.heap.size := by have h9 := hbM.size; (try simp at h9); omega
      have hs20 := hs17.step hbM
      have HROW_21 := Lib.hid (ownsRow_below HROW_18.out hbM)
      clear HROW_18
      refine hK _ _ ⟨⟨hs20.cellAt 0 rfl 0 rfl, hs20.cellAt 0 rfl 1 rfl, hs20.cellAt 0 rfl 2 rfl, hs20.cellAt 1 rfl 0 rfl, hs20.cellAt 1 rfl 1 rfl, hs20.cellAt 1 rfl 2 rfl, cellL hs20.bel c0, cellL hs20.bel c1, cellL hs20.bel c2⟩, ?_⟩
      (repeat (first | (apply t4_skip rfl (by rfl); try simp only [Act.put, sI, sZ, sS]) | (apply t4_float rfl (by rfl); (· (intro w' hS; go_simp <;> with_reducible rfl)); (try simp only [Act.put, sI, sZ, sS]))))
      refine t4_hard rfl (by rfl) (fun K hK => ?_)
      go_wp2_with fail
      have hs22 := hs20.alloc #[.slice (some ⟨wd19.heap.size, 0, none⟩) U U, .int .i64 1] 200 (n := wM.heap.size) (by simp)
      have HROW_23 := Lib.hid (ownsRow_below HROW_21.out (belowA _ (.cells #[.slice (some ⟨wd19.heap.size, 0, none⟩) U U, .int .i64 1] 200)))
      clear HROW_21
      have HOM_24 := Lib.hid (ownSl_mono HOM.out (belowA _ (.cells #[.slice (some ⟨wd19.heap.size, 0, none⟩) U U, .int .i64 1] 200)))
      clear HOM
      refine ⟨⟨hs22.cellAt 0 rfl 0 rfl, hs22.cellAt 0 rfl 1 rfl, hs22.cellAt 0 rfl 2 rfl, hs22.cellAt 1 rfl 0 rfl, hs22.cellAt 1 rfl 1 rfl, hs22.cellAt 1 rfl 2 rfl, cellL hs22.bel c0, cellL hs22.bel c1, cellL hs22.bel c2⟩, ?_⟩
      (repeat (first | (apply t4_skip rfl (by rfl); try simp only [Act.put, sI, sZ, sS]) | (apply t4_float rfl (by rfl); (· (intro w' hS; go_simp <;> with_reducible rfl)); (try simp only [Act.put, sI, sZ, sS]))))
      refine t4_hard rfl (by rfl) (fun K hK => ?_)
      refine wp_append_row _ _ _ _ rfl E_eqns (v := .slice (some ⟨gL, 0, none⟩) 0 0) rfl HROW_23.out (vs := [.slice (some ⟨wd19.heap.size, 0, none⟩) U U, .int .i64 1]) rfl (one_slice_int _ _ _ _) ⟨wM.heap.size, 0, none⟩ 1 rfl (news2 (hs22.cellAt 2 rfl 0 rfl) (hs22.cellAt 2 rfl 1 rfl)) (by omega) ?_
      intro gN cN wN hat hrowN hbutN hltN
      have hgN : gN = gL ∨ gN = wM.heap.size + 1 := by simpa [Value.ownBlock] using hat.imp Eq.symm id
      have hbutN : But [gL] (wM.alloc (.cells #[.slice (some ⟨wd19.heap.size, 0, none⟩) U U, .int .i64 1] 200)) wN := hbutN
      have HRN := Lib.hid (show wN.ownsRow 0 200 2 (.slice (some ⟨gN, 0, none⟩) 1 cN) 1 [.slice (some ⟨wd19.heap.size, 0, none⟩) U U, .int .i64 1] from hrowN)
      clear hat hrowN
      have hsN := hs22.butIv hbutN (fun k hk => by simp at hk; omega) (fun x hx => by simp at hx ⊢; rcases hx with rfl | rfl | rfl <;> simp <;> omega)
      clear HROW_23
      have hz_wN : wM.heap.size + 1 ≤ wN.heap.size := by have h9 := hbutN.size; (try simp at h9); omega
      have HOM_25 := Lib.hid (ownSl_but HOM_24.out hbutN (fun k hk => by (try simp at hk ⊢) <;> omega))
      clear HOM_24
      refine hK _ _ ⟨⟨hsN.cellAt 0 rfl 0 rfl, hsN.cellAt 0 rfl 1 rfl, hsN.cellAt 0 rfl 2 rfl, hsN.cellAt 1 rfl 0 rfl, hsN.cellAt 1 rfl 1 rfl, hsN.cellAt 1 rfl 2 rfl, cellL hsN.bel c0, cellL hsN.bel c1, cellL hsN.bel c2⟩, ?_⟩
      (repeat (first | (apply t4_skip rfl (by rfl); try simp only [Act.put, sI, sZ, sS]) | (apply t4_float rfl (by rfl); (· (intro w' hS; go_simp <;> with_reducible rfl)); (try simp only [Act.put, sI, sZ, sS]))))
      refine t4_last rfl (by rfl) (fun K hK => ?_)
      have k0_0 := hsN.cellAt 0 rfl 0 rfl
      have k0_1 := hsN.cellAt 0 rfl 1 rfl
      have k0_2 := hsN.cellAt 0 rfl 2 rfl
      have k1_0 := hsN.cellAt 1 rfl 0 rfl
      have k1_1 := hsN.cellAt 1 rfl 1 rfl
      have k1_2 := hsN.cellAt 1 rfl 2 rfl
      have k2_0 := hsN.cellAt 2 rfl 0 rfl
      have k2_1 := hsN.cellAt 2 rfl 1 rfl
      have c0_ := cellL hsN.bel c0
      have c1_ := cellL hsN.bel c1
      have c2_ := cellL hsN.bel c2
      have f2 := (hsN.freeAt 1 rfl 2)
      have hq := hsN.set (p := [_]) (by simp <;> omega) 2 (.slice (some ⟨gN, 0, none⟩) 1 cN)
      go_wp2_with fail
      refine t4_nil (NoPanic.normal ?_)
      have y0 := hq.cellAt 1 rfl 0 rfl
      have y1 := hq.cellAt 1 rfl 1 rfl
      have y2 := hq.cellAt 1 rfl 2 rfl
      have f3 := hq.freeAt 0 rfl 0
      have f4 := hq.freeAt 0 rfl 1
      have f5 := hq.freeAt 0 rfl 2
      have z0 := hq.cellAt 0 rfl 0 rfl
      have z1 := hq.cellAt 0 rfl 1 rfl
      have z2 := hq.cellAt 0 rfl 2 rfl
      have hq9 := ((hq.set (p := []) (by simp <;> omega) 0 (.int .i64 p)).set (p := []) (by simp <;> omega) 1 (.int .i64 U)).set (p := []) (by simp <;> omega) 2 (.slice (some ⟨gN, 0, none⟩) 1 cN)
      have x0 := hq9.cellAt 0 rfl 0 rfl
      have x1 := hq9.cellAt 0 rfl 1 rfl
      have x2 := hq9.cellAt 0 rfl 2 rfl
      go_wp2_with fail
      refine bodyPost_ret (v := .agg #[.int .i64 p, .int .i64 U, .slice (some ⟨gN, 0, none⟩) 1 cN]) (by simp [results, Tryz.results264, go_sem, x0, x1, x2]) rfl ⟨_, _, _, rfl, and_assoc.1 ⟨?_, hq9.bel⟩⟩
      rw [reducedF_yes HF.out]
      have hac0 : AccP (fun z => w.heap.size < z ∧ z ≠ g) 200 wN (.slice (some ⟨gN, 0, none⟩) 1 cN) [((List.replicate U 0, 1) : Eqn)] := accP_of_row (pss := [[wd19.heap.size]]) HRN.out rfl (fun i hi => by
        obtain rfl : i = 0 := by simp at hi; omega
        refine ⟨[wd19.heap.size], [.slice (some ⟨wd19.heap.size, 0, none⟩) U U, .int .i64 1], rfl, ?_, fun k hk => by simp⟩
        have h := mk_own (q := []) (x := List.replicate U (0 : Int)) (y := (1 : Int)) (w := wN) (p := [wd19.heap.size]) ⟨_, rfl, HOM_25.out⟩ ⟨rfl, rfl, ⟨by decide, by decide⟩⟩
        simpa using h) (by simp [Value.ownBlock]; omega) (fun k hk => by simp [Value.ownBlock] at hk; omega)
      exact ⟨((((hac0.setCell (b := g) (o := 2) (.slice (some ⟨gN, 0, none⟩) 1 cN) (by simp)).setCell (b := w.heap.size) (o := 0) (.int .i64 p) (by simp)).setCell (b := w.heap.size) (o := 1) (.int .i64 U) (by simp)).setCell (b := w.heap.size) (o := 2) (.slice (some ⟨gN, 0, none⟩) 1 cN) (by simp)).wk (fun z hz => Nat.le_of_lt hz.1), rfl⟩
    · have hm1 : falseS (p, (U : Int), l) < 0 := by omega
      have HF := Lib.hid hf
      have hle := KO.out.le
      have hlen := KO.out.len
      have hll := KO.out.hl
      have hp2 := KO.out.hp
      simp only at hle hlen hll hp2
      obtain ⟨rss, hr1, hr2, hr3, hr4⟩ := fresh_rows FR.out
      have ROWS := Lib.hid hr4
      have HR1 := Lib.hid hr1
      have HR2 := Lib.hid hr2
      have HR3 := Lib.hid hr3
      have hgne := hx.out.2.1
      have hgG := hx.out.2.2.1
      have HBC := Lib.hid hx.out.1
      have HLN := Lib.hid hlen
      have hL0 : Hid (gL ≠ g ∧ wB.heap.size ≤ gL ∧ gL < wc.heap.size) := Lib.hid ⟨fun h => hx.out.2.1 h.symm, hx.out.2.2.2.1, hx.out.2.2.2.2.2⟩
      have hst0 := hst
      clear hf hr1 hr2 hr3 hr4 hlen hx hst FR HS1 k0_0 k0_1 k0_2 k1_0 k1_1 k1_2
      go_wp2_with fail
      go_loopw [6] (fun i wl => ∃ (j gv cv : Nat) (xs : List Value) (pss : List (List Nat)), j ≤ (elimS (p, (U : Int), l)).2.length ∧ i = .int .i64 j ∧ Hid (St w wl.heap.size wl [(w.heap.size, #[.int .i64 0, .int .i64 0, .slice none 0 0], 61), (g, #[.int .i64 p, .int .i64 U, .slice (some ⟨gv, 0, none⟩) j cv], 61)]) ∧ Hid (wl.ownsRow 0 200 2 (.slice (some ⟨gv, 0, none⟩) j cv) j xs) ∧ Hid (gv ≠ g ∧ wB.heap.size ≤ gv ∧ gv < wl.heap.size) ∧ Hid (pss.length = j ∧ ∀ (i : Nat) p, pss[i]? = some p → p.Nodup ∧ ∃ q, rss[i]? = some q ∧ ∀ k, k ∈ p → k ∈ q) ∧ Hid (∀ i (hi : i < (redTo (elimS (p, (U : Int), l)).1 j).length), ∃ q vs, pss[i]? = some q ∧ Own q wB vs (redTo (elimS (p, (U : Int), l)).1 j)[i] ∧ ∀ k, k < vs.length → xs[i * 2 + k]? = vs[k]?) ∧ Hid (Below wB.heap.size wB wl)) (fun i _ => (elimS (p, (U : Int), l)).2.length - (intOf i).toNat)
      case atStart => exact ⟨0, gL, 0, [], [], Nat.zero_le _, rfl, hst0.out, hrow.out, hL0.out, ⟨rfl, fun i p h => by simp at h⟩, fun i hi => by simp [redTo] at hi, HBC.out⟩
      case round =>
        obtain ⟨j, gv, cv, xs, pss, hj, rfl, hst, hrw, hgv, hps, hel, hbl⟩ := hrel
        have hszr : wB.heap.size ≤ wr.heap.size := hbl.out.size
        have hgw := (hst.out.box (g, #[.int .i64 p, .int .i64 U, .slice (some ⟨gv, 0, none⟩) j cv], 61) (by simp)).2.1
        simp only at hgw
        have k0_0 := hst.out.cellAt 0 rfl 0 rfl
        have k0_1 := hst.out.cellAt 0 rfl 1 rfl
        have k0_2 := hst.out.cellAt 0 rfl 2 rfl
        have k1_0 := hst.out.cellAt 1 rfl 0 rfl
        have k1_1 := hst.out.cellAt 1 rfl 1 rfl
        have k1_2 := hst.out.cellAt 1 rfl 2 rfl
        have c0_ := cellL hst.out.bel c0
        have c1_ := cellL hst.out.bel c1
        have c2_ := cellL hst.out.bel c2
        by_cases hlt : j < (elimS (p, (U : Int), l)).2.length
        · have hjr : j < (elimS (p, (U : Int), l)).1.length := by rw [HLN.out]; omega
          have hjl : (j : Int) < l.length := by omega
          obtain ⟨pj, p1, vl, vb, hpj, hsub, hnd1, ho1, hI1, q0, q1, q2⟩ := ROWS.out j hjr
          have hgd := KO.out.good _ (List.getElem_mem hjr)
          have hlenj := hgd.len
          simp only [Int.toNat_natCast] at hlenj
          obtain ⟨al, cl, evl, _⟩ := rd_list (Rep.own_rd ho1)
          rw [hlenj] at evl
          subst evl
          have HST := Lib.hid (redTo_succ (elimS (p, (U : Int), l)).1 j hjr)
          have HO1 := Lib.hid (mk_own (q := []) ho1 (show Own [] wB [.int .i64 (elimS (p, (U : Int), l)).1[j].2.1] (elimS (p, (U : Int), l)).1[j].2.1 from ⟨rfl, rfl, hI1⟩))
          have HPJ := Lib.hid (show p1.Nodup ∧ ∃ q, rss[j]? = some q ∧ ∀ k, k ∈ p1 → k ∈ q from ⟨hnd1, pj, hpj, hsub⟩)
          have hg4 := World.block_lt_of_cell? wB _ q0
          simp only at hg4
          have r0 := cellL hbl.out q0
          have r1 := cellL hbl.out q1
          have HRW := hrw
          clear ho1 hlenj hgd hpj hsub hnd1 q0 q1 q2
          generalize hRV : (elimS (p, (U : Int), l)).1[j].2.1 = RV at *
          have HRV := Lib.hid hRV
          clear hRV
          have HBL := hbl
          go_upto_region 9 with fail
          refine wp_region_noPanic (wp_region_tree4 (fun w' => w'.cell? ⟨w.heap.size, 0, none⟩ = some (.int .i64 0) ∧ w'.cell? ⟨w.heap.size, 1, none⟩ = some (.int .i64 0) ∧ w'.cell? ⟨w.heap.size, 2, none⟩ = some (.slice none 0 0) ∧ w'.cell? ⟨g, 0, none⟩ = some (.int .i64 p) ∧ w'.cell? ⟨g, 1, none⟩ = some (.int .i64 U) ∧ w'.cell? ⟨g, 2, none⟩ = some (.slice (some ⟨gv, 0, none⟩) j cv) ∧ w'.cell? ⟨sb, 0, none⟩ = some (.int .i64 p) ∧ w'.cell? ⟨sb, 1, none⟩ = some (.int .i64 U) ∧ w'.cell? ⟨sb, 2, none⟩ = some (.slice a l.length c) ∧ w'.cell? ⟨g4, j * 3, none⟩ = some (.slice al U cl) ∧ w'.cell? ⟨g4, j * 3 + 1, none⟩ = some (.int .i64 RV)) (.float 0 (.float 1 (.float 2 (.float 3 (.float 4 (.float 5 (.float 6 (.float 7 (.float 8 (.float 9 (.float 10 (.float 11 (.float 12 (.hard 13 (.hard 14 (.float 15 (.last 16 .nil))))))))))))))))) (by kernel_rfl) (by kernel_rfl) (by kernel_rfl) rfl ?_ (fun _ _ _ _ _ h => h) ?_)
          · exact ⟨(hst.out.drew).cellAt 0 rfl 0 rfl, (hst.out.drew).cellAt 0 rfl 1 rfl, (hst.out.drew).cellAt 0 rfl 2 rfl, (hst.out.drew).cellAt 1 rfl 0 rfl, (hst.out.drew).cellAt 1 rfl 1 rfl, (hst.out.drew).cellAt 1 rfl 2 rfl, cellL (hst.out.drew).bel c0, cellL (hst.out.drew).bel c1, cellL (hst.out.drew).bel c2, cellL (belowD _) r0, cellL (belowD _) r1⟩
          have hs26 := hst.out.drew
          have r0_27 := cellL (belowD _) r0
          clear r0
          have r1_28 := cellL (belowD _) r1
          clear r1
          have HRW_29 := Lib.hid (ownsRow_below HRW.out (belowD _))
          clear HRW
          have HBL_30 := Lib.hid (HBL.out.trans (((belowD _)).mono HBL.out.size))
          clear HBL
          clear k0_0 k0_1 k0_2 k1_0 k1_1 k1_2 c0_ c1_ c2_
          have hz_wd31 : wr.heap.size ≤ (wr.drew).heap.size := by simp
          generalize hgen_wd31 : wr.drew = wd31 at *
          have HG_wd31 := Lib.hid hgen_wd31
          clear hgen_wd31
          (repeat (first | (apply t4_skip rfl (by rfl); try simp only [Act.put, sI, sZ, sS]) | (apply t4_float rfl (by rfl); (· (intro w' hS; go_simp <;> with_reducible rfl)); (try simp only [Act.put, sI, sZ, sS]))))
          refine t4_hard rfl (by rfl) (fun K hK => ?_)
          go_wp2_with fail
          have hs32 := hs26.alloc #[.slice al U cl, .int .i64 RV] 200 (n := wd31.heap.size) (by simp)
          have r0_33 := cellL (belowA _ (.cells #[.slice al U cl, .int .i64 RV] 200)) r0_27
          clear r0_27
          have r1_34 := cellL (belowA _ (.cells #[.slice al U cl, .int .i64 RV] 200)) r1_28
          clear r1_28
          have HRW_35 := Lib.hid (ownsRow_below HRW_29.out (belowA _ (.cells #[.slice al U cl, .int .i64 RV] 200)))
          clear HRW_29
          have HBL_36 := Lib.hid (HBL_30.out.trans (((belowA _ (.cells #[.slice al U cl, .int .i64 RV] 200))).mono HBL_30.out.size))
          clear HBL_30
          refine ⟨⟨hs32.cellAt 0 rfl 0 rfl, hs32.cellAt 0 rfl 1 rfl, hs32.cellAt 0 rfl 2 rfl, hs32.cellAt 1 rfl 0 rfl, hs32.cellAt 1 rfl 1 rfl, hs32.cellAt 1 rfl 2 rfl, cellL hs32.bel c0, cellL hs32.bel c1, cellL hs32.bel c2, r0_33, r1_34⟩, ?_⟩
          (repeat (first | (apply t4_skip rfl (by rfl); try simp only [Act.put, sI, sZ, sS]) | (apply t4_float rfl (by rfl); (· (intro w' hS; go_simp <;> with_reducible rfl)); (try simp only [Act.put, sI, sZ, sS]))))
          refine t4_hard rfl (by rfl) (fun K hK => ?_)
          refine wp_append_row _ _ _ _ rfl E_eqns (v := .slice (some ⟨gv, 0, none⟩) j cv) rfl HRW_35.out (vs := [.slice al U cl, .int .i64 RV]) rfl (one_slice_int _ _ _ _) ⟨wd31.heap.size, 0, none⟩ 1 rfl (news2 (hs32.cellAt 2 rfl 0 rfl) (hs32.cellAt 2 rfl 1 rfl)) (by omega) ?_
          intro gN cN wN hat hrowN hbutN hltN
          have hgN : gN = gv ∨ gN = wd31.heap.size + 1 := by simpa [Value.ownBlock] using hat.imp Eq.symm id
          have hbutN : But [gv] (wd31.alloc (.cells #[.slice al U cl, .int .i64 RV] 200)) wN := hbutN
          clear hat
          have hgv1 := hgv.out.1
          have hgv2 := hgv.out.2.1
          have hgv3 := hgv.out.2.2
          have hsN := hs32.butIv hbutN (fun k hk => by simp at hk; omega) (fun x hx => by simp at hx ⊢; rcases hx with rfl | rfl | rfl <;> simp <;> omega)
          have HRN := Lib.hid hrowN
          clear hrowN
          clear HRW_35
          have hz_wN : wd31.heap.size + 1 ≤ wN.heap.size := by have h9 := hbutN.size; (try simp at h9); omega
          have r0_37 := cellK r0_33 (hbutN.block _ (by (try simp) <;> omega) (by (try simp) <;> omega))
          clear r0_33
          have r1_38 := cellK r1_34 (hbutN.block _ (by (try simp) <;> omega) (by (try simp) <;> omega))
          clear r1_34
          have HBL_39 := Lib.hid (HBL_36.out.trans (hbutN.below (by (try simp) <;> omega) HBL_36.out.size))
          clear HBL_36
          refine hK _ _ ⟨⟨hsN.cellAt 0 rfl 0 rfl, hsN.cellAt 0 rfl 1 rfl, hsN.cellAt 0 rfl 2 rfl, hsN.cellAt 1 rfl 0 rfl, hsN.cellAt 1 rfl 1 rfl, hsN.cellAt 1 rfl 2 rfl, cellL hsN.bel c0, cellL hsN.bel c1, cellL hsN.bel c2, r0_37, r1_38⟩, ?_⟩
          (repeat (first | (apply t4_skip rfl (by rfl); try simp only [Act.put, sI, sZ, sS]) | (apply t4_float rfl (by rfl); (· (intro w' hS; go_simp <;> with_reducible rfl)); (try simp only [Act.put, sI, sZ, sS]))))
          refine t4_last rfl (by rfl) (fun K hK => ?_)
          have k0_0 := hsN.cellAt 0 rfl 0 rfl
          have k0_1 := hsN.cellAt 0 rfl 1 rfl
          have k0_2 := hsN.cellAt 0 rfl 2 rfl
          have k1_0 := hsN.cellAt 1 rfl 0 rfl
          have k1_1 := hsN.cellAt 1 rfl 1 rfl
          have k1_2 := hsN.cellAt 1 rfl 2 rfl
          have k2_0 := hsN.cellAt 2 rfl 0 rfl
          have k2_1 := hsN.cellAt 2 rfl 1 rfl
          have c0_ := cellL hsN.bel c0
          have c1_ := cellL hsN.bel c1
          have c2_ := cellL hsN.bel c2
          have f2 := (hsN.freeAt 1 rfl 2)
          have hq := hsN.set (p := [_]) (by simp <;> omega) 2 (.slice (some ⟨gN, 0, none⟩) (j + 1) cN)
          go_wp2_with fail
          refine t4_nil (NoPanic.normal ?_)
          go_wp2_with fail
          go_roundw
          case rel =>
            have ho := (OnlyAt.refl [g] wN).setCell (p := ⟨g, 2, none⟩) (by simp) (.slice (some ⟨gN, 0, none⟩) (j + 1) cN)
            have hlj := redTo_length (elimS (p, (U : Int), l)).1 j (by have := HLN.out; omega)
            have hnew := row_el_snoc (x := eqnOf (elimS (p, (U : Int), l)).1[j]) (xs := xs) (pss := pss) (w := wB) (us := [.slice al U cl, .int .i64 RV]) (q := p1 ++ []) (by rw [hlj]; exact hrw.out.1) (by rw [hlj]; exact hps.out.1) hel.out (by
              have h := HO1.out
              rw [← HRV.out] at h ⊢
              exact h)
            rw [← HST.out] at hnew
            refine ⟨j + 1, gN, cN, xs ++ [.slice al U cl, .int .i64 RV], pss ++ [p1 ++ []], hlt, by go_num, (hq.up (by have := hq.hi; exact this) (Nat.le_refl _)).sub (fun x hx => ?_), row_frame HRN.out (fun k hk => ho.block k ?_), ?_, ?_, Lib.hid hnew, HBL_39.out.setCell (by simpa using hgG) _⟩
            · simp only [List.mem_cons, List.not_mem_nil, or_false] at hx
              rcases hx with rfl | rfl <;> simp
            · simp only [Value.ownBlock, Option.some.injEq] at hk
              subst hk
              simp <;> omega
            · exact ⟨by omega, by omega, by rw [ho.size]; omega⟩
            · refine ⟨by simp [hps.out.1], fun i q hq => ?_⟩
              by_cases hi : i < pss.length
              · rw [List.getElem?_append_left hi] at hq; exact hps.out.2 i q hq
              · rw [List.getElem?_append_right (by omega)] at hq
                have h0 : i - pss.length = 0 := by
                  have := (List.getElem?_eq_some_iff.1 hq).1; simp at this; omega
                rw [h0] at hq
                simp only [List.getElem?_cons_zero, Option.some.injEq, List.append_nil] at hq
                subst hq
                obtain rfl : i = j := by have := hps.out.1; omega
                exact HPJ.out
          case measure => simp [intOf]; omega
        · obtain rfl : j = (elimS (p, (U : Int), l)).2.length := by omega
          have f0 := (hst.out.freeAt 0 rfl 0)
          have f1 := (hst.out.freeAt 0 rfl 1)
          have f2 := (hst.out.freeAt 0 rfl 2)
          have hgv1 := hgv.out.1
          have hgv2 := hgv.out.2.1
          have hgv3 := hgv.out.2.2
          have hq9 := ((hst.out.set (p := []) (by simp <;> omega) 0 (.int .i64 p)).set (p := []) (by simp <;> omega) 1 (.int .i64 U)).set (p := []) (by simp <;> omega) 2 (.slice (some ⟨gv, 0, none⟩) (elimS (p, (U : Int), l)).2.length cv)
          have x0 := hq9.cellAt 0 rfl 0 rfl
          have x1 := hq9.cellAt 0 rfl 1 rfl
          have x2 := hq9.cellAt 0 rfl 2 rfl
          go_wp2_with fail
          refine bodyPost_ret (v := .agg #[.int .i64 p, .int .i64 U, .slice (some ⟨gv, 0, none⟩) (elimS (p, (U : Int), l)).2.length cv]) (by simp [results, Tryz.results264, go_sem, x0, x1, x2]) rfl ⟨_, _, _, rfl, and_assoc.1 ⟨?_, hq9.bel⟩⟩
          rw [reducedF_no (by have := HF.out; omega)]
          have hlj := redTo_length (elimS (p, (U : Int), l)).1 (elimS (p, (U : Int), l)).2.length (by have := HLN.out; omega)
          have hin : ∀ k, k ∈ List.flatten pss → w.heap.size + 1 ≤ k ∧ k < wB.heap.size := fun k hk => by
            obtain ⟨q, hq, hkq⟩ := List.mem_flatten.1 hk
            obtain ⟨i, hi⟩ := List.mem_iff_getElem?.1 hq
            obtain ⟨_, r, hr, hs⟩ := hps.out.2 i q hi
            exact HR3.out k (List.mem_flatten.2 ⟨r, List.mem_of_getElem? hr, hs k hkq⟩)
          have hac0 : AccP (fun z => w.heap.size < z) 200 wr (.slice (some ⟨gv, 0, none⟩) (elimS (p, (U : Int), l)).2.length cv) (redTo (elimS (p, (U : Int), l)).1 (elimS (p, (U : Int), l)).2.length) := accP_of_row (pss := pss) (by rw [hlj]; exact hrw.out) (by rw [hlj]; exact hps.out.1) (fun i hi => by
            obtain ⟨q, vs, h1, h2, h3⟩ := hel.out i hi
            exact ⟨q, vs, h1, Own.mono h2 hbl.out, h3⟩) (by
            simp only [Value.ownBlock, Option.toList_some, List.singleton_append, List.nodup_cons]
            exact ⟨fun h => by have := hin _ h; omega, flat_nodup HR2.out hps.out.2⟩) (fun k hk => by
            simp only [Value.ownBlock, Option.toList_some, List.singleton_append, List.mem_cons] at hk
            rcases hk with rfl | hk
            · omega
            · have := hin k hk; omega)
          exact ⟨(((hac0.setCell (b := w.heap.size) (o := 0) (.int .i64 p) (by simp)).setCell (b := w.heap.size) (o := 1) (.int .i64 U) (by simp)).setCell (b := w.heap.size) (o := 2) (.slice (some ⟨gv, 0, none⟩) (elimS (p, (U : Int), l)).2.length cv) (by simp)).wk (fun z hz => Nat.le_of_lt hz), hlj.symm⟩
theorem fresh_sys {lo : Nat} {e : TypeId} {w : World} {p u : Int} {v : Value} {l : List Eqn} (hp : I64 p) (hu : I64 u) (h : AccP (fun z => lo ≤ z) e w v l) : Fresh lo w [.int .i64 p, .int .i64 u, v] ((p, u, l) : Sys) := by
  obtain ⟨ps, ho, hn, hA⟩ := h.ip
  exact ⟨[] ++ ([] ++ ps), mk_own (p := []) ⟨rfl, rfl, hp⟩ (mk_own (p := []) ⟨rfl, rfl, hu⟩ ho), by simpa using hn, fun k hk => hA k (by simpa using hk)⟩
theorem own0_sys {w : World} : Own [] w [.int .i64 0, .int .i64 0, .slice none 0 0] ((0, 0, []) : Sys) :=
  mk_own (p := []) ⟨rfl, rfl, ⟨by decide, by decide⟩⟩ (mk_own (p := []) ⟨rfl, rfl, ⟨by decide, by decide⟩⟩ ⟨_, rfl, .inl ⟨rfl, rfl, none, 0, rfl, Nat.zero_le _⟩⟩)
end Go.Proofs.YtoblfnoaepbhfaaGreat

