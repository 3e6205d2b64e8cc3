import Derived.Test.YtoblfnoaepbhfaaGreatSysBQz
import Derived.Test.YtoblfnoaepbhfaaGreatRowsBQz
set_option linter.unusedSimpArgs false
set_option linter.unusedVariables false
set_option maxHeartbeats 4000000
set_option maxRecDepth 100000
namespace Go.Proofs.YtoblfnoaepbhfaaGreat
open Go.Proofs.Tryz
open Go.RowKit Go.Shelf Go.IntWalk
open Rep (Rd Own sz)
theorem Gs (x : Sys) (v0 v1 v2 : Value) (vs : List Int) (v3 : Value) (w : World) (hx : Rd w [v0, v1, v2] x) (hv : Rd w [v3] vs) :
 Calls prog 169 #[.agg #[v0, v1, v2], v3] w fun e w' => e = .returned (.tuple #[.bool (kS x vs).1, .int .i64 (kS x vs).2]) ∧ Below w.heap.size w w' := by
 obtain ⟨p, u, l⟩ := x
 have HX := qH hx
 have HV := qH hv
 have z := au rfl hx
 obtain ⟨rfl, _⟩ := aG z.1
 have z2 := au rfl z.2
 obtain ⟨rfl, _⟩ := aG z2.1
 have RL := qH z2.2
 obtain ⟨a, c, rfl, _⟩ := ah RL.out
 obtain ⟨a', c', rfl, hr'⟩ := ah hv
 have hb := (aN hr').2
 unfold maxLen at hb
 clear hx z z2 hv hr'
 have hs := (St.start w).alloc #[.int .i64 p, .int .i64 u, .slice a l.length c] 61 rfl
 go_enter func169, ntmps169
 go_wp2_with fail
 refine (adF (p, u, l) _ _ _ _ _ (Rd.mono HX.out hs.bel) (hs.c 0 0) (hs.c 0 1) (hs.c 0 2)).mono ?_
 rintro e w1 ⟨rfl, n1, rfl⟩
 have hs1 := hs.drewN n1
 cases hok : jo (p, u, l)
 · have HK := qH hok
   clear hok
   go_wp2_with fail
   refine bodyPost_ret (v := .tuple #[.bool false, .int .i64 1]) (by simp [results, results169, go_sem]) rfl ⟨?_, hs1.bel⟩
   unfold kS; rw [HK.out]; rfl
 obtain ⟨hp, hu, hl, he⟩ := BJ hok
 have HK := qH hok
 have HE := qH he
 clear hok he
 obtain ⟨q0, q1, q2⟩ := hs1.c3 0 0 0 1 0 2
 by_cases hvl : vs.length = l.length
 rotate_left
 · have hvn : ((vs.length : Int) != l.length) = true := by simp; omega
   have HVL := qH hvl
   clear hvl
   go_wp2_with fail
   refine bodyPost_ret (v := .tuple #[.bool false, .int .i64 0]) (by simp [results, results169, go_sem]) rfl ⟨?_, hs1.bel⟩
   have : bG p vs l.length = false := by
    cases h : bG p vs l.length with
    | false => rfl
    | true => exact absurd (iR h).1 (by have := HVL.out; omega)
   unfold kS; simp only [HK.out, this]; rfl
 have hvn : ((vs.length : Int) != l.length) = false := by simp; omega
 have HVL := qH hvl
 have azj : vs.length ≤ l.length := by omega
 clear hvl
 obtain ⟨U, rfl⟩ : ∃ U : Nat, u = U := ⟨u.toNat, by omega⟩
 have hp0 : 2 ≤ p := by omega
 have hp3 : p ≤ 3 := by omega
 have HG := qH (fun j hj => yF vs hp0 HE.out j hj)
 have HF := qH (fun j hj => BL vs hp0 HE.out j hj)
 go_wp2_with (at_make; refine bV _ rfl _ _ 28 rfl eH (0 : Int) iL U (by omega) rfl rfl ?_)
 intro w3 hown hb3 hz3
 have hs3 := (hs1.step (by simpa using hb3)).alloc #[.slice (some ⟨w.heap.size + 1, 0, none⟩) U U, .int .i64 0, .slice none 0 0] 215 (n := w.heap.size + 1 + 1) (by simpa using hz3.symm)
 have hR0 := qH (bK hown (aB _ (.cells #[.slice (some ⟨w.heap.size + 1, 0, none⟩) U U, .int .i64 0, .slice none 0 0] 215)))
 clear hown q0 q1 q2
 go_wp2_with fail
 go_loopw [7] (fun i wr => ∃ (j : Nat), j ≤ l.length ∧ i = .int .i64 j ∧ Hid (∀ z, z < j → inB (vs.getD z 0) 0 (p - 1) = true) ∧ Hid (St w wr.heap.size wr [(w.heap.size, #[.int .i64 p, .int .i64 U, .slice a l.length c], 61), (w.heap.size + 1 + 1, #[.slice (some ⟨w.heap.size + 1, 0, none⟩) U U, .int .i64 (jq p l vs U j).2.1, .slice none 0 0], 215)]) ∧ Hid (bY [w.heap.size + 1] wr (.slice (some ⟨w.heap.size + 1, 0, none⟩) U U) (jq p l vs U j).1)) (fun i _ => l.length - (intOf i).toNat)
 case atStart =>
  refine ⟨0, Nat.zero_le _, rfl, fun z hz => absurd hz (Nat.not_lt_zero _), hs3.up hs3.hi (Nat.le_refl _), ?_⟩
  simpa [Hid, jq] using hR0.out
 obtain ⟨j, hj, rfl, hin, hst, how⟩ := hrel
 have hzw : w.heap.size + 1 + 1 < wr.heap.size := (hst.out.box _ (List.mem_of_getElem? (i := 1) rfl)).2.1
 by_cases hlt : j < l.length
 rotate_left
 · obtain rfl : j = l.length := by omega
   have hval := qH (show bG p vs l.length = true by
    simp only [bG, Bool.and_eq_true, decide_eq_true_eq, List.all_eq_true]
    refine ⟨by have := HVL.out; omega, fun y hy => ?_⟩
    obtain ⟨z, hz, rfl⟩ := List.getElem_of_mem hy
    have := hin.out z (by have := HVL.out; omega)
    simpa [List.getD, hz] using this)
   obtain ⟨q0, q1⟩ := hst.out.c2 1 0 1 1
   have hnj : ¬ ((l.length : Int) < vs.length) := by omega
   go_wp2_with fail
   refine (TQ _ _ _ (by have := P5 how.out; exact this)).mono ?_
   rintro e w4 ⟨rfl, rfl⟩
   have hall := qH (show decide (dN (fun a => a != 0) (jq p l vs U l.length).1 < 0) = (jq p l vs U l.length).1.all (fun a => a == 0) by
    rw [← EZ, ← oG]
    by_cases h : 0 ≤ dN (fun a => a != 0) (jq p l vs U l.length).1
    · simp [h]
    · simp [h]; omega)
   have hF := qH (show jY (jE p l vs U l.length) = ((jq p l vs U l.length).1.all (fun a => a == 0) && (jq p l vs U l.length).2.1 != 0) by
    rw [← HF.out l.length (Nat.le_refl _), vS])
   by_cases hfi : dN (fun a => a != 0) (jq p l vs U l.length).1 < 0
   · have HFI := qH hfi
     go_wp2_with fail
     refine bodyPost_ret (v := .tuple #[.bool ((jq p l vs U l.length).2.1 != 0), .int .i64 0]) (by simp [results, results169, go_sem]) rfl ⟨?_, hst.out.bel⟩
     have h1 := hall.out
     rw [decide_eq_true HFI.out] at h1
     unfold kS; simp only [HK.out, hval.out, Int.toNat_natCast, hF.out, ← h1, Bool.true_and]; rfl
   have HFI := qH hfi
   go_wp2_with fail
   refine bodyPost_ret (v := .tuple #[.bool false, .int .i64 0]) (by simp [results, results169, go_sem]) rfl ⟨?_, hst.out.bel⟩
   have h1 := hall.out
   rw [decide_eq_false (Int.not_lt.2 HFI.out)] at h1
   unfold kS; simp only [HK.out, hval.out, Int.toNat_natCast, hF.out, ← h1, Bool.false_and]; rfl
 have hltv : j < vs.length := by rw [HVL.out]; exact hlt
 obtain ⟨bl, ol, y0, y1, rfl, f00, f01, hx⟩ := dL rfl RL.out j hlt
 obtain ⟨f0, f1⟩ := iQ hst.out.bel f00 f01
 obtain ⟨bv, ov, rfl, fv, hIv⟩ := aI HV.out j hltv
 have hge := qH (Dj HE.out hlt)
 have eE : l.getD j ([], 0) = l[j] := by simp [List.getD, hlt]
 have eV : vs.getD j 0 = vs[j] := by simp [List.getD, hltv]
 have hstep := qH (show jq p l vs U (j + 1) = rP p (p - vs.getD j 0) (jq p l vs U j) ((l.getD j ([], 0)).1, (l.getD j ([], 0)).2, []) from rfl)
 have hin1 := qH (show ∀ b, inB (vs.getD j 0) 0 (p - 1) = b → inB vs[j] 0 (p - 1) = b from fun b h => by rw [← eV]; exact h)
 have hin2 := qH (show inB vs[j] 0 (p - 1) = true → ∀ z, z < j + 1 → inB (vs.getD z 0) 0 (p - 1) = true from fun h z hz => by
  rcases Nat.lt_or_ge z j with h1 | h1
  · exact hin.out z h1
  · obtain rfl : z = j := by omega
    rw [eV]; exact h)
 have hno := qH (show inB vs[j] 0 (p - 1) = false → bG p vs l.length = false from fun h => by
  simp only [bG, Bool.and_eq_false_iff]
  exact .inr (List.all_eq_false.2 ⟨_, List.getElem_mem hltv, by simp [h]⟩))
 rw [eV] at hstep
 rw [eE] at hge hstep
 have ZU := qH hx
 clear hx eE eV hin1
 have hjv : (j : Int) < vs.length := by omega
 obtain ⟨q0, q2⟩ := hst.out.c2 0 0 0 2
 have fv1 := qC hst.out.bel fv
 go_wp2_with fail
 refine BG (fun w' => cI w' w.heap.size 0 p ∧ cI w' bv (ov + j) (vs[j])) [(0, 0), (1, 0), (2, 0), (3, 0), (4, 0), (5, 0), (6, 0), (7, 1), (8, 0)] ?_ ?_
 · exact ⟨q0, fv1⟩
 refine nH ?_
 refine wU fun K hK => ?_
 go_wp2_with (go_at_call 137; refine (dw vs[j] 0 (p - 1) _).mono ?_; rintro e w4 ⟨rfl, rfl⟩)
 refine ⟨⟨q0, fv1⟩, ?_⟩
 refine nH ?_
 refine elN ?_
 cases hii : inB vs[j] 0 (p - 1)
 · have hv0 := qH (hno.out hii)
   have HII := qH hii
   clear hii
   go_wp2_with fail
   refine bodyPost_ret (v := .tuple #[.bool false, .int .i64 0]) (by simp [results, results169, go_sem]) rfl ⟨?_, hst.out.drew.bel⟩
   unfold kS; simp only [HK.out, hv0.out]; rfl
 have atL := qH (hin2.out hii)
 have gv := bQ hii
 have HII := qH hii
 clear hii hin2 hno
 generalize vs[j] = B at *
 generalize l[j] = E at *
 obtain ⟨El, Er⟩ := E
 have ze := au rfl ZU.out
 have RE := qH ze.1
 obtain ⟨ae, ce, rfl, _⟩ := ah RE.out
 obtain ⟨rfl, hIr⟩ := aG ze.2
 obtain ⟨gE1, gE2, gE3⟩ := nV hge.out
 simp only at gE1 gE2 gE3
 have GE1 := qH gE1
 have GE2 := qH gE2
 clear ze ZU hge gE1 gE2
 have hjl : (j : Int) < l.length := by omega
 go_wp2_with fail
 refine BG (fun w' => cV w' w.heap.size 2 (.slice (some ⟨bl, ol, none⟩) l.length c) ∧ cV w' bl (ol + j * 2) (.slice ae El.length ce) ∧ cI w' bl (ol + j * 2 + 1) Er) [(0, 0), (1, 0), (2, 0), (3, 0), (4, 0), (5, 0), (6, 0), (7, 0), (8, 0), (9, 0), (10, 0), (11, 0), (12, 0), (13, 1), (14, 2)] ?_ ?_
 · exact ⟨q2, f0, f1⟩
 refine nH ?_
 refine wU fun K hK => ?_
 go_wp2_with fail
 have hs4 := (hst.out.alloc #[.slice none 0 0, .int .i64 0, .slice none 0 0] 215 rfl).drew.drew
 have hq4 := ((St.start wr).alloc #[.slice none 0 0, .int .i64 0, .slice none 0 0] 215 rfl).drew.drew
 refine ⟨⟨hs4.c 0 2, (iQ hq4.bel f0 f1:)⟩, ?_⟩
 obtain ⟨k0, k1, k2⟩ := hs4.c3 2 0 2 1 2 2
 have g0 := hs4.aC 2 rfl 0
 have g1 := hs4.aC 2 rfl 1
 have g2 := hs4.aC 2 rfl 2
 refine XU fun K hK => ?_
 go_wp2_with fail
 refine elN ?_
 have hs5 := (hst.out.alloc #[.slice ae El.length ce, .int .i64 Er, .slice none 0 0] 215 rfl).drew.drew
 have hs6 := hs5.drew
 have HOW := qH (jg (w' := (wr.alloc (.cells #[.slice ae El.length ce, .int .i64 Er, .slice none 0 0] 215)).drew.drew.drew) (bK how.out (aB wr (.cells #[.slice ae El.length ce, .int .i64 Er, .slice none 0 0] 215))) rfl)
 clear k0 k1 k2 g0 g1 g2
 have q4 := hs6.c 0 0
 have fv4 := qC hs6.bel fv
 go_wp2_with fail
 refine BG (fun w' => cI w' w.heap.size 0 p ∧ cI w' bv (ov + j) B) [(0, 0), (1, 0), (2, 0), (3, 0), (4, 0), (5, 0), (6, 0), (7, 0), (8, 0), (9, 1)] ?_ ?_
 · exact ⟨q4, fv4⟩
 refine nH ?_
 refine wU fun K hK => ?_
 have hb0 : (jq p l vs U j).2.2 = [] := List.eq_nil_of_length_eq_zero (HG.out j hj).NY
 have hrow : yX (wr.alloc (.cells #[.slice ae El.length ce, .int .i64 Er, .slice none 0 0] 215)).drew.drew.drew (w.heap.size + 1 + 1) 0 #[.slice (some ⟨w.heap.size + 1, 0, none⟩) U U, .int .i64 (jq p l vs U j).2.1, .slice none 0 0] 215 [w.heap.size + 1] [] (.slice (some ⟨w.heap.size + 1, 0, none⟩) U U) (.slice none 0 0) (jq p l vs U j) :=
  ⟨(hs6.box _ (List.mem_of_getElem? (i := 1) rfl)).2.2, rfl, rfl, rfl, HOW.out, by rw [hb0]; exact .inl ⟨rfl, rfl, none, 0, rfl, Nat.zero_le _⟩, by simp, by simp, by simp⟩
 have hgg := HG.out j hj
 have GG := qH hgg
 have HS6 := qH hs6
 clear hgg hb0 hs4 hq4 hs5
 have oZ := qH hrow
 clear hrow
 have hw1 : IntKind.i64.wrap (p - B) = p - B := i64_in _ (by omega)
 have adV := qH (show ∀ (w' : World) (x : Int), aP ((w.heap.size + 1 + 1) :: ([w.heap.size + 1] ++ [])) (wr.alloc (.cells #[.slice ae El.length ce, .int .i64 Er, .slice none 0 0] 215)).drew.drew.drew w' → w'.heap[w.heap.size + 1 + 1]? = some (.cells (Array.setIfInBounds #[.slice (some ⟨w.heap.size + 1, 0, none⟩) U U, .int .i64 (jq p l vs U j).2.1, .slice none 0 0] (0 + 1) (.int .i64 x)) 215 (0, 0)) → WL w' wr.heap.size 0 (.slice ae El.length ce) (.slice none 0 0) (El, Er, []) from fun w' x ho hh => by
  have hbl : Below w.heap.size w w' := HS6.out.bel.trans (ho.below (by simp <;> omega))
  have hkb : w'.heap[wr.heap.size]? = some (.cells #[.slice ae El.length ce, .int .i64 Er, .slice none 0 0] 215 (0, 0)) := (ho.block wr.heap.size (by simp <;> omega)).trans (HS6.out.box _ (List.mem_of_getElem? (i := 2) rfl)).2.2
  exact ⟨aA hkb, aA hkb, aA hkb, Rd.mono RE.out hbl, ⟨none, 0, rfl, by simp, by simp, fun i hi => by simp at hi⟩⟩)
 go_wp2_with (go_at_call 278; refine (ZN p (p - B) (jq p l vs U j) (El, Er, []) _ 0 _ 0 _ _ [w.heap.size + 1] [] _ _ _ _ _ oZ.out adV.out hp0 hp3 (by omega) (by omega) GG.out.res GG.out.right GG.out.Le GE2.out gE3 (fun a ha => by cases ha) (by rw [GG.out.len]; exact GE1.out.symm) (by rw [GG.out.NY]; rfl)).mono ?_; rintro e w4 ⟨rfl, hrow, ZI⟩)
 rw [← hstep.out] at hrow
 have hblk : w4.heap[w.heap.size + 1 + 1]? = some (.cells #[.slice (some ⟨w.heap.size + 1, 0, none⟩) U U, .int .i64 (jq p l vs U (j + 1)).2.1, .slice none 0 0] 215 (0, 0)) := by simpa using hrow.blk
 have hs7 := HS6.out.only (p := [_]) (q := [_]) ZI (fun z hz => by simp at hz; omega) (fun x hx hp => by simp at hx hp; rcases hx with rfl | rfl <;> simp at hp <;> omega) hblk
 have WV := qH hrow
 clear hrow hblk
 refine ⟨⟨hs7.c 0 0, (qC hs7.bel fv:)⟩, ?_⟩
 refine nH ?_
 refine elN ?_
 go_wp2_with fail
 go_roundw
 case rel => exact ⟨j + 1, hlt, by go_num, atL.out, (hs7.sub (fun x hx => by simp at hx ⊢; rcases hx with rfl | rfl <;> simp)).up hs7.hi (Nat.le_refl _), WV.out.Qq⟩
 simp [intOf]; omega
end Go.Proofs.YtoblfnoaepbhfaaGreat
