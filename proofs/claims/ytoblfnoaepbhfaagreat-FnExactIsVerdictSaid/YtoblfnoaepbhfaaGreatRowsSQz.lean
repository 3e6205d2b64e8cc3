import Derived.Test.YtoblfnoaepbhfaaGreatRowBQz
import Derived.Test.YtoblfnoaepbhfaaGreatSysBQz
import Derived.Test.YtoblfnoaepbhfaaGreatRowsBQz
import Derived.Test.YtoblfnoaepbhfaaGreatBaseQz
import Derived.Deep.DeepCutAuto
set_option linter.unusedSimpArgs false
set_option linter.unusedVariables false
set_option maxHeartbeats 8000000
set_option maxRecDepth 100000
namespace Go.Proofs.YtoblfnoaepbhfaaGreat
open Go.Proofs.Tryz
open Go.RowKit Go.Shelf Go.IntWalk
open Rep (Rd Own sz)
theorem Acc.form' {α : Type} [Rep α] {B H : Nat} {e : TypeId} {w : World} {v : Value} {l : List α} (h : Acc B H e w v l) (hl : 0 < l.length) : ∃ g c, v = .slice (some ⟨g, 0, none⟩) l.length c ∧ B ≤ g ∧ g < H := by
 obtain ⟨xs, cZ, h1, h2, h3, h4, h5⟩ := h
 rcases h1.2 with ⟨rfl, h0⟩ | ⟨g, cap, cur, rfl, hg, hh, hc, hm, hs, ht⟩
 · omega
 exact ⟨g, cap, rfl, h4 g (by simp [Value.ownBlock])⟩
theorem uj {w w' : World} {g : Nat} {o : Obj} (hb : Below w.heap.size w w') (h : w.heap[g]? = some o) : w'.heap[g]? = some o := by
 rw [hb.block g (Array.getElem?_eq_some_iff.1 h).1]; exact h
theorem jA {P : Program} (w : World) {o : Oper} {a : Act} {K : Act → World → Prop} {Q : Exit → Act → World → Prop} (l c : Operand) (t : TypeId) (hop : o.op = Op.makeSlice t l c)
 {e : TypeId} {α : Type} [Rep α] {z : Value} {bytes : Nat} (E : iK P t e α z bytes) (x0 : α) (h0 : ∀ w : World, Own [] w z.cells.toList x0) (n : Nat) (hn : n ≤ 1073741824)
 (hl : a.eval l = .int .i64 (n : Int)) (hc : a.eval c = .int .i64 (n : Int))
 (h : ∀ w', bY [w.heap.size] w' (.slice (some ⟨w.heap.size, 0, none⟩) n n) (List.replicate n x0) → Below w.heap.size w w' → w'.heap.size = w.heap.size + 1 → K (a.put o.dst (.slice (some ⟨w.heap.size, 0, none⟩) n n)) w') :
 o.wp P a w K Q := by
 obtain ⟨w', hrun, r1, r2, r3⟩ := CU (P := P) w t e E x0 h0 n hn
 unfold Oper.wp
 simp [execOp, hop, hl, hc, hrun, Result.andThen]
 exact h w' r1 r2 r3
theorem Uf (n : Nat) (l : List nG) (j : Nat) (h : j < l.length) : jd n 0 (l.take (j + 1)) = jd n 0 (l.take j) ++ [(l[j].1, l[j].2, (List.replicate n 0).set j 1)] := by
 rw [List.take_succ_eq_append_getElem h, Io]
 simp only [List.length_take, Nat.zero_add, Nat.min_eq_left (Nat.le_of_lt h)]
theorem Yl (p u : Int) (l : List nG) (sb : Nat) (v2 : Value) (w : World) (hx : Rd w [v2] l) (c2 : w.cell? ⟨sb, 2, none⟩ = some v2) (hl : l.length ≤ 24) (he : ∀ e, e ∈ l → e.1.length ≤ 12) :
 Calls prog 277 #[.pointer (some ⟨sb, 0, none⟩)] w fun e w' => ∃ g c, e = .returned (.slice (some ⟨g, 0, none⟩) l.length c) ∧ aQ w.heap.size w' [.slice (some ⟨g, 0, none⟩) l.length c] (jd l.length 0 l) ∧ Below w.heap.size w w' := by
 obtain ⟨a, c, rfl, _⟩ := ah hx
 have RL := qH hx
 have HE := qH he
 clear hx he
 go_enter func277, ntmps277
 go_wp2_with fail
 go_loopw [3, 4] (fun r3 i wr => ∃ (j g4 c4 : Nat), j ≤ l.length ∧ i = .int .i64 j ∧ r3 = .slice (some ⟨g4, 0, none⟩) j c4 ∧ Hid (Below w.heap.size w wr) ∧ Hid (Acc w.heap.size wr.heap.size 215 wr r3 (jd l.length 0 (l.take j)))) (fun _ i _ => l.length - (intOf i).toNat)
 case atStart =>
  have hac := (mJ (α := dF) w 215)
  refine ⟨0, _, _, Nat.zero_le _, rfl, rfl, aB w _, ?_⟩
  simpa [Hid, jd] using hac
 obtain ⟨j, g4, c4, hj, rfl, rfl, hbl, hac⟩ := hrel
 have Td := qC hbl.out c2
 have hlj : (jd l.length 0 (l.take j)).length = j := by rw [nJ]; simp; omega
 have hsw : w.heap.size ≤ wr.heap.size := hbl.out.size
 by_cases hlt : j < l.length
 rotate_left
 · obtain rfl : j = l.length := by omega
   go_wp2_with fail
   go_ret
   have h := hac.out
   rw [List.take_length] at h
   exact ⟨_, _, rfl, h.fresh, hbl.out⟩
 obtain ⟨bl, ol, y0, y1, rfl, f00, f01, hx⟩ := dL rfl RL.out j hlt
 have adK : (jd l.length 0 (l.take (j + 1))).length = j + 1 := by rw [nJ]; simp; omega
 obtain ⟨f0, f1⟩ := iQ hbl.out f00 f01
 have hU := HE.out l[j] (List.getElem_mem hlt)
 have hstep := qH (Uf l.length l j hlt)
 have ZU := qH hx
 clear hx f00 f01
 generalize l[j] = E at *
 obtain ⟨El, Er⟩ := E
 have ze := au rfl ZU.out
 have RE := qH (Rd.mono ze.1 hbl.out)
 obtain ⟨ae, ce, rfl, _⟩ := ah ze.1
 obtain ⟨rfl, hIr⟩ := aG ze.2
 simp only at hU
 clear ze ZU
 have hjl : (j : Int) < l.length := by omega
 have hq0 := (St.start wr).drew
 go_upto_region 5 with fail
 go_cut [5] from 7 to 47 (fun x5 wx => ∃ g gm mC nC, x5 = .pointer (some ⟨g, 0, none⟩) ∧ Hid (Below wr.heap.size wr wx) ∧ Hid (wx.heap[g]? = some (.cells #[.slice mC El.length nC, .int .i64 Er, .slice (some ⟨gm, 0, none⟩) l.length l.length] 215 (0, 0))) ∧ Hid (Ip (fun z => wr.heap.size ≤ z ∧ z < wx.heap.size ∧ z ≠ g ∧ z ≠ gm) wx [.slice mC El.length nC] El) ∧ Hid (bY [gm] wx (.slice (some ⟨gm, 0, none⟩) l.length l.length) (List.replicate l.length (0 : Int))) ∧ Hid (wr.heap.size ≤ g ∧ g < wx.heap.size ∧ wr.heap.size ≤ gm ∧ gm < wx.heap.size ∧ g ≠ gm))
 case first =>
  refine trR (fun w' => cV w' sb 2 (.slice (some ⟨bl, ol, none⟩) l.length c) ∧ cV w' bl (ol + j * 2) (.slice ae El.length ce) ∧ cI w' bl (ol + j * 2 + 1) Er) (.z [0,1,2,3,4,5,6,7,9,10,11,12,13,14,15,16,17,18,19,20,21] (.zG 8 (.mF 22 (.float 23 (.hard 24 (.last 25 .nil))) 24 (.hard 22 (.float 23 (.last 25 .nil)))) 22 (.mF 8 (.float 23 (.hard 24 (.last 25 .nil))) 24 (.hard 8 (.float 23 (.last 25 .nil)))) 24 (.mF 8 (.hard 22 (.float 23 (.last 25 .nil))) 22 (.hard 8 (.float 23 (.last 25 .nil)))))) ?_ ?_
  · exact ⟨Td, f0, f1⟩
  refine vK ?_
  refine Zh ?_ ?_ ?_
  · refine wW fun K hK => ?_
    go_wp2_with (go_at_call 220; refine (uK El _ _ (Rd.mono RE.out hq0.bel) (by omega)).mono ?_; rintro e wC ⟨bC, rfl, Og, hbC⟩)
    have zC : wr.heap.size ≤ wC.heap.size := by have := hbC.size; simpa using this
    have hq1 := hq0.step hbC
    obtain ⟨mC, nC, rfl, _⟩ := Acc.len Og
    obtain ⟨psC, WS, WT, WU⟩ := Og.zB
    have IC : Hid (Ip (fun z => wr.heap.size ≤ z ∧ z < wC.heap.size) wC [.slice mC El.length nC] El) := ⟨psC, ⟨_, rfl, WS⟩, WT, by simpa using WU⟩
    clear WS WT WU Og
    refine ⟨(fQ hq1.bel Td f0 f1:), ?_⟩
    refine vK ?_
    refine uz ?_ ?_
    · refine wW fun K hK => ?_
      refine jA _ _ _ 28 rfl eH (0 : Int) iL l.length (by omega) rfl rfl ?_
      intro wM jF uM hzM
      have ZM : Hid (wM.heap.size = wC.heap.size + 1) := qH (by simpa using hzM)
      clear hzM
      have hq2 := hq1.step uM
      have IC := qH (IC.out.mono uM)
      have OM : Hid (bY [wC.heap.size] wM (.slice (some ⟨wC.heap.size, 0, none⟩) l.length l.length) (List.replicate l.length (0 : Int))) := by simpa [Hid] using jF
      clear jF
      refine hK _ _ ⟨(fQ hq2.bel Td f0 f1:), ?_⟩
      refine vK ?_
      have IC0 := IC
      have OM0 := OM
      refine wW fun K hK => ?_
      go_wp2_with fail
      have hq3 := hq2.step (aB wM (.cells #[.slice none 0 0, .int .i64 0, .slice none 0 0] 215))
      have IC := qH (IC.out.mono (aB wM (.cells #[.slice none 0 0, .int .i64 0, .slice none 0 0] 215)))
      have OM := qH (bK OM.out (aB wM (.cells #[.slice none 0 0, .int .i64 0, .slice none 0 0] 215)))
      have HA : Hid ((wM.alloc (.cells #[.slice none 0 0, .int .i64 0, .slice none 0 0] 215)).heap[wM.heap.size]? = some (.cells #[.slice none 0 0, .int .i64 0, .slice none 0 0] 215 (0, 0))) := heap_alloc_new wM _
      refine ⟨(fQ hq3.bel Td f0 f1:), ?_⟩
      refine vK ?_
      refine Zl fun K hK => ?_
      go_wp2_with fail
      refine XV ?_
      go_wp2_with fail
      go_meet
      have zM := ZM.out
      exact ⟨wM.heap.size, wC.heap.size, mC, nC, rfl, (hq2.step (aB wM (.cells #[.slice mC El.length nC, .int .i64 Er, .slice (some ⟨wC.heap.size, 0, none⟩) l.length l.length] 215))).bel, heap_alloc_new wM _, (IC0.out.mono (aB _ _)).wk (fun z h => by simp; omega), bK OM0.out (aB _ _), by refine ⟨?_, ?_, ?_, ?_, ?_⟩ <;> first | omega | (simp; done) | (simp; omega)⟩
    refine wW fun K hK => ?_
    go_wp2_with fail
    have hq2 := hq1.step (aB wC (.cells #[.slice none 0 0, .int .i64 0, .slice none 0 0] 215))
    have IC := qH (IC.out.mono (aB wC (.cells #[.slice none 0 0, .int .i64 0, .slice none 0 0] 215)))
    have HA : Hid ((wC.alloc (.cells #[.slice none 0 0, .int .i64 0, .slice none 0 0] 215)).heap[wC.heap.size]? = some (.cells #[.slice none 0 0, .int .i64 0, .slice none 0 0] 215 (0, 0))) := heap_alloc_new wC _
    refine ⟨(fQ hq2.bel Td f0 f1:), ?_⟩
    refine vK ?_
    refine wW fun K hK => ?_
    refine jA _ _ _ 28 rfl eH (0 : Int) iL l.length (by omega) rfl rfl ?_
    intro wM jF uM hzM
    have ZM : Hid (wM.heap.size = wC.heap.size + 1 + 1) := qH (by simpa using hzM)
    clear hzM
    have hq3 := hq2.step uM
    have IC := qH (IC.out.mono uM)
    have HA := qH (uj uM HA.out)
    have OM : Hid (bY [wC.heap.size + 1] wM (.slice (some ⟨wC.heap.size + 1, 0, none⟩) l.length l.length) (List.replicate l.length (0 : Int))) := by simpa [Hid] using jF
    clear jF
    refine hK _ _ ⟨(fQ hq3.bel Td f0 f1:), ?_⟩
    refine vK ?_
    have k0 : wM.cell? ⟨wC.heap.size, 0, none⟩ = some (.slice none 0 0) := aA HA.out
    have k1 : wM.cell? ⟨wC.heap.size, 1, none⟩ = some (.int .i64 0) := aA HA.out
    have k2 : wM.cell? ⟨wC.heap.size, 2, none⟩ = some (.slice none 0 0) := aA HA.out
    have y0 : wM.frozen? ⟨wC.heap.size, 0, none⟩ = false := aO HA.out
    have y1 : wM.frozen? ⟨wC.heap.size, 1, none⟩ = false := aO HA.out
    have y2 : wM.frozen? ⟨wC.heap.size, 2, none⟩ = false := aO HA.out
    refine Zl fun K hK => ?_
    go_wp2_with fail
    refine XV ?_
    go_wp2_with fail
    go_meet
    have zM := ZM.out
    have ho := (((aP.refl [wC.heap.size] wM).setCell (p := ⟨wC.heap.size, 0, none⟩) (by simp) (.slice mC El.length nC)).setCell (p := ⟨wC.heap.size, 1, none⟩) (by simp) (.int .i64 Er)).setCell (p := ⟨wC.heap.size, 2, none⟩) (by simp) (.slice (some ⟨wC.heap.size + 1, 0, none⟩) l.length l.length)
    have hz := ho.size
    exact ⟨wC.heap.size, wC.heap.size + 1, mC, nC, rfl, hq3.bel.trans (ho.below (by simp <;> omega)), aZ _ _ _ _ _ _ _ (aZ _ _ _ _ _ _ _ (aZ _ _ _ _ _ _ _ HA.out)), (IC.out.frame (fun z h1 h2 => ho.block z (by simp <;> omega))).wk (fun z h => by rw [hz]; omega), dZ OM.out ho (by simp <;> omega), by refine ⟨?_, ?_, ?_, ?_, ?_⟩ <;> first | omega | (rw [hz]; omega)⟩
  · refine wW fun K hK => ?_
    refine jA _ _ _ 28 rfl eH (0 : Int) iL l.length (by omega) rfl rfl ?_
    intro wM jF uM hzM
    have ZM : Hid (wM.heap.size = wr.heap.size + 1) := qH (by simpa using hzM)
    clear hzM
    have hq1 := hq0.step uM
    have OM : Hid (bY [wr.heap.size] wM (.slice (some ⟨wr.heap.size, 0, none⟩) l.length l.length) (List.replicate l.length (0 : Int))) := by simpa [Hid] using jF
    clear jF
    refine hK _ _ ⟨(fQ hq1.bel Td f0 f1:), ?_⟩
    refine vK ?_
    refine uz ?_ ?_
    · refine wW fun K hK => ?_
      go_wp2_with (go_at_call 220; refine (uK El _ _ (Rd.mono RE.out hq1.bel) (by omega)).mono ?_; rintro e wC ⟨bC, rfl, Og, hbC⟩)
      have zC : wM.heap.size ≤ wC.heap.size := by have := hbC.size; simpa using this
      have hq2 := hq1.step hbC
      have OM := qH (bK OM.out hbC)
      obtain ⟨mC, nC, rfl, _⟩ := Acc.len Og
      obtain ⟨psC, WS, WT, WU⟩ := Og.zB
      have IC : Hid (Ip (fun z => wM.heap.size ≤ z ∧ z < wC.heap.size) wC [.slice mC El.length nC] El) := ⟨psC, ⟨_, rfl, WS⟩, WT, by simpa using WU⟩
      clear WS WT WU Og
      refine ⟨(fQ hq2.bel Td f0 f1:), ?_⟩
      refine vK ?_
      have IC0 := IC
      have OM0 := OM
      refine wW fun K hK => ?_
      go_wp2_with fail
      have hq3 := hq2.step (aB wC (.cells #[.slice none 0 0, .int .i64 0, .slice none 0 0] 215))
      have IC := qH (IC.out.mono (aB wC (.cells #[.slice none 0 0, .int .i64 0, .slice none 0 0] 215)))
      have OM := qH (bK OM.out (aB wC (.cells #[.slice none 0 0, .int .i64 0, .slice none 0 0] 215)))
      have HA : Hid ((wC.alloc (.cells #[.slice none 0 0, .int .i64 0, .slice none 0 0] 215)).heap[wC.heap.size]? = some (.cells #[.slice none 0 0, .int .i64 0, .slice none 0 0] 215 (0, 0))) := heap_alloc_new wC _
      refine ⟨(fQ hq3.bel Td f0 f1:), ?_⟩
      refine vK ?_
      refine Zl fun K hK => ?_
      go_wp2_with fail
      refine XV ?_
      go_wp2_with fail
      go_meet
      have zM := ZM.out
      exact ⟨wC.heap.size, wr.heap.size, mC, nC, rfl, (hq2.step (aB wC (.cells #[.slice mC El.length nC, .int .i64 Er, .slice (some ⟨wr.heap.size, 0, none⟩) l.length l.length] 215))).bel, heap_alloc_new wC _, (IC0.out.mono (aB _ _)).wk (fun z h => by simp; omega), bK OM0.out (aB _ _), by refine ⟨?_, ?_, ?_, ?_, ?_⟩ <;> first | omega | (simp; done) | (simp; omega)⟩
    refine wW fun K hK => ?_
    go_wp2_with fail
    have hq2 := hq1.step (aB wM (.cells #[.slice none 0 0, .int .i64 0, .slice none 0 0] 215))
    have OM := qH (bK OM.out (aB wM (.cells #[.slice none 0 0, .int .i64 0, .slice none 0 0] 215)))
    have HA : Hid ((wM.alloc (.cells #[.slice none 0 0, .int .i64 0, .slice none 0 0] 215)).heap[wM.heap.size]? = some (.cells #[.slice none 0 0, .int .i64 0, .slice none 0 0] 215 (0, 0))) := heap_alloc_new wM _
    refine ⟨(fQ hq2.bel Td f0 f1:), ?_⟩
    refine vK ?_
    refine wW fun K hK => ?_
    go_wp2_with (go_at_call 220; refine (uK El _ _ (Rd.mono RE.out hq2.bel) (by omega)).mono ?_; rintro e wC ⟨bC, rfl, Og, hbC⟩)
    have zC : wM.heap.size + 1 ≤ wC.heap.size := by have := hbC.size; simpa using this
    have hq3 := hq2.step hbC
    have OM := qH (bK OM.out hbC)
    have HA := qH (uj hbC HA.out)
    obtain ⟨mC, nC, rfl, _⟩ := Acc.len Og
    obtain ⟨psC, WS, WT, WU⟩ := Og.zB
    have IC : Hid (Ip (fun z => wM.heap.size + 1 ≤ z ∧ z < wC.heap.size) wC [.slice mC El.length nC] El) := ⟨psC, ⟨_, rfl, WS⟩, WT, by simpa using WU⟩
    clear WS WT WU Og
    refine ⟨(fQ hq3.bel Td f0 f1:), ?_⟩
    refine vK ?_
    have k0 : wC.cell? ⟨wM.heap.size, 0, none⟩ = some (.slice none 0 0) := aA HA.out
    have k1 : wC.cell? ⟨wM.heap.size, 1, none⟩ = some (.int .i64 0) := aA HA.out
    have k2 : wC.cell? ⟨wM.heap.size, 2, none⟩ = some (.slice none 0 0) := aA HA.out
    have y0 : wC.frozen? ⟨wM.heap.size, 0, none⟩ = false := aO HA.out
    have y1 : wC.frozen? ⟨wM.heap.size, 1, none⟩ = false := aO HA.out
    have y2 : wC.frozen? ⟨wM.heap.size, 2, none⟩ = false := aO HA.out
    refine Zl fun K hK => ?_
    go_wp2_with fail
    refine XV ?_
    go_wp2_with fail
    go_meet
    have zM := ZM.out
    have ho := (((aP.refl [wM.heap.size] wC).setCell (p := ⟨wM.heap.size, 0, none⟩) (by simp) (.slice mC El.length nC)).setCell (p := ⟨wM.heap.size, 1, none⟩) (by simp) (.int .i64 Er)).setCell (p := ⟨wM.heap.size, 2, none⟩) (by simp) (.slice (some ⟨wr.heap.size, 0, none⟩) l.length l.length)
    have hz := ho.size
    exact ⟨wM.heap.size, wr.heap.size, mC, nC, rfl, hq3.bel.trans (ho.below (by simp <;> omega)), aZ _ _ _ _ _ _ _ (aZ _ _ _ _ _ _ _ (aZ _ _ _ _ _ _ _ HA.out)), (IC.out.frame (fun z h1 h2 => ho.block z (by simp <;> omega))).wk (fun z h => by rw [hz]; omega), dZ OM.out ho (by simp <;> omega), by refine ⟨?_, ?_, ?_, ?_, ?_⟩ <;> first | omega | (rw [hz]; omega)⟩
  refine wW fun K hK => ?_
  go_wp2_with fail
  have hq1 := hq0.step (aB wr.drew (.cells #[.slice none 0 0, .int .i64 0, .slice none 0 0] 215))
  have HA : Hid ((wr.drew.alloc (.cells #[.slice none 0 0, .int .i64 0, .slice none 0 0] 215)).heap[wr.heap.size]? = some (.cells #[.slice none 0 0, .int .i64 0, .slice none 0 0] 215 (0, 0))) := heap_alloc_new wr.drew _
  have hqa := (St.start wr).step (aB wr (.cells #[.slice none 0 0, .int .i64 0, .slice none 0 0] 215))
  refine ⟨(fQ hqa.bel Td f0 f1:), ?_⟩
  refine vK ?_
  refine uz ?_ ?_
  · refine wW fun K hK => ?_
    go_wp2_with (go_at_call 220; refine (uK El _ _ (Rd.mono RE.out hq1.bel) (by omega)).mono ?_; rintro e wC ⟨bC, rfl, Og, hbC⟩)
    have zC : wr.heap.size + 1 ≤ wC.heap.size := by have := hbC.size; simpa using this
    have hq2 := hq1.step hbC
    have HA := qH (uj hbC HA.out)
    obtain ⟨mC, nC, rfl, _⟩ := Acc.len Og
    obtain ⟨psC, WS, WT, WU⟩ := Og.zB
    have IC : Hid (Ip (fun z => wr.heap.size + 1 ≤ z ∧ z < wC.heap.size) wC [.slice mC El.length nC] El) := ⟨psC, ⟨_, rfl, WS⟩, WT, by simpa using WU⟩
    clear WS WT WU Og
    refine ⟨(fQ hq2.bel Td f0 f1:), ?_⟩
    refine vK ?_
    refine wW fun K hK => ?_
    refine jA _ _ _ 28 rfl eH (0 : Int) iL l.length (by omega) rfl rfl ?_
    intro wM jF uM hzM
    have ZM : Hid (wM.heap.size = wC.heap.size + 1) := qH (by simpa using hzM)
    clear hzM
    have hq3 := hq2.step uM
    have IC := qH (IC.out.mono uM)
    have HA := qH (uj uM HA.out)
    have OM : Hid (bY [wC.heap.size] wM (.slice (some ⟨wC.heap.size, 0, none⟩) l.length l.length) (List.replicate l.length (0 : Int))) := by simpa [Hid] using jF
    clear jF
    refine hK _ _ ⟨(fQ hq3.bel Td f0 f1:), ?_⟩
    refine vK ?_
    have k0 : wM.cell? ⟨wr.heap.size, 0, none⟩ = some (.slice none 0 0) := aA HA.out
    have k1 : wM.cell? ⟨wr.heap.size, 1, none⟩ = some (.int .i64 0) := aA HA.out
    have k2 : wM.cell? ⟨wr.heap.size, 2, none⟩ = some (.slice none 0 0) := aA HA.out
    have y0 : wM.frozen? ⟨wr.heap.size, 0, none⟩ = false := aO HA.out
    have y1 : wM.frozen? ⟨wr.heap.size, 1, none⟩ = false := aO HA.out
    have y2 : wM.frozen? ⟨wr.heap.size, 2, none⟩ = false := aO HA.out
    refine Zl fun K hK => ?_
    go_wp2_with fail
    refine XV ?_
    go_wp2_with fail
    go_meet
    have zM := ZM.out
    have ho := (((aP.refl [wr.heap.size] wM).setCell (p := ⟨wr.heap.size, 0, none⟩) (by simp) (.slice mC El.length nC)).setCell (p := ⟨wr.heap.size, 1, none⟩) (by simp) (.int .i64 Er)).setCell (p := ⟨wr.heap.size, 2, none⟩) (by simp) (.slice (some ⟨wC.heap.size, 0, none⟩) l.length l.length)
    have hz := ho.size
    exact ⟨wr.heap.size, wC.heap.size, mC, nC, rfl, hq3.bel.trans (ho.below (by simp <;> omega)), aZ _ _ _ _ _ _ _ (aZ _ _ _ _ _ _ _ (aZ _ _ _ _ _ _ _ HA.out)), (IC.out.frame (fun z h1 h2 => ho.block z (by simp <;> omega))).wk (fun z h => by rw [hz]; omega), dZ OM.out ho (by simp <;> omega), by refine ⟨?_, ?_, ?_, ?_, ?_⟩ <;> first | omega | (rw [hz]; omega)⟩
  refine wW fun K hK => ?_
  refine jA _ _ _ 28 rfl eH (0 : Int) iL l.length (by omega) rfl rfl ?_
  intro wM jF uM hzM
  have ZM : Hid (wM.heap.size = wr.heap.size + 1 + 1) := qH (by simpa using hzM)
  clear hzM
  have hq2 := hq1.step uM
  have HA := qH (uj uM HA.out)
  have OM : Hid (bY [wr.heap.size + 1] wM (.slice (some ⟨wr.heap.size + 1, 0, none⟩) l.length l.length) (List.replicate l.length (0 : Int))) := by simpa [Hid] using jF
  clear jF
  refine hK _ _ ⟨(fQ hq2.bel Td f0 f1:), ?_⟩
  refine vK ?_
  refine wW fun K hK => ?_
  go_wp2_with (go_at_call 220; refine (uK El _ _ (Rd.mono RE.out hq2.bel) (by omega)).mono ?_; rintro e wC ⟨bC, rfl, Og, hbC⟩)
  have zC : wM.heap.size ≤ wC.heap.size := by have := hbC.size; simpa using this
  have hq3 := hq2.step hbC
  have OM := qH (bK OM.out hbC)
  have HA := qH (uj hbC HA.out)
  obtain ⟨mC, nC, rfl, _⟩ := Acc.len Og
  obtain ⟨psC, WS, WT, WU⟩ := Og.zB
  have IC : Hid (Ip (fun z => wM.heap.size ≤ z ∧ z < wC.heap.size) wC [.slice mC El.length nC] El) := ⟨psC, ⟨_, rfl, WS⟩, WT, by simpa using WU⟩
  clear WS WT WU Og
  refine ⟨(fQ hq3.bel Td f0 f1:), ?_⟩
  refine vK ?_
  have k0 : wC.cell? ⟨wr.heap.size, 0, none⟩ = some (.slice none 0 0) := aA HA.out
  have k1 : wC.cell? ⟨wr.heap.size, 1, none⟩ = some (.int .i64 0) := aA HA.out
  have k2 : wC.cell? ⟨wr.heap.size, 2, none⟩ = some (.slice none 0 0) := aA HA.out
  have y0 : wC.frozen? ⟨wr.heap.size, 0, none⟩ = false := aO HA.out
  have y1 : wC.frozen? ⟨wr.heap.size, 1, none⟩ = false := aO HA.out
  have y2 : wC.frozen? ⟨wr.heap.size, 2, none⟩ = false := aO HA.out
  refine Zl fun K hK => ?_
  go_wp2_with fail
  refine XV ?_
  go_wp2_with fail
  go_meet
  have zM := ZM.out
  have ho := (((aP.refl [wr.heap.size] wC).setCell (p := ⟨wr.heap.size, 0, none⟩) (by simp) (.slice mC El.length nC)).setCell (p := ⟨wr.heap.size, 1, none⟩) (by simp) (.int .i64 Er)).setCell (p := ⟨wr.heap.size, 2, none⟩) (by simp) (.slice (some ⟨wr.heap.size + 1, 0, none⟩) l.length l.length)
  have hz := ho.size
  exact ⟨wr.heap.size, wr.heap.size + 1, mC, nC, rfl, hq3.bel.trans (ho.below (by simp <;> omega)), aZ _ _ _ _ _ _ _ (aZ _ _ _ _ _ _ _ (aZ _ _ _ _ _ _ _ HA.out)), (IC.out.frame (fun z h1 h2 => ho.block z (by simp <;> omega))).wk (fun z h => by rw [hz]; omega), dZ OM.out ho (by simp <;> omega), by refine ⟨?_, ?_, ?_, ?_, ?_⟩ <;> first | omega | (rw [hz]; omega)⟩
 obtain ⟨g, gm, mC, nC, rfl, hbx, hcg, hic, hom, hbd⟩ := hcut
 have hbd2 := hbd.out
 have q2 : wc.cell? ⟨g, 2, none⟩ = some (.slice (some ⟨gm, 0, none⟩) l.length l.length) := aA hcg.out
 obtain ⟨g', o', c', hv, -, hc, hf, -, hset⟩ := oN hom.out j (by simpa using hlt)
 simp only [Value.slice.injEq, Option.some.injEq, Addr.mk.injEq, and_true] at hv
 obtain ⟨⟨rfl, rfl⟩, -, rfl⟩ := hv
 rw [Nat.zero_add] at hc hf hset
 have CO := qH (hset 1 ⟨by decide, by decide⟩)
 clear hset
 have ahe : Hid ((wc.setCell ⟨gm, j, none⟩ (.int .i64 1)).heap[g]? = some (.cells #[.slice mC El.length nC, .int .i64 Er, .slice (some ⟨gm, 0, none⟩) l.length l.length] 215 (0, 0))) := (Below.heap_setCell _ _ _ _ (by simp; omega)).trans hcg.out
 have aqp : Hid (Ip (fun z => wr.heap.size ≤ z ∧ z < wc.heap.size ∧ z ≠ g ∧ z ≠ gm) (wc.setCell ⟨gm, j, none⟩ (.int .i64 1)) [.slice mC El.length nC] El) := hic.out.frame (fun z h1 h2 => Below.heap_setCell _ _ _ _ (by simp; omega))
 have alD := qH (hbx.out.setCell (show wr.heap.size ≤ (⟨gm, j, none⟩ : Addr).block by simp only; omega) (.int .i64 1))
 have hz1 : (wc.setCell ⟨gm, j, none⟩ (.int .i64 1)).heap.size = wc.heap.size := by simp [World.setCell]
 have HZ1 := qH hz1
 clear hz1
 have k0 : (wc.setCell ⟨gm, j, none⟩ (.int .i64 1)).cell? ⟨g, 0, none⟩ = some (.slice mC El.length nC) := aA ahe.out
 have k1 : (wc.setCell ⟨gm, j, none⟩ (.int .i64 1)).cell? ⟨g, 1, none⟩ = some (.int .i64 Er) := aA ahe.out
 have k2 : (wc.setCell ⟨gm, j, none⟩ (.int .i64 1)).cell? ⟨g, 2, none⟩ = some (.slice (some ⟨gm, 0, none⟩) l.length l.length) := aA ahe.out
 have hwc : wr.heap.size ≤ wc.heap.size := hbx.out.size
 go_upto_region 7 with fail
 generalize wc.setCell ⟨gm, j, none⟩ (.int .i64 1) = W1 at *
 have BQ := aB W1 (.cells #[.slice mC El.length nC, .int .i64 Er, .slice (some ⟨gm, 0, none⟩) l.length l.length] 215)
 have IY2 : Ip (fun k => k = gm) (W1.alloc (.cells #[.slice mC El.length nC, .int .i64 Er, .slice (some ⟨gm, 0, none⟩) l.length l.length] 215)) [.int .i64 Er, .slice (some ⟨gm, 0, none⟩) l.length l.length] ((Er, (List.replicate l.length (0 : Int)).set j 1) : Int × List Int) :=
  ⟨[] ++ [gm], lS ⟨rfl, rfl, hIr⟩ ⟨_, rfl, bK CO.out BQ⟩, by simp, by simp⟩
 have IY := qH (vO (C := fun k => wr.heap.size ≤ k) (aqp.out.mono BQ) IY2 (fun k h1 h2 => by omega) (fun k h => by omega) (fun k h => by omega))
 have aqr := qH (hac.out.mono (alD.out.trans (BQ.mono (by rw [HZ1.out]; exact hwc))))
 clear IY2
 have qh := qH (heap_alloc_new W1 (.cells #[.slice mC El.length nC, .int .i64 Er, .slice (some ⟨gm, 0, none⟩) l.length l.length] 215))
 go_wp2_with (refine CS _ rfl _ _ _ rfl adf rfl aqr.out IY.out hsw (by simp [HZ1.out]; omega) ⟨W1.heap.size, 0, none⟩ 1 rfl (fun z u hz => by
  match z with
  | 0 => simp at hz; subst hz; exact aA qh.out
  | 1 => simp at hz; subst hz; exact aA qh.out
  | 2 => simp at hz; subst hz; exact aA qh.out
  | z + 3 => simp at hz) (by rw [hlj]; omega) ?_; intro a8 c8 w8 F6 JZ hK8)
 try rw [hlj] at F6
 rw [← hstep.out] at F6
 obtain ⟨g8, c9, e8, _⟩ := F6.form' (by rw [adK]; omega)
 simp only [Value.slice.injEq] at e8
 obtain ⟨rfl, -, rfl⟩ := e8
 go_roundw
 case rel => exact ⟨j + 1, g8, c8, hlt, by go_num, rfl, (hbl.out.trans ((alD.out.trans (BQ.mono (by rw [HZ1.out]; exact hwc))).mono hsw)).trans JZ, F6⟩
 simp [intOf]; omega
end Go.Proofs.YtoblfnoaepbhfaaGreat
