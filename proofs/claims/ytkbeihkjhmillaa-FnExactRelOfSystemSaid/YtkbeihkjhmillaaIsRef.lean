/-
  CONTRACTS: IsRefutation of the program and of the reference. (Printed by wip/genref.py.)
-/
import Derived.Test.YtkbeihkjhmillaaTimes
import Derived.Test.YtkbeihkjhmillaaLess
import Derived.Test.YtkbeihkjhmillaaRref
import Derived.Test.YtkbeihkjhmillaaHolds
namespace Go.Proofs.Ytkbeihkjhmillaa
open Go.RowKit Go.Shelf Go.IntWalk
open Rep (Rd Own sz)
set_option linter.unusedSimpArgs false
set_option linter.unusedVariables false

def isRefRow (p : Int) (l : List Eqn) (b : List Int) (U : Nat) : Nat → RowT
  | 0 => (List.replicate (U + 1) 0, [])
  | j + 1 => addR p (b.getD j 0) (isRefRow p l b U j) ((l.getD j ([], 0)).1 ++ [(l.getD j ([], 0)).2], [])
def isRefS (p : Int) (l : List Eqn) (b : List Int) (U : Nat) : Nat → SRow
  | 0 => (List.replicate U 0, 0, [])
  | j + 1 => lessS p (p - b.getD j 0) (isRefS p l b U j) ((l.getD j ([], 0)).1, (l.getD j ([], 0)).2, [])
def isRefF (s : Sys) (b : List Int) : Bool × Int :=
  if validS s = true then (if valsOk s.1 b s.2.2.length = true then (contrQ (isRefRow s.1 s.2.2 b s.2.1.toNat s.2.2.length), 0) else (false, 0)) else (false, 1)
theorem eqn_good {p : Int} {U : Nat} {e : Eqn} (h : eqnOk p U e = true) : e.1.length = U ∧ Res p e.1 ∧ 0 ≤ e.2 ∧ e.2 < p := by
  simp only [eqnOk, Bool.and_eq_true] at h
  obtain ⟨h1, h2⟩ := valsOk_get h.1
  have h3 := inB_true h.2
  refine ⟨by omega, fun a ha => ?_, h3.1, by omega⟩
  obtain ⟨i, hi, rfl⟩ := List.getElem_of_mem ha
  have := h2 i hi
  omega
theorem getD_eqn {p : Int} {U : Nat} {l : List Eqn} (he : ∀ e, e ∈ l → eqnOk p U e = true) {j : Nat} (hj : j < l.length) : eqnOk p U (l.getD j ([], 0)) = true := by
  simp only [List.getD, List.getElem?_eq_getElem hj, Option.getD_some]; exact he _ (List.getElem_mem hj)
theorem isRef_good {p : Int} {U : Nat} {l : List Eqn} (b : List Int) (hp : 2 ≤ p) (he : ∀ e, e ∈ l → eqnOk p U e = true) : ∀ j, j ≤ l.length → GoodS p U 0 (isRefS p l b U j)
  | 0, _ => ⟨by simp [isRefS], rfl, fun a ha => by have := List.eq_of_mem_replicate ha; omega, ⟨Int.le_refl _, by show (0 : Int) < p; omega⟩, fun a ha => by cases ha⟩
  | j + 1, hj => by
    have h := eqn_good (getD_eqn he (by omega : j < l.length))
    exact goodS_less (by omega) _ (isRef_good b hp he j (by omega)) ⟨h.1, rfl, h.2.1, h.2.2, fun a ha => by cases ha⟩
theorem isRef_flat {p : Int} {U : Nat} {l : List Eqn} (b : List Int) (hp : 2 ≤ p) (he : ∀ e, e ∈ l → eqnOk p U e = true) : ∀ j, j ≤ l.length → flat (isRefS p l b U j) = isRefRow p l b U j
  | 0, _ => by
    unfold isRefS isRefRow flat
    simp only
    rw [List.replicate_succ']
  | j + 1, hj => by
    have h := eqn_good (getD_eqn he (by omega : j < l.length))
    have ho : GoodS p U 0 ((l.getD j ([], 0)).1, (l.getD j ([], 0)).2, []) := ⟨h.1, rfl, h.2.1, h.2.2, fun a ha => by cases ha⟩
    unfold isRefS isRefRow
    rw [flat_less _ (isRef_good b hp he j (by omega)) ho, isRef_flat b hp he j (by omega), show p - (p - b.getD j 0) = b.getD j 0 by omega]
    rfl
theorem flat_good {p : Int} {U n : Nat} {r : SRow} (h : GoodS p U n r) : (flat r).1.length = U + 1 ∧ (flat r).2.length = n ∧ Res p (flat r).1 ∧ Res p (flat r).2 := by
  refine ⟨by simp [flat, h.len], h.by_, fun a ha => ?_, h.resBy⟩
  rcases List.mem_append.1 ha with ha | ha
  · exact h.res a ha
  · obtain rfl : a = r.2.1 := by simpa using ha
    exact h.right
theorem res_snoc {p : Int} {l : List Int} {x : Int} (h : Res p l) (hx : 0 ≤ x ∧ x < p) : Res p (l ++ [x]) := fun a ha => by
  rcases List.mem_append.1 ha with ha | ha
  · exact h a ha
  · obtain rfl : a = x := by simpa using ha
    exact hx
theorem fresh_int {H : Nat} {w : World} {n : Int} (h : I64 n) : Fresh H w [.int .i64 n] n := ⟨[], ⟨rfl, rfl, h⟩, by simp, by simp⟩
theorem res_getD {p : Int} {b : List Int} {n : Int} (h : valsOk p b n = true) {j : Nat} (hj : j < b.length) : 0 ≤ b.getD j 0 ∧ b.getD j 0 < p := by
  have := (valsOk_get h).2 j hj
  simp only [List.getD, List.getElem?_eq_getElem hj, Option.getD_some]
  omega

set_option maxRecDepth 100000 in
set_option maxHeartbeats 4000000 in
theorem IsRefutation_c (x : Sys) (v0 v1 v2 : Value) (vs : List Int) (v3 : Value) (w : World) (hx : Rd w [v0, v1, v2] x) (hv : Rd w [v3] vs) :
    Calls Try.prog 23 #[.agg #[v0, v1, v2], v3] w fun e w' => e = .returned (.tuple #[.bool (isRefF x vs).1, .int .i64 (isRefF x vs).2]) ∧ Below w.heap.size w w' := by
  obtain ⟨p, u, l⟩ := x
  have HX := Lib.hid hx
  have HV := Lib.hid hv
  have z := rd_cons rfl hx
  obtain ⟨rfl, _⟩ := rd_i1 z.1
  have z2 := rd_cons rfl z.2
  obtain ⟨rfl, _⟩ := rd_i1 z2.1
  have RL := Lib.hid z2.2
  obtain ⟨a, c, rfl, _⟩ := rd_list RL.out
  obtain ⟨a', c', rfl, _⟩ := rd_list hv
  clear hx z z2 hv
  have hs := (St.start w).alloc #[.int .i64 p, .int .i64 u, .slice a l.length c] 31 rfl
  go_enter Try.func23, Try.ntmps23
  go_wp2_with fail
  refine (ValidSystem_c (p, u, l) _ _ _ _ (Rd.mono HX.out hs.bel)).mono ?_
  rintro e w1 ⟨rfl, hb1⟩
  have hs1 := hs.step hb1
  have q0 := hs1.cellAt 0 rfl 0 rfl
  have q1 := hs1.cellAt 0 rfl 1 rfl
  have q2 := hs1.cellAt 0 rfl 2 rfl
  cases hok : validS (p, u, l) with
  | false =>
    have HK := Lib.hid hok
    clear hok
    go_wp2_with fail
    refine bodyPost_ret (v := .tuple #[.bool false, .int .i64 1]) (by simp [results, Try.results23, go_sem]) rfl ⟨?_, hs1.bel⟩
    unfold isRefF; rw [HK.out]; rfl
  | true =>
    obtain ⟨hp, hu, hl, he⟩ := validS_get hok
    have HK := Lib.hid hok
    have HE := Lib.hid he
    clear hok he
    go_wp2_with fail
    refine (areValues_c p vs _ l.length _ (Rd.mono HV.out hs1.bel) (by omega) (by omega)).mono ?_
    rintro e w2 ⟨rfl, hb2⟩
    have hs2 := hs1.step hb2
    clear q0 q1 q2
    have q0 := hs2.cellAt 0 rfl 0 rfl
    have q1 := hs2.cellAt 0 rfl 1 rfl
    have q2 := hs2.cellAt 0 rfl 2 rfl
    cases hvo : valsOk p vs l.length with
    | false =>
      have HO := Lib.hid hvo
      clear hvo
      go_wp2_with fail
      refine bodyPost_ret (v := .tuple #[.bool false, .int .i64 0]) (by simp [results, Try.results23, go_sem]) rfl ⟨?_, hs2.bel⟩
      unfold isRefF; simp only [HK.out, HO.out]; rfl
    | true =>
      have HO := Lib.hid hvo
      have hvl := (valsOk_get hvo).1
      clear hvo
      obtain ⟨U, rfl⟩ : ∃ U : Nat, u = U := ⟨u.toNat, by omega⟩
      have hp0 : 2 ≤ p := by omega
      have hp3 : p ≤ 3 := by omega
      have HG := Lib.hid (fun j hj => flat_good (isRef_good vs hp0 HE.out j hj))
      have HF := Lib.hid (fun j hj => isRef_flat vs hp0 HE.out j hj)
      go_wp2_with (at_make; refine wpList_make_rep _ rfl _ _ 25 rfl E_ints (0 : Int) own0_int (U + 1) (by omega) rfl rfl ?_)
      intro w3 hown hb3 hz3
      have hs3 := (hs2.step hb3).alloc #[.slice (some ⟨w2.heap.size, 0, none⟩) (U + 1) (U + 1), .slice none 0 0] 90 (n := w2.heap.size + 1) hz3.symm
      have hR0 := Lib.hid (ownSl_rd hown)
      clear hown q0 q1 q2
      have q2 := hs3.cellAt 0 rfl 2 rfl
      go_wp2_with fail
      go_loopw [30] (fun i wr => ∃ (j : Nat) (am : Option Addr) (cm : Nat) (an : Option Addr) (cn : Nat), j ≤ l.length ∧ i = .int .i64 j ∧ Hid (St w wr.heap.size wr [(w.heap.size, #[.int .i64 p, .int .i64 U, .slice a l.length c], 31), (w2.heap.size + 1, #[.slice am (U + 1) cm, .slice an 0 cn], 90)]) ∧ Hid (Rd wr [.slice am (U + 1) cm, .slice an 0 cn] (isRefRow p l vs U j))) (fun i _ => l.length - (intOf i).toNat)
      case atStart =>
        refine ⟨0, some ⟨w2.heap.size, 0, none⟩, U + 1, none, 0, Nat.zero_le _, rfl, hs3.up hs3.hi (Nat.le_refl _), ?_⟩
        exact mk_cons (Rd.mono hR0.out (belowA _ _)) ⟨none, 0, rfl, by simp, by simp, fun i hi => by simp at hi⟩
      case round =>
        obtain ⟨j, am, cm, an, cn, hj, rfl, hst, hrd⟩ := hrel
        by_cases hlt : j < l.length
        · obtain ⟨bl, ol, y0, y1, rfl, f0, f1, hx⟩ := rd_two_at rfl (Rd.mono RL.out hst.out.bel) j hlt
          obtain ⟨bv, ov, rfl, fv, hIv⟩ := rd_int_at HV.out j (by omega)
          have hge := Lib.hid (getD_eqn HE.out hlt)
          have gv := res_getD HO.out (show j < vs.length by omega)
          have eE : l.getD j ([], 0) = l[j] := by simp [List.getD, hlt]
          have eV : vs.getD j 0 = vs[j]'(by omega) := by simp [List.getD, show j < vs.length by omega]
          have hstep := Lib.hid (show isRefRow p l vs U (j + 1) = addR p (vs.getD j 0) (isRefRow p l vs U j) ((l.getD j ([], 0)).1 ++ [(l.getD j ([], 0)).2], []) from rfl)
          rw [eV] at gv hstep
          rw [eE] at hge hstep
          have hg := HG.out j hj
          rw [HF.out j hj] at hg
          have HGJ := Lib.hid hg
          have hg1 := HG.out (j + 1) hlt
          rw [HF.out (j + 1) hlt] at hg1
          have HGJ1 := Lib.hid hg1
          clear hg hg1 eE
          have HXE := Lib.hid hx
          clear hx
          generalize hB : vs[j]'(by omega) = B at *
          clear hB eV
          generalize hEE : l[j] = E at *
          clear hEE
          obtain ⟨El, Er⟩ := E
          have ze := rd_cons rfl HXE.out
          have RE := Lib.hid ze.1
          obtain ⟨ae, ce, rfl, _⟩ := rd_list RE.out
          obtain ⟨rfl, hIr⟩ := rd_i1 ze.2
          obtain ⟨gE1, gE2, gE3⟩ := eqn_good hge.out
          simp only at gE1 gE2 gE3
          have GE1 := Lib.hid gE1
          have GE2 := Lib.hid gE2
          clear ze HXE hge gE1 gE2
          have hs4 := hst.out.alloc #[.slice ae El.length ce, .int .i64 Er] 48 rfl
          have hsd := hs4.drew
          have hjv : (j : Int) < vs.length := by omega
          have hzw : w.heap.size < w2.heap.size := Nat.lt_of_lt_of_le (hs2.box _ (List.mem_of_getElem? (i := 0) rfl)).2.1 hs2.hi
          have hzr : w2.heap.size + 1 < wr.heap.size := (hst.out.box _ (List.mem_of_getElem? (i := 1) rfl)).2.1
          have hU : El.length ≤ 12 := by rw [GE1.out]; omega
          have hq := ((St.start wr).alloc #[.slice ae El.length ce, .int .i64 Er] 48 rfl).drew
          go_wp2_with fail
          refine wp_region_noPanic (wp_region_tree (fun w' => w'.cell? ⟨w.heap.size, 0, none⟩ = some (.int .i64 p) ∧ w'.cell? ⟨w2.heap.size + 1, 0, none⟩ = some (.slice am (U + 1) cm) ∧ w'.cell? ⟨w2.heap.size + 1, 1, none⟩ = some (.slice an 0 cn) ∧ w'.cell? ⟨wr.heap.size, 0, none⟩ = some (.slice ae El.length ce) ∧ w'.cell? ⟨wr.heap.size, 1, none⟩ = some (.int .i64 Er) ∧ w'.cell? ⟨bv, ov + j, none⟩ = some (.int .i64 B)) (.float 0 (.float 1 (.float 2 (.float 3 (.float 4 (.float 6 (.float 7 (.float 11 (.float 12 (.float 13 (.float 14 (.fork2 5 (.hard 8 (.hard 9 (.float 10 (.hard 15 (.last 16 .nil))))) 8 (.hard 5 (.hard 9 (.float 10 (.hard 15 (.last 16 .nil))))))))))))))))) (by kernel_rfl) (by kernel_rfl) (by kernel_rfl) rfl ?_ (fun _ _ _ _ _ h => h) ?_)
          · exact ⟨hsd.cellAt 0 rfl 0 rfl, hsd.cellAt 1 rfl 0 rfl, hsd.cellAt 1 rfl 1 rfl, hsd.cellAt 2 rfl 0 rfl, hsd.cellAt 2 rfl 1 rfl, cellL hsd.bel fv⟩
          (repeat (first | (apply tr_skip rfl (by rfl); try simp only [Act.put, List.setIfInBounds_toArray, List.set_cons_zero, List.set_cons_succ]) | (apply tr_float rfl (by rfl); (· (intro w' hS; go_simp <;> with_reducible rfl)); (try simp only [Act.put, List.setIfInBounds_toArray, List.set_cons_zero, List.set_cons_succ]))))
          refine tr_fork2 ?_ ?_
          · refine tr_hard rfl (by rfl) (fun K hK => ?_)
            go_wp2_with (go_at_call 76; refine (cloneIntsA_c El _ _ (Rd.mono RE.out hq.bel) (by omega)).mono ?_; rintro e w4 ⟨b4, rfl, hA4, hb4⟩)
            have hs5 := hsd.step hb4
            have hq5 := hq.step hb4
            obtain ⟨m4, n4, rfl, _⟩ := Acc.len hA4
            refine ⟨⟨hs5.cellAt 0 rfl 0 rfl, hs5.cellAt 1 rfl 0 rfl, hs5.cellAt 1 rfl 1 rfl, hs5.cellAt 2 rfl 0 rfl, hs5.cellAt 2 rfl 1 rfl, cellL hs5.bel fv⟩, ?_⟩
            (repeat (first | (apply tr_skip rfl (by rfl); try simp only [Act.put, List.setIfInBounds_toArray, List.set_cons_zero, List.set_cons_succ]) | (apply tr_float rfl (by rfl); (· (intro w' hS; go_simp <;> with_reducible rfl)); (try simp only [Act.put, List.setIfInBounds_toArray, List.set_cons_zero, List.set_cons_succ]))))
            refine tr_hard rfl (by rfl) (fun K hK => ?_)
            go_wp2_with fail
            have hs5b := hs5.step (belowA _ (.cells #[.int .i64 Er] 2))
            have hq5b := hq5.step (belowA _ (.cells #[.int .i64 Er] 2))
            refine ⟨⟨hs5b.cellAt 0 rfl 0 rfl, hs5b.cellAt 1 rfl 0 rfl, hs5b.cellAt 1 rfl 1 rfl, hs5b.cellAt 2 rfl 0 rfl, hs5b.cellAt 2 rfl 1 rfl, cellL hs5b.bel fv⟩, ?_⟩
            (repeat (first | (apply tr_skip rfl (by rfl); try simp only [Act.put, List.setIfInBounds_toArray, List.set_cons_zero, List.set_cons_succ]) | (apply tr_float rfl (by rfl); (· (intro w' hS; go_simp <;> with_reducible rfl)); (try simp only [Act.put, List.setIfInBounds_toArray, List.set_cons_zero, List.set_cons_succ]))))
            refine tr_hard rfl (by rfl) (fun K hK => ?_)
            refine wp_append_acc _ _ _ _ rfl E_ints rfl (hA4.mono (belowA _ (.cells #[.int .i64 Er] 2))) (fresh_int hIr) (by first | (simp; done) | (have hz4 := hb4.size; simp at hz4 ⊢; omega)) (by simp) ⟨w4.heap.size, 0, none⟩ 1 rfl (fun z u hz => by
              cases z with
              | zero => simp at hz; subst hz; exact (cell_at_block (heap_alloc_new w4 _))
              | succ z => simp at hz) (by omega) ?_
            intro a5 c5 w5 hA5 hB5 _
            have hs6 := hs5b.stepB (hB5.mono (by simp))
            have hq6 := hq5b.stepB (hB5.mono (by simp))
            refine hK _ _ ⟨⟨hs6.cellAt 0 rfl 0 rfl, hs6.cellAt 1 rfl 0 rfl, hs6.cellAt 1 rfl 1 rfl, hs6.cellAt 2 rfl 0 rfl, hs6.cellAt 2 rfl 1 rfl, cellL hs6.bel fv⟩, ?_⟩
            (repeat (first | (apply tr_skip rfl (by rfl); try simp only [Act.put, List.setIfInBounds_toArray, List.set_cons_zero, List.set_cons_succ]) | (apply tr_float rfl (by rfl); (· (intro w' hS; go_simp <;> with_reducible rfl)); (try simp only [Act.put, List.setIfInBounds_toArray, List.set_cons_zero, List.set_cons_succ]))))
            refine tr_hard rfl (by rfl) (fun K hK => ?_)
            go_wp2_with (go_at_call 75; refine (addTimes_c p B (isRefRow p l vs U j) (El ++ [Er], []) _ _ _ _ _ (Rd.mono hrd.out hq6.bel) (mk_cons (by simpa using hA5.rd) ⟨none, 0, rfl, by simp, by simp, fun i hi => by simp at hi⟩) (by rw [HGJ.out.1]; omega) (by rw [HGJ.out.2.1]; omega) hp0 hp3 gv.1 (by omega) HGJ.out.2.2.1 HGJ.out.2.2.2 (res_snoc GE2.out gE3) (fun a ha => by cases ha) (by rw [HGJ.out.1]; simp; rw [GE1.out]; exact Nat.le_refl _) (by simp)).mono ?_; rintro e w6 ⟨o0, o1, rfl, fr, hb6⟩)
            rw [← hstep.out] at fr
            have zz := rd_cons rfl fr.rd
            obtain ⟨a0, c0, h0, _⟩ := rd_list zz.1
            obtain ⟨a1, c1, h1, _⟩ := rd_list zz.2
            rw [HGJ1.out.1] at h0
            rw [HGJ1.out.2.1] at h1
            subst h0 h1
            have hs7 := hs6.step hb6
            refine ⟨⟨hs7.cellAt 0 rfl 0 rfl, hs7.cellAt 1 rfl 0 rfl, hs7.cellAt 1 rfl 1 rfl, hs7.cellAt 2 rfl 0 rfl, hs7.cellAt 2 rfl 1 rfl, cellL hs7.bel fv⟩, ?_⟩
            (repeat (first | (apply tr_skip rfl (by rfl); try simp only [Act.put, List.setIfInBounds_toArray, List.set_cons_zero, List.set_cons_succ]) | (apply tr_float rfl (by rfl); (· (intro w' hS; go_simp <;> with_reducible rfl)); (try simp only [Act.put, List.setIfInBounds_toArray, List.set_cons_zero, List.set_cons_succ]))))
            have g0 := hs7.freeAt 1 rfl 0
            have g1 := hs7.freeAt 1 rfl 1
            have k0 := hs7.cellAt 1 rfl 0 rfl
            have k1 := hs7.cellAt 1 rfl 1 rfl
            have FR := Lib.hid fr
            have hz6 : w2.heap.size + 1 < w5.heap.size := Nat.lt_of_lt_of_le (hs6.box _ (List.mem_of_getElem? (i := 1) rfl)).2.1 hs6.hi
            clear fr zz
            refine tr_last rfl (by rfl) (fun K hK => ?_)
            go_wp2_with fail
            refine tr_nil (NoPanic.normal ?_)
            go_wp2_with fail
            go_roundw
            case rel =>
              have x1 := hs7.set (p := [_]) (by simp <;> omega) 0 (.slice a0 (U + 1) c0)
              have x2 := x1.set (p := [_]) (by simp <;> omega) 1 (.slice a1 0 c1)
              refine ⟨j + 1, a0, c0, a1, c1, hlt, by go_num, (x2.sub (fun x hx => by simp at hx ⊢; rcases hx with rfl | rfl <;> simp)).up x2.hi (Nat.le_refl _), ?_⟩
              exact ((FR.out.setCell (a := ⟨w2.heap.size + 1, 0, none⟩) hz6 _).setCell (a := ⟨w2.heap.size + 1, 1, none⟩) hz6 _).rd
            case measure => simp [intOf]; omega
          · refine tr_hard rfl (by rfl) (fun K hK => ?_)
            go_wp2_with fail
            have hs5 := hsd.step (belowA _ (.cells #[.int .i64 Er] 2))
            have hq5 := hq.step (belowA _ (.cells #[.int .i64 Er] 2))
            refine ⟨⟨hs5.cellAt 0 rfl 0 rfl, hs5.cellAt 1 rfl 0 rfl, hs5.cellAt 1 rfl 1 rfl, hs5.cellAt 2 rfl 0 rfl, hs5.cellAt 2 rfl 1 rfl, cellL hs5.bel fv⟩, ?_⟩
            (repeat (first | (apply tr_skip rfl (by rfl); try simp only [Act.put, List.setIfInBounds_toArray, List.set_cons_zero, List.set_cons_succ]) | (apply tr_float rfl (by rfl); (· (intro w' hS; go_simp <;> with_reducible rfl)); (try simp only [Act.put, List.setIfInBounds_toArray, List.set_cons_zero, List.set_cons_succ]))))
            refine tr_hard rfl (by rfl) (fun K hK => ?_)
            go_wp2_with (go_at_call 76; refine (cloneIntsA_c El _ _ (Rd.mono RE.out hq5.bel) (by omega)).mono ?_; rintro e w4 ⟨b4, rfl, hA4, hb4⟩)
            have hs5b := hs5.step hb4
            have hq5b := hq5.step hb4
            obtain ⟨m4, n4, rfl, _⟩ := Acc.len hA4
            refine ⟨⟨hs5b.cellAt 0 rfl 0 rfl, hs5b.cellAt 1 rfl 0 rfl, hs5b.cellAt 1 rfl 1 rfl, hs5b.cellAt 2 rfl 0 rfl, hs5b.cellAt 2 rfl 1 rfl, cellL hs5b.bel fv⟩, ?_⟩
            (repeat (first | (apply tr_skip rfl (by rfl); try simp only [Act.put, List.setIfInBounds_toArray, List.set_cons_zero, List.set_cons_succ]) | (apply tr_float rfl (by rfl); (· (intro w' hS; go_simp <;> with_reducible rfl)); (try simp only [Act.put, List.setIfInBounds_toArray, List.set_cons_zero, List.set_cons_succ]))))
            refine tr_hard rfl (by rfl) (fun K hK => ?_)
            refine wp_append_acc _ _ _ _ rfl E_ints rfl hA4 (fresh_int hIr) (by first | (simp; done) | (have hz4 := hb4.size; simp at hz4 ⊢; omega)) (by simp) ⟨wr.heap.size + 1, 0, none⟩ 1 rfl (fun z u hz => by
              cases z with
              | zero => simp at hz; subst hz; exact (cellL hb4 (cell_at_block (heap_alloc_at _ _ (by simp))))
              | succ z => simp at hz) (by omega) ?_
            intro a5 c5 w5 hA5 hB5 _
            have hs6 := hs5b.stepB (hB5.mono (by simp))
            have hq6 := hq5b.stepB (hB5.mono (by simp))
            refine hK _ _ ⟨⟨hs6.cellAt 0 rfl 0 rfl, hs6.cellAt 1 rfl 0 rfl, hs6.cellAt 1 rfl 1 rfl, hs6.cellAt 2 rfl 0 rfl, hs6.cellAt 2 rfl 1 rfl, cellL hs6.bel fv⟩, ?_⟩
            (repeat (first | (apply tr_skip rfl (by rfl); try simp only [Act.put, List.setIfInBounds_toArray, List.set_cons_zero, List.set_cons_succ]) | (apply tr_float rfl (by rfl); (· (intro w' hS; go_simp <;> with_reducible rfl)); (try simp only [Act.put, List.setIfInBounds_toArray, List.set_cons_zero, List.set_cons_succ]))))
            refine tr_hard rfl (by rfl) (fun K hK => ?_)
            go_wp2_with (go_at_call 75; refine (addTimes_c p B (isRefRow p l vs U j) (El ++ [Er], []) _ _ _ _ _ (Rd.mono hrd.out hq6.bel) (mk_cons (by simpa using hA5.rd) ⟨none, 0, rfl, by simp, by simp, fun i hi => by simp at hi⟩) (by rw [HGJ.out.1]; omega) (by rw [HGJ.out.2.1]; omega) hp0 hp3 gv.1 (by omega) HGJ.out.2.2.1 HGJ.out.2.2.2 (res_snoc GE2.out gE3) (fun a ha => by cases ha) (by rw [HGJ.out.1]; simp; rw [GE1.out]; exact Nat.le_refl _) (by simp)).mono ?_; rintro e w6 ⟨o0, o1, rfl, fr, hb6⟩)
            rw [← hstep.out] at fr
            have zz := rd_cons rfl fr.rd
            obtain ⟨a0, c0, h0, _⟩ := rd_list zz.1
            obtain ⟨a1, c1, h1, _⟩ := rd_list zz.2
            rw [HGJ1.out.1] at h0
            rw [HGJ1.out.2.1] at h1
            subst h0 h1
            have hs7 := hs6.step hb6
            refine ⟨⟨hs7.cellAt 0 rfl 0 rfl, hs7.cellAt 1 rfl 0 rfl, hs7.cellAt 1 rfl 1 rfl, hs7.cellAt 2 rfl 0 rfl, hs7.cellAt 2 rfl 1 rfl, cellL hs7.bel fv⟩, ?_⟩
            (repeat (first | (apply tr_skip rfl (by rfl); try simp only [Act.put, List.setIfInBounds_toArray, List.set_cons_zero, List.set_cons_succ]) | (apply tr_float rfl (by rfl); (· (intro w' hS; go_simp <;> with_reducible rfl)); (try simp only [Act.put, List.setIfInBounds_toArray, List.set_cons_zero, List.set_cons_succ]))))
            have g0 := hs7.freeAt 1 rfl 0
            have g1 := hs7.freeAt 1 rfl 1
            have k0 := hs7.cellAt 1 rfl 0 rfl
            have k1 := hs7.cellAt 1 rfl 1 rfl
            have FR := Lib.hid fr
            have hz6 : w2.heap.size + 1 < w5.heap.size := Nat.lt_of_lt_of_le (hs6.box _ (List.mem_of_getElem? (i := 1) rfl)).2.1 hs6.hi
            clear fr zz
            refine tr_last rfl (by rfl) (fun K hK => ?_)
            go_wp2_with fail
            refine tr_nil (NoPanic.normal ?_)
            go_wp2_with fail
            go_roundw
            case rel =>
              have x1 := hs7.set (p := [_]) (by simp <;> omega) 0 (.slice a0 (U + 1) c0)
              have x2 := x1.set (p := [_]) (by simp <;> omega) 1 (.slice a1 0 c1)
              refine ⟨j + 1, a0, c0, a1, c1, hlt, by go_num, (x2.sub (fun x hx => by simp at hx ⊢; rcases hx with rfl | rfl <;> simp)).up x2.hi (Nat.le_refl _), ?_⟩
              exact ((FR.out.setCell (a := ⟨w2.heap.size + 1, 0, none⟩) hz6 _).setCell (a := ⟨w2.heap.size + 1, 1, none⟩) hz6 _).rd
            case measure => simp [intOf]; omega
        · obtain rfl : j = l.length := by omega
          have hg := HG.out l.length (Nat.le_refl _)
          rw [HF.out l.length (Nat.le_refl _)] at hg
          have HGJ := Lib.hid hg
          clear hg
          have q0 := hst.out.cellAt 1 rfl 0 rfl
          have q1 := hst.out.cellAt 1 rfl 1 rfl
          go_wp2_with fail
          refine (isNone_c (isRefRow p l vs U l.length) _ _ _ hrd.out (by rw [HGJ.out.1]; omega) (by rw [HGJ.out.1]; omega)).mono ?_
          rintro e w4 ⟨rfl, hb4⟩
          have hs4 := hst.out.step hb4
          have k0 := hs4.cellAt 1 rfl 0 rfl
          have k1 := hs4.cellAt 1 rfl 1 rfl
          cases hn : noneR (isRefRow p l vs U l.length).1 with
          | false =>
            have HN := Lib.hid hn
            clear hn
            go_wp2_with fail
            refine bodyPost_ret (v := .tuple #[.bool false, .int .i64 0]) (by simp [results, Try.results23, go_sem]) rfl ⟨?_, hs4.bel⟩
            unfold isRefF contrQ; simp only [HK.out, HO.out, Int.toNat_natCast, HN.out]; rfl
          | true =>
            have HN := Lib.hid hn
            clear hn
            go_wp2_with fail
            refine (right_c (isRefRow p l vs U l.length) _ _ _ (Rd.mono hrd.out hb4) (by rw [HGJ.out.1]; omega) (by rw [HGJ.out.1]; omega)).mono ?_
            rintro e w5 ⟨rfl, hb5⟩
            go_wp2_with fail
            refine bodyPost_ret (v := .tuple #[.bool (rightR (isRefRow p l vs U l.length).1 != 0), .int .i64 0]) (by simp [results, Try.results23, go_sem]) rfl ⟨?_, (hs4.step hb5).bel⟩
            unfold isRefF contrQ; simp only [HK.out, HO.out, Int.toNat_natCast, HN.out, Bool.true_and]; rfl

end Go.Proofs.Ytkbeihkjhmillaa
