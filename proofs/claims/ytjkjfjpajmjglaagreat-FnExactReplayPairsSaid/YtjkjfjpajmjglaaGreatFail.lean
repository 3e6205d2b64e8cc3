/-
  CONTRACTS: values at places; the first constraint that fails; the first relation that an operation breaks. Both sides.
-/
import Derived.Test.YtjkjfjpajmjglaaGreatArcI
import Derived.Test.YtjkjfjpajmjglaaGreatKeepS
import Derived.Test.YtjkjfjpajmjglaaGreatHas
import Derived.Test.YtjkjfjpajmjglaaGreatOwnS
namespace Go.Proofs.YtjkjfjpajmjglaaGreat
open Go.RowKit Go.Shelf Go.IntWalk
open Rep (Rd Own sz)
set_option linter.unusedSimpArgs false
set_option linter.unusedVariables false

def chosenL (vals places : List Int) : List Int := places.map (fun v => vals.getD v.toNat 0)
set_option maxHeartbeats 2000000 in
set_option maxRecDepth 100000 in
theorem chosen_c (vals places : List Int) (vv vp : Value) (w : World) (hv : Rd w [vv] vals) (hp : Rd w [vp] places) (hn : places.length ≤ 1000000) (hi : ∀ v, v ∈ places → 0 ≤ v ∧ v < vals.length) :
    Calls Tryz.prog 148 #[vv, vp] w fun e w' => ∃ v', e = .returned v' ∧ Fresh w.heap.size w' [v'] (chosenL vals places) ∧ Below w.heap.size w w' := by
  obtain ⟨av, cv, rfl, _⟩ := rd_list hv
  obtain ⟨ap, cp, rfl, _⟩ := rd_list hp
  have HV := Lib.hid hv
  have HP := Lib.hid hp
  have HI := Lib.hid hi
  clear hv hp hi
  have HM := Lib.hid (acc_made (α := Int) w 2)
  go_enter Tryz.func148, Tryz.ntmps148
  go_wp2_with fail
  go_loopw [5, 11] (fun oo i wl => ∃ (k : Nat) (ao : Option Addr) (co : Nat), k ≤ places.length ∧ i = .int .i64 k ∧ oo = .slice ao k co ∧ Hid (Below w.heap.size w wl) ∧ Hid (Acc w.heap.size wl.heap.size 2 wl (.slice ao k co) ((chosenL vals places).take k))) (fun _ i _ => places.length - (intOf i).toNat)
  case atStart => exact ⟨0, _, _, Nat.zero_le _, rfl, rfl, belowA _ _, by simpa [Hid] using HM.out⟩
  case round =>
    clear HM
    obtain ⟨k, ao, co, hk, rfl, rfl, hbl, hac⟩ := hrel
    have hsr := (St.start w).step hbl.out
    have HAC := hac
    have hb0 := hbl.out.size
    by_cases hlt : k < places.length
    · have hkl : (k : Int) < places.length := by omega
      obtain ⟨b, o, rfl, qk, _⟩ := rd_int_at (Rd.mono HP.out hsr.bel) k hlt
      have hvr := HI.out _ (List.getElem_mem hlt)
      obtain ⟨m, hm⟩ : ∃ m : Nat, places[k] = (m : Int) := ⟨(places[k]).toNat, by omega⟩
      have hml : m < vals.length := by omega
      have hmlI : (m : Int) < vals.length := by omega
      obtain ⟨b2, o2, rfl, qm, hI⟩ := rd_int_at (Rd.mono HV.out hsr.bel) m hml
      have hcl : k < (chosenL vals places).length := by simpa [chosenL] using hlt
      have HTK := Lib.hid (show (chosenL vals places).take (k + 1) = (chosenL vals places).take k ++ [vals[m]] by
        rw [List.take_succ_eq_append_getElem hcl]
        congr 2
        simp only [chosenL, List.getElem_map]
        rw [hm, Int.toNat_natCast, List.getD, List.getElem?_eq_getElem hml]
        rfl)
      have HLK := Lib.hid (show ((chosenL vals places).take k).length = k by rw [List.length_take]; omega)
      have HI2 := Lib.hid hI
      have HBL := Lib.hid hbl.out
      rw [hm] at qk
      clear hm hvr hI
      generalize vals[m] = X at *
      go_wp2_with (at_builtin; go_loud (refine wpList_append_ints _ rfl _ _ _ rfl E_ints rfl (Acc.mono HAC.out (belowA _ (.cells #[.int .i64 X] 2))) (by omega) (by simp) ⟨wr.heap.size, 0, none⟩ 1 rfl (ns := [X]) (news1 (cell_at_block (heap_alloc_new _ _))) (fun b hb => by simp at hb; subst hb; exact HI2.out) (by rw [HLK.out]; simp; omega) ?_); simp only [HLK.out, ← HTK.out]; intro a9 c9 w9 hA9 hB9 hK9)
      have HA9 := Lib.hid hA9
      have HB9 := Lib.hid (HBL.out.trans ((belowA wr (.cells #[.int .i64 X] 2)).mono HBL.out.size) |>.trans hB9)
      clear hA9 hB9 hK9
      go_wp2_with fail
      go_roundw
      case rel => exact ⟨k + 1, a9, c9, hlt, by go_num, rfl, HB9.out, HA9.out⟩
      case measure => simp [intOf]; omega
    · obtain rfl : k = places.length := by omega
      have hnl : ¬ ((places.length : Int) < places.length) := by omega
      have HBF := Lib.hid hbl.out
      have HAF := Lib.hid (show Fresh w.heap.size wr [.slice ao places.length co] (chosenL vals places) by
        have h := hac.out
        rw [List.take_of_length_le (by simp [chosenL])] at h
        exact h.fresh)
      go_wp2_with fail
      go_ret
      exact ⟨_, rfl, HAF.out, HBF.out⟩
set_option maxHeartbeats 2000000 in
set_option maxRecDepth 100000 in
theorem l01At_c (vals places : List Int) (vv vp : Value) (w : World) (hv : Rd w [vv] vals) (hp : Rd w [vp] places) (hn : places.length ≤ 1000000) (hi : ∀ v, v ∈ places → 0 ≤ v ∧ v < vals.length) :
    Calls Tryz.prog 210 #[vv, vp] w fun e w' => ∃ v', e = .returned v' ∧ Fresh w.heap.size w' [v'] (chosenL vals places) ∧ Below w.heap.size w w' := by
  obtain ⟨av, cv, rfl, _⟩ := rd_list hv
  obtain ⟨ap, cp, rfl, _⟩ := rd_list hp
  have HV := Lib.hid hv
  have HP := Lib.hid hp
  have HI := Lib.hid hi
  clear hv hp hi
  have HM := Lib.hid (acc_made (α := Int) w 2)
  go_enter Tryz.func210, Tryz.ntmps210
  go_wp2_with fail
  go_loopw [5, 6] (fun oo i wl => ∃ (k : Nat) (ao : Option Addr) (co : Nat), k ≤ places.length ∧ i = .int .i64 k ∧ oo = .slice ao k co ∧ Hid (Below w.heap.size w wl) ∧ Hid (Acc w.heap.size wl.heap.size 2 wl (.slice ao k co) ((chosenL vals places).take k))) (fun _ i _ => places.length - (intOf i).toNat)
  case atStart => exact ⟨0, _, _, Nat.zero_le _, rfl, rfl, belowA _ _, by simpa [Hid] using HM.out⟩
  case round =>
    clear HM
    obtain ⟨k, ao, co, hk, rfl, rfl, hbl, hac⟩ := hrel
    have hsr := (St.start w).step hbl.out
    have HAC := hac
    have hb0 := hbl.out.size
    by_cases hlt : k < places.length
    · have hkl : (k : Int) < places.length := by omega
      obtain ⟨b, o, rfl, qk, _⟩ := rd_int_at (Rd.mono HP.out hsr.bel) k hlt
      have hvr := HI.out _ (List.getElem_mem hlt)
      obtain ⟨m, hm⟩ : ∃ m : Nat, places[k] = (m : Int) := ⟨(places[k]).toNat, by omega⟩
      have hml : m < vals.length := by omega
      have hmlI : (m : Int) < vals.length := by omega
      obtain ⟨b2, o2, rfl, qm, hI⟩ := rd_int_at (Rd.mono HV.out hsr.bel) m hml
      have hcl : k < (chosenL vals places).length := by simpa [chosenL] using hlt
      have HTK := Lib.hid (show (chosenL vals places).take (k + 1) = (chosenL vals places).take k ++ [vals[m]] by
        rw [List.take_succ_eq_append_getElem hcl]
        congr 2
        simp only [chosenL, List.getElem_map]
        rw [hm, Int.toNat_natCast, List.getD, List.getElem?_eq_getElem hml]
        rfl)
      have HLK := Lib.hid (show ((chosenL vals places).take k).length = k by rw [List.length_take]; omega)
      have HI2 := Lib.hid hI
      have HBL := Lib.hid hbl.out
      rw [hm] at qk
      clear hm hvr hI
      generalize vals[m] = X at *
      go_wp2_with (at_builtin; go_loud (refine wpList_append_ints _ rfl _ _ _ rfl E_ints rfl (Acc.mono HAC.out (belowA _ (.cells #[.int .i64 X] 2))) (by omega) (by simp) ⟨wr.heap.size, 0, none⟩ 1 rfl (ns := [X]) (news1 (cell_at_block (heap_alloc_new _ _))) (fun b hb => by simp at hb; subst hb; exact HI2.out) (by rw [HLK.out]; simp; omega) ?_); simp only [HLK.out, ← HTK.out]; intro a9 c9 w9 hA9 hB9 hK9)
      have HA9 := Lib.hid hA9
      have HB9 := Lib.hid (HBL.out.trans ((belowA wr (.cells #[.int .i64 X] 2)).mono HBL.out.size) |>.trans hB9)
      clear hA9 hB9 hK9
      go_wp2_with fail
      go_roundw
      case rel => exact ⟨k + 1, a9, c9, hlt, by go_num, rfl, HB9.out, HA9.out⟩
      case measure => simp [intOf]; omega
    · obtain rfl : k = places.length := by omega
      have hnl : ¬ ((places.length : Int) < places.length) := by omega
      have HBF := Lib.hid hbl.out
      have HAF := Lib.hid (show Fresh w.heap.size wr [.slice ao places.length co] (chosenL vals places) by
        have h := hac.out
        rw [List.take_of_length_le (by simp [chosenL])] at h
        exact h.fresh)
      go_wp2_with fail
      go_ret
      exact ⟨_, rfl, HAF.out, HBF.out⟩
/-- What a right instance says of a constraint, its relation too. -/
structure ConF (t : Tmpl) (vars : Int) (c : OpT) (n : Nat) : Prop where
  rel : c.1 = (n : Int)
  lt : n < t.2.length
  inc : Inc (t.2.getD n (0, [])).2
  cnt : (t.2.getD n (0, [])).2.length ≤ 256
  sc : ∀ v, v ∈ c.2 → 0 ≤ v ∧ v < vars
  four : c.2.length ≤ 4
theorem conF_of {t : Tmpl} {x : Inst} (h : instOk t x = true) {c : OpT} (hc : c ∈ x.2) : ∃ n, ConF t x.1 c n := by
  obtain ⟨k, hk, rfl⟩ := List.getElem_of_mem hc
  obtain ⟨n, h1, h2, _, h4, h5⟩ := con_facts h hk
  have hr := (tmplOk_get (instOk_get h).1).2.2 _ (List.getElem_mem h2)
  have hg : t.2.getD n (0, []) = t.2[n] := by rw [List.getD, List.getElem?_eq_getElem h2]; rfl
  exact ⟨n, h1, h2, by rw [hg]; exact relOk_inc hr, by rw [hg]; exact (relOk_count hr).2, h4, h5⟩
def holdsC (t : Tmpl) (vals : List Int) (c : OpT) : Bool := hasT (t.2.getD c.1.toNat (0, [])).2 (chosenL vals c.2)
def failF (t : Tmpl) (x : Inst) (vals : List Int) : Int := firstI (fun c => !holdsC t vals c) x.2
set_option maxRecDepth 100000 in
set_option maxHeartbeats 2000000 in
theorem failing1_by (t : Tmpl) (x : Inst) (vals : List Int) (tb vb : Nat) (vr vv : Value) (w : World) (hok : instOk t x = true) (hl : (vals.length : Int) = x.1) (hr : Rd w [vr] t.2) (hv : Rd w [vv] vals) (hc1 : w.cell? ⟨tb, 1, none⟩ = some vr) (hcv : w.cell? ⟨vb, 0, none⟩ = some vv) :
    PredC 147 #[.pointer (some ⟨tb, 0, none⟩), .pointer (some ⟨vb, 0, none⟩)] w x.2 (fun c => !holdsC t vals c) := by
  intro W c u0 u1 hb hx hmem
  obtain ⟨n, hf⟩ := conF_of hok hmem
  have g1 := cellL hb hc1
  have gv := cellL hb hcv
  have HV := Lib.hid (Rd.mono hv hb)
  have hrW := Rd.mono hr hb
  clear hc1 hcv hr hv hb hmem
  show Calls Tryz.prog 147 #[_, .pointer (some ⟨tb, 0, none⟩), .pointer (some ⟨vb, 0, none⟩)] W _
  obtain ⟨size, rs⟩ := t
  obtain ⟨ci, sc⟩ := c
  obtain ⟨h1, h2, h3, h4, h5, h6⟩ := hf
  simp only at h1 h2 h3 h4 h5 h6 hrW
  subst h1
  have z := rd_cons rfl hx
  obtain ⟨rfl, _⟩ := rd_i1 z.1
  have HSC := Lib.hid z.2
  obtain ⟨a2, c2, rfl, _⟩ := rd_list z.2
  obtain ⟨av, cv, rfl, _⟩ := rd_list HV.out
  obtain ⟨a, cc, rfl, hrr⟩ := rd_list hrW
  obtain ⟨b, o, r0, r1, rfl, q0, q1, hy⟩ := rdSl_two rfl hrr n h2
  have hg : rs.getD n (0, []) = rs[n] := by rw [List.getD, List.getElem?_eq_getElem h2]; rfl
  have HQ := Lib.hid (show holdsC (size, rs) vals ((n : Int), sc) = hasT rs[n].2 (chosenL vals sc) by unfold holdsC; rw [Int.toNat_natCast]; simp only [hg])
  rw [hg] at h3 h4
  have HY := Lib.hid hy
  have hy0 := rd_cons rfl hy
  obtain ⟨rfl, _⟩ := rd_i1 hy0.1
  obtain ⟨a3, c3, rfl, _⟩ := rd_list hy0.2
  have HIN := Lib.hid h3
  have HCT := Lib.hid h4
  have HS := Lib.hid (show ∀ v, v ∈ sc → 0 ≤ v ∧ v < (vals.length : Int) from fun v hv => by have := h5 v hv; omega)
  have h2I : (n : Int) < rs.length := by omega
  clear hx z hrW hrr hy hy0 h3 h4 h5 hg hl
  generalize rs[n] = RN at *
  obtain ⟨ra, rt⟩ := RN
  simp only at q0 q1 HY
  have g1_ := cellL (St.start W).bel g1
  clear g1_
  have g1_ := cellL (St.start W).bel g1
  have gv_ := cellL (St.start W).bel gv
  clear g1_ gv_
  have g1_ := cellL (St.start W).bel g1
  have gv_ := cellL (St.start W).bel gv
  have q0_ := cellL (St.start W).bel q0
  clear g1_ gv_ q0_
  have g1_ := cellL (St.start W).bel g1
  have gv_ := cellL (St.start W).bel gv
  have q0_ := cellL (St.start W).bel q0
  have q1_ := cellL (St.start W).bel q1
  have hs1 := (St.start W).alloc #[.int .i64 n, .slice a2 sc.length c2] 160 (n := W.heap.size) (by simp)
  clear g1_ gv_ q0_ q1_
  have k0_0 := hs1.cellAt 0 rfl 0 rfl
  have k0_1 := hs1.cellAt 0 rfl 1 rfl
  have g1_ := cellL hs1.bel g1
  have gv_ := cellL hs1.bel gv
  have q0_ := cellL hs1.bel q0
  have q1_ := cellL hs1.bel q1
  go_enter Tryz.func147, Tryz.ntmps147
  go_upto_region 1 with fail
  refine wp_region_noPanic (wp_region_tree4 (fun w' => w'.cell? ⟨W.heap.size, 0, none⟩ = some (.int .i64 n) ∧ w'.cell? ⟨W.heap.size, 1, none⟩ = some (.slice a2 sc.length c2) ∧ w'.cell? ⟨tb, 1, none⟩ = some (.slice (some ⟨b, o, none⟩) rs.length cc) ∧ w'.cell? ⟨vb, 0, none⟩ = some (.slice av vals.length cv) ∧ w'.cell? ⟨b, o + n * 2, none⟩ = some (.int .i64 ra) ∧ w'.cell? ⟨b, o + n * 2 + 1, none⟩ = some (.slice a3 rt.length c3)) (.float 0 (.float 1 (.float 2 (.float 3 (.float 4 (.float 5 (.float 6 (.float 7 (.float 8 (.hard 9 (.hard 10 (.float 11 (.float 12 .nil))))))))))))) (by kernel_rfl) (by kernel_rfl) (by kernel_rfl) rfl ?_ (fun _ _ _ _ _ h => h) ?_)
  · exact ⟨(hs1.drew).cellAt 0 rfl 0 rfl, (hs1.drew).cellAt 0 rfl 1 rfl, cellL (hs1.drew).bel g1, cellL (hs1.drew).bel gv, cellL (hs1.drew).bel q0, cellL (hs1.drew).bel q1⟩
  have hs2 := hs1.drew
  clear k0_0 k0_1 g1_ gv_ q0_ q1_
  have hz_wd3 : W.heap.size + 1 ≤ ((W.alloc (.cells #[.int .i64 n, .slice a2 sc.length c2] 160)).drew).heap.size := by simp
  generalize hgen_wd3 : (W.alloc (.cells #[.int .i64 n, .slice a2 sc.length c2] 160)).drew = wd3 at *
  have HG_wd3 := Lib.hid hgen_wd3
  clear hgen_wd3
  (repeat (first | (apply t4_skip rfl (by rfl); try simp only [Act.put, List.setIfInBounds_toArray, List.set_cons_zero, List.set_cons_succ]) | (apply t4_float rfl (by rfl); (· (intro w' hS; go_simp <;> with_reducible rfl)); (try simp only [Act.put, List.setIfInBounds_toArray, List.set_cons_zero, List.set_cons_succ]))))
  refine t4_hard rfl (by rfl) (fun K hK => ?_)
  go_wp2_with (go_at_call 148; refine (chosen_c vals sc _ _ _ (Rd.mono HV.out hs2.bel) (Rd.mono HSC.out hs2.bel) (by omega) HS.out).mono ?_; rintro e w4 ⟨v9, rfl, fr9, hbw4⟩)
  have hz_w4 : wd3.heap.size ≤ w4.heap.size := by have h9 := hbw4.size; (try simp at h9); omega
  have hs5 := hs2.step hbw4
  obtain ⟨a9, c9, rfl, _⟩ := rd_list fr9.rd
  have HC9 := Lib.hid fr9
  clear fr9
  refine ⟨⟨hs5.cellAt 0 rfl 0 rfl, hs5.cellAt 0 rfl 1 rfl, cellL hs5.bel g1, cellL hs5.bel gv, cellL hs5.bel q0, cellL hs5.bel q1⟩, ?_⟩
  (repeat (first | (apply t4_skip rfl (by rfl); try simp only [Act.put, List.setIfInBounds_toArray, List.set_cons_zero, List.set_cons_succ]) | (apply t4_float rfl (by rfl); (· (intro w' hS; go_simp <;> with_reducible rfl)); (try simp only [Act.put, List.setIfInBounds_toArray, List.set_cons_zero, List.set_cons_succ]))))
  refine t4_hard rfl (by rfl) (fun K hK => ?_)
  go_wp2_with (go_at_call 134; refine (has_c (ra, rt) (chosenL vals sc) _ _ _ _ (Rd.mono HY.out hs5.bel) (Fresh.rd HC9.out) HIN.out (Nat.le_trans HCT.out (by decide))).mono ?_; rintro e w6 ⟨rfl, hbw6⟩)
  have hz_w6 : w4.heap.size ≤ w6.heap.size := by have h9 := hbw6.size; (try simp at h9); omega
  have hs7 := hs5.step hbw6
  have HC9_8 := Lib.hid (Fresh.mono HC9.out hbw6)
  clear HC9
  refine ⟨⟨hs7.cellAt 0 rfl 0 rfl, hs7.cellAt 0 rfl 1 rfl, cellL hs7.bel g1, cellL hs7.bel gv, cellL hs7.bel q0, cellL hs7.bel q1⟩, ?_⟩
  (repeat (first | (apply t4_skip rfl (by rfl); try simp only [Act.put, List.setIfInBounds_toArray, List.set_cons_zero, List.set_cons_succ]) | (apply t4_float rfl (by rfl); (· (intro w' hS; go_simp <;> with_reducible rfl)); (try simp only [Act.put, List.setIfInBounds_toArray, List.set_cons_zero, List.set_cons_succ]))))
  have k0_0 := hs7.cellAt 0 rfl 0 rfl
  have k0_1 := hs7.cellAt 0 rfl 1 rfl
  have g1_ := cellL hs7.bel g1
  have gv_ := cellL hs7.bel gv
  have q0_ := cellL hs7.bel q0
  have q1_ := cellL hs7.bel q1
  refine t4_nil (NoPanic.normal ?_)
  go_wp2_with fail
  go_ret
  exact ⟨ret_bool (by rw [HQ.out]), hs7.bel⟩
set_option maxRecDepth 100000 in
set_option maxHeartbeats 2000000 in
theorem failing_c (t : Tmpl) (x : Inst) (vals : List Int) (t0 t1 x0 x1 vv : Value) (w : World) (ht : Rd w [t0, t1] t) (hx : Rd w [x0, x1] x) (hv : Rd w [vv] vals) (hok : instOk t x = true) (hl : (vals.length : Int) = x.1) :
    Calls Tryz.prog 84 #[.agg #[t0, t1], .agg #[x0, x1], vv] w fun e w' => e = .returned (.int .i64 (failF t x vals)) ∧ Below w.heap.size w w' := by
  obtain ⟨size, rs⟩ := t
  obtain ⟨vars, cs⟩ := x
  have zt := rd_cons rfl ht
  obtain ⟨rfl, _⟩ := rd_i1 zt.1
  obtain ⟨at0, ct0, rfl, _⟩ := rd_list zt.2
  have zx := rd_cons rfl hx
  obtain ⟨rfl, _⟩ := rd_i1 zx.1
  obtain ⟨ax, cx, rfl, _⟩ := rd_list zx.2
  obtain ⟨av, cv, rfl, _⟩ := rd_list hv
  have HR := Lib.hid zt.2
  have HCS := Lib.hid zx.2
  have HV := Lib.hid hv
  have HOK := Lib.hid hok
  have HL := Lib.hid hl
  clear ht hx hv zt zx hok hl
  have eg : ∀ args w, (callFunc 147 args).run Tryz.prog w = .ok (.enter 147 args) w := enters_of Tryz.func147 (by kernel_rfl) rfl
  have hs9 := (St.start w).alloc #[.int .i64 size, .slice at0 rs.length ct0] 36 (n := w.heap.size) (by simp)
  have k0_0 := hs9.cellAt 0 rfl 0 rfl
  have k0_1 := hs9.cellAt 0 rfl 1 rfl
  have hs10 := hs9.alloc #[.int .i64 vars, .slice ax cs.length cx] 40 (n := w.heap.size + 1) (by simp)
  clear k0_0 k0_1
  have k0_0 := hs10.cellAt 0 rfl 0 rfl
  have k0_1 := hs10.cellAt 0 rfl 1 rfl
  have k1_0 := hs10.cellAt 1 rfl 0 rfl
  have k1_1 := hs10.cellAt 1 rfl 1 rfl
  have hs11 := hs10.alloc #[.slice av vals.length cv] 56 (n := w.heap.size + 1 + 1) (by simp)
  clear k0_0 k0_1 k1_0 k1_1
  have k0_0 := hs11.cellAt 0 rfl 0 rfl
  have k0_1 := hs11.cellAt 0 rfl 1 rfl
  have k1_0 := hs11.cellAt 1 rfl 0 rfl
  have k1_1 := hs11.cellAt 1 rfl 1 rfl
  have k2_0 := hs11.cellAt 2 rfl 0 rfl
  go_enter Tryz.func84, Tryz.ntmps84
  go_wp2_with fail
  refine (indexCons_c cs _ 147 _ _ _ (Rd.mono HCS.out hs11.bel) eg (failing1_by (size, rs) (vars, cs) vals (w.heap.size) (w.heap.size + 1 + 1) _ _ _ HOK.out HL.out (Rd.mono HR.out hs11.bel) (Rd.mono HV.out hs11.bel) (hs11.cellAt 0 rfl 1 rfl) (hs11.cellAt 2 rfl 0 rfl))).mono ?_
  rintro e w12 ⟨rfl, hbw12⟩
  have hz_w12 : w.heap.size + 1 + 1 + 1 ≤ w12.heap.size := by have h9 := hbw12.size; (try simp at h9); omega
  have hs13 := hs11.step hbw12
  clear k0_0 k0_1 k1_0 k1_1 k2_0
  have k0_0 := hs13.cellAt 0 rfl 0 rfl
  have k0_1 := hs13.cellAt 0 rfl 1 rfl
  have k1_0 := hs13.cellAt 1 rfl 0 rfl
  have k1_1 := hs13.cellAt 1 rfl 1 rfl
  have k2_0 := hs13.cellAt 2 rfl 0 rfl
  go_wp2_with fail
  go_ret
  exact ⟨rfl, hs13.bel⟩
set_option maxRecDepth 100000 in
set_option maxHeartbeats 2000000 in
theorem l05Holds_c (rs : List RelT) (vals : List Int) (n : Nat) (sc : List Int) (tb cb co : Nat) (vr vs vv : Value) (w : World) (hr : Rd w [vr] rs) (hs : Rd w [vs] sc) (hv : Rd w [vv] vals)
    (tc : w.cell? ⟨tb, 1, none⟩ = some vr) (p0 : w.cell? ⟨cb, co, none⟩ = some (.int .i64 n)) (p1 : w.cell? ⟨cb, co + 1, none⟩ = some vs) (hn : n < rs.length) (h4 : sc.length ≤ 4) (hi : ∀ v, v ∈ sc → 0 ≤ v ∧ v < vals.length) :
    Calls Tryz.prog 141 #[.pointer (some ⟨tb, 0, none⟩), .pointer (some ⟨cb, co, none⟩), vv] w fun e w' => e = .returned (.bool (hasT (rs.getD n (0, [])).2 (chosenL vals sc))) ∧ Below w.heap.size w w' := by
  have HSC := Lib.hid hs
  have HV := Lib.hid hv
  obtain ⟨a2, c2, rfl, _⟩ := rd_list hs
  obtain ⟨av, cv, rfl, _⟩ := rd_list hv
  obtain ⟨a, cc, rfl, hrr⟩ := rd_list hr
  obtain ⟨b, o, r0, r1, rfl, q0, q1, hy⟩ := rdSl_two rfl hrr n hn
  rw [show rs.getD n (0, []) = rs[n] by rw [List.getD, List.getElem?_eq_getElem hn]; rfl]
  have hy0 := rd_cons rfl hy
  obtain ⟨rfl, _⟩ := rd_i1 hy0.1
  have HY := Lib.hid hy0.2
  obtain ⟨a3, c3, rfl, _⟩ := rd_list hy0.2
  have HI := Lib.hid hi
  have hnI : (n : Int) < rs.length := by omega
  clear hr hs hv hrr hy hy0 hi
  generalize rs[n] = RN at *
  obtain ⟨ra, rt⟩ := RN
  simp only at q0 q1 HY
  have tc_ := cellL (St.start w).bel tc
  clear tc_
  have tc_ := cellL (St.start w).bel tc
  have p0_ := cellL (St.start w).bel p0
  clear tc_ p0_
  have tc_ := cellL (St.start w).bel tc
  have p0_ := cellL (St.start w).bel p0
  have p1_ := cellL (St.start w).bel p1
  clear tc_ p0_ p1_
  have tc_ := cellL (St.start w).bel tc
  have p0_ := cellL (St.start w).bel p0
  have p1_ := cellL (St.start w).bel p1
  have q0_ := cellL (St.start w).bel q0
  clear tc_ p0_ p1_ q0_
  have tc_ := cellL (St.start w).bel tc
  have p0_ := cellL (St.start w).bel p0
  have p1_ := cellL (St.start w).bel p1
  have q0_ := cellL (St.start w).bel q0
  have q1_ := cellL (St.start w).bel q1
  go_enter Tryz.func141, Tryz.ntmps141
  go_upto_region 1 with fail
  refine wp_region_noPanic (wp_region_tree4 (fun w' => w'.cell? ⟨tb, 1, none⟩ = some (.slice (some ⟨b, o, none⟩) rs.length cc) ∧ w'.cell? ⟨cb, co, none⟩ = some (.int .i64 n) ∧ w'.cell? ⟨cb, co + 1, none⟩ = some (.slice a2 sc.length c2) ∧ w'.cell? ⟨b, o + n * 2, none⟩ = some (.int .i64 ra) ∧ w'.cell? ⟨b, o + n * 2 + 1, none⟩ = some (.slice a3 rt.length c3)) (.float 0 (.float 1 (.float 2 (.float 3 (.float 4 (.float 5 (.float 6 (.float 7 (.float 8 (.float 9 (.float 10 (.float 11 (.float 12 (.float 13 (.hard 14 (.hard 15 (.float 16 .nil))))))))))))))))) (by kernel_rfl) (by kernel_rfl) (by kernel_rfl) rfl ?_ (fun _ _ _ _ _ h => h) ?_)
  · exact ⟨cellL ((St.start w).drew).bel tc, cellL ((St.start w).drew).bel p0, cellL ((St.start w).drew).bel p1, cellL ((St.start w).drew).bel q0, cellL ((St.start w).drew).bel q1⟩
  have hs14 := (St.start w).drew
  clear tc_ p0_ p1_ q0_ q1_
  have hz_wd15 : w.heap.size ≤ (w.drew).heap.size := by simp
  generalize hgen_wd15 : w.drew = wd15 at *
  have HG_wd15 := Lib.hid hgen_wd15
  clear hgen_wd15
  (repeat (first | (apply t4_skip rfl (by rfl); try simp only [Act.put, List.setIfInBounds_toArray, List.set_cons_zero, List.set_cons_succ]) | (apply t4_float rfl (by rfl); (· (intro w' hS; go_simp <;> with_reducible rfl)); (try simp only [Act.put, List.setIfInBounds_toArray, List.set_cons_zero, List.set_cons_succ]))))
  refine t4_hard rfl (by rfl) (fun K hK => ?_)
  go_wp2_with (go_at_call 210; refine (l01At_c vals sc _ _ _ (Rd.mono HV.out hs14.bel) (Rd.mono HSC.out hs14.bel) (by omega) HI.out).mono ?_; rintro e w16 ⟨v9, rfl, fr9, hbw16⟩)
  have hz_w16 : wd15.heap.size ≤ w16.heap.size := by have h9 := hbw16.size; (try simp at h9); omega
  have hs17 := hs14.step hbw16
  obtain ⟨a9, c9, rfl, _⟩ := rd_list fr9.rd
  have HC9 := Lib.hid fr9
  clear fr9
  refine ⟨⟨cellL hs17.bel tc, cellL hs17.bel p0, cellL hs17.bel p1, cellL hs17.bel q0, cellL hs17.bel q1⟩, ?_⟩
  (repeat (first | (apply t4_skip rfl (by rfl); try simp only [Act.put, List.setIfInBounds_toArray, List.set_cons_zero, List.set_cons_succ]) | (apply t4_float rfl (by rfl); (· (intro w' hS; go_simp <;> with_reducible rfl)); (try simp only [Act.put, List.setIfInBounds_toArray, List.set_cons_zero, List.set_cons_succ]))))
  refine t4_hard rfl (by rfl) (fun K hK => ?_)
  go_wp2_with (go_at_call 195; refine (l01Has_c (ra, rt) (chosenL vals sc) b (o + n * 2) _ _ _ (Rd.mono HY.out hs17.bel) (cellL hs17.bel q1) (Fresh.rd HC9.out)).mono ?_; rintro e w18 ⟨rfl, hbw18⟩)
  have hz_w18 : w16.heap.size ≤ w18.heap.size := by have h9 := hbw18.size; (try simp at h9); omega
  have hs19 := hs17.step hbw18
  have HC9_20 := Lib.hid (Fresh.mono HC9.out hbw18)
  clear HC9
  refine ⟨⟨cellL hs19.bel tc, cellL hs19.bel p0, cellL hs19.bel p1, cellL hs19.bel q0, cellL hs19.bel q1⟩, ?_⟩
  (repeat (first | (apply t4_skip rfl (by rfl); try simp only [Act.put, List.setIfInBounds_toArray, List.set_cons_zero, List.set_cons_succ]) | (apply t4_float rfl (by rfl); (· (intro w' hS; go_simp <;> with_reducible rfl)); (try simp only [Act.put, List.setIfInBounds_toArray, List.set_cons_zero, List.set_cons_succ]))))
  have tc_ := cellL hs19.bel tc
  have p0_ := cellL hs19.bel p0
  have p1_ := cellL hs19.bel p1
  have q0_ := cellL hs19.bel q0
  have q1_ := cellL hs19.bel q1
  refine t4_nil (NoPanic.normal ?_)
  go_wp2_with fail
  go_ret
  exact ⟨rfl, hs19.bel⟩
set_option maxRecDepth 100000 in
set_option maxHeartbeats 4000000 in
theorem l05Failing_c (t : Tmpl) (x : Inst) (vals : List Int) (tb xb : Nat) (t0 t1 x0 x1 vv : Value) (w : World) (ht : Rd w [t0, t1] t) (hx : Rd w [x0, x1] x) (hv : Rd w [vv] vals) (hok : instOk t x = true) (hl : (vals.length : Int) = x.1)
    (tc : w.cell? ⟨tb, 1, none⟩ = some t1) (xc : w.cell? ⟨xb, 1, none⟩ = some x1) :
    Calls Tryz.prog 79 #[.pointer (some ⟨tb, 0, none⟩), .pointer (some ⟨xb, 0, none⟩), vv] w fun e w' => e = .returned (.int .i64 (failF t x vals)) ∧ Below w.heap.size w w' := by
  obtain ⟨size, rs⟩ := t
  obtain ⟨vars, cs⟩ := x
  simp only at hl
  have zt := rd_cons rfl ht
  obtain ⟨rfl, _⟩ := rd_i1 zt.1
  obtain ⟨at0, ct0, rfl, _⟩ := rd_list zt.2
  have zx := rd_cons rfl hx
  obtain ⟨rfl, _⟩ := rd_i1 zx.1
  obtain ⟨ax, cx, rfl, hcs⟩ := rd_list zx.2
  obtain ⟨av, cv, rfl, _⟩ := rd_list hv
  have hcl := (instOk_get hok).2.2.1
  simp only at hcl
  have HR := Lib.hid zt.2
  have HCS := Lib.hid hcs
  have HV := Lib.hid hv
  have HFC := Lib.hid (fun (k : Nat) (hk : k < cs.length) => conF_of hok (show cs[k] ∈ cs from List.getElem_mem hk))
  have HL := Lib.hid hl
  have HQ := Lib.hid (show failF (size, rs) (vars, cs) vals = firstI (fun c => !holdsC (size, rs) vals c) cs from rfl)
  clear ht hx hv zt zx hcs hok hl
  have tc_ := cellL (St.start w).bel tc
  clear tc_
  have tc_ := cellL (St.start w).bel tc
  have xc_ := cellL (St.start w).bel xc
  go_enter Tryz.func79, Tryz.ntmps79
  go_wp2_with fail
  go_loopw [7] (fun i wl => ∃ k : Nat, k ≤ cs.length ∧ i = .int .i64 k ∧ Hid (Below w.heap.size w wl) ∧ Hid (∀ j (hj : j < cs.length), j < k → (!holdsC (size, rs) vals cs[j]) = false)) (fun i _ => cs.length - (intOf i).toNat)
  case atStart => exact ⟨0, Nat.zero_le _, rfl, Below.refl _ _, fun j hj h => absurd h (Nat.not_lt_zero _)⟩
  case round =>
    obtain ⟨k, hk, rfl, hbl, hr⟩ := hrel
    have hs1 := (St.start w).step hbl.out
    have tc_ := cellL hs1.bel tc
    have xc_ := cellL hs1.bel xc
    have HB := hbl
    by_cases hlt : k < cs.length
    · have hkl : (k : Int) < cs.length := by omega
      obtain ⟨n, hf⟩ := HFC.out k hlt
      obtain ⟨b, o, u0, u1, rfl, p0, p1, hy⟩ := rdSl_two rfl HCS.out k hlt
      have hyz := rd_cons rfl hy
      obtain ⟨rfl, _⟩ := rd_i1 hyz.1
      obtain ⟨a1, c1, rfl, _⟩ := rd_list hyz.2
      have HSC := Lib.hid hyz.2
      have HNX := Lib.hid (fun (h : (!holdsC (size, rs) vals cs[k]) = false) => show ∀ j (hj : j < cs.length), j < k + 1 → (!holdsC (size, rs) vals cs[j]) = false from fun j hj hjk => by
        rcases Nat.lt_or_ge j k with h1 | h1
        · exact hr.out j hj h1
        · obtain rfl : j = k := by omega
          exact h)
      have HYS := Lib.hid (fun (h : (!holdsC (size, rs) vals cs[k]) = true) => firstI_at (q := fun c => !holdsC (size, rs) vals c) hlt hr.out h)
      have HHC := Lib.hid (show holdsC (size, rs) vals cs[k] = hasT (rs.getD n (0, [])).2 (chosenL vals cs[k].2) by unfold holdsC; rw [hf.rel, Int.toNat_natCast])
      obtain ⟨h1, h2, _, _, h5, h6⟩ := hf
      rw [h1] at p0
      have HS2 := Lib.hid (show ∀ v, v ∈ cs[k].2 → 0 ≤ v ∧ v < (vals.length : Int) from fun v hv => by have h9 := h5 v hv; have h8 := HL.out; (try simp only at h9); omega)
      clear hy hyz h1 h5
      generalize cs[k] = CK at *
      obtain ⟨cki, sc⟩ := CK
      simp only at p0 p1 h2 h6 HSC HHC HS2
      clear tc_ xc_
      have tc_ := cellL hs1.bel tc
      have xc_ := cellL hs1.bel xc
      have p0_ := cellL hs1.bel p0
      clear tc_ xc_ p0_
      have tc_ := cellL hs1.bel tc
      have xc_ := cellL hs1.bel xc
      have p0_ := cellL hs1.bel p0
      have p1_ := cellL hs1.bel p1
      clear tc_ xc_ p0_ p1_
      have tc_ := cellL hs1.bel tc
      have xc_ := cellL hs1.bel xc
      have p0_ := cellL hs1.bel p0
      have p1_ := cellL hs1.bel p1
      go_wp2_with fail
      refine (l05Holds_c rs vals n sc tb b (o + k * 2) _ _ _ _ (Rd.mono HR.out hs1.bel) (Rd.mono HSC.out hs1.bel) (Rd.mono HV.out hs1.bel) (cellL hs1.bel tc) (cellL hs1.bel p0) (cellL hs1.bel p1) h2 h6 HS2.out).mono ?_
      rintro e w5 ⟨rfl, hb5⟩
      have HB5 := Lib.hid (HB.out.trans (hb5.mono HB.out.size))
      clear hb5
      rw [← HHC.out]
      cases hh : holdsC (size, rs) vals (cki, sc) with
      | true =>
        have H9 := Lib.hid (HNX.out (by rw [hh]; rfl))
        clear hh
        go_wp2_with fail
        go_roundw
        case rel => exact ⟨k + 1, by omega, by go_num, HB5.out, H9.out⟩
        case measure => simp [intOf]; omega
      | false =>
        have H9 := Lib.hid (show failF (size, rs) (vars, cs) vals = (k : Int) by rw [HQ.out]; exact HYS.out (by rw [hh]; rfl))
        clear hh
        go_wp2_with fail
        go_ret
        exact ⟨ret_int H9.out.symm, HB5.out⟩
    · obtain rfl : k = cs.length := by omega
      have hnl : ¬ ((cs.length : Int) < cs.length) := by omega
      have H9 := Lib.hid (show failF (size, rs) (vars, cs) vals = -1 by rw [HQ.out]; exact firstI_no hr.out)
      have HBF := Lib.hid HB.out
      go_wp2_with fail
      go_ret
      exact ⟨ret_int H9.out.symm, HBF.out⟩

end Go.Proofs.YtjkjfjpajmjglaaGreat
