import Derived.Test.YtpkdiiagnplpkaaGreatThirdQm
import Derived.Test.YtpkdiiagnplpkaaGreatSemiBQm
import Derived.Test.YtpkdiiagnplpkaaGreatPairBQm
import Derived.Test.YtpkdiiagnplpkaaGreatGreedyQm
set_option linter.unusedSimpArgs false
set_option linter.unusedVariables false
set_option maxHeartbeats 4000000
set_option maxRecDepth 100000
namespace Go.Proofs.YtpkdiiagnplpkaaGreat
open Go.RowKit Go.Shelf Go.IntWalk
open Rep (Rd Own sz)
def voidP (ps : List RelT) : Bool := ps.any (fun r => decide (r.2.length = 0))
def majA (A : ArcS) : Vdct × Int := if goneD A.1 then ((1, [], A.2, [], []), 0) else ((0, [(A.1.getD 0 []).getD 0 0], [], [], []), 0)
def majP (size v : Nat) (P : PairS) : Vdct × Int := if voidP P.1 then ((2, [], [], P.2, []), 0) else if (greedyF size v P.1).2 then ((0, (greedyF size v P.1).1, [], [], []), 0) else (vd0, 6)
def majF (t : Tmpl) (x : Inst) (f : OpT) : Vdct × Int :=
 if wayF (majB t.1 f) t x f = 0 then (if x.1 = 1 then majA (arcsF t x (fullD t.1.toNat x.1.toNat)) else majP t.1.toNat x.1.toNat (pairsF t x)) else (vd0, wayF (majB t.1 f) t x f)
theorem ip_elem {α : Type} [Rep α] {A : Nat → Prop} {w : World} {g o n c : Nat} {l : List α} (h : Ip A w [.slice (some ⟨g, o, none⟩) n c] l) (hα : sz α = 1) (i : Nat) (hi : i < l.length) : ∃ vd, w.cell? ⟨g, o + i, none⟩ = some vd ∧ Ip A w [vd] l[i] := by
 obtain ⟨ps, ⟨v', e', ho⟩, hn, hb⟩ := h
 obtain rfl : Value.slice (some ⟨g, o, none⟩) n c = v' := by simpa using e'
 rcases ho with ⟨h0, _⟩ | ⟨g', o', c', cur, e, pss, hv, q1, q2, q3, rfl, q5, q6⟩
 · subst h0; exact absurd hi (Nat.not_lt_zero _)
 simp only [Value.slice.injEq, Option.some.injEq, Addr.mk.injEq, and_true] at hv
 obtain ⟨⟨rfl, rfl⟩, rfl, rfl⟩ := hv
 obtain ⟨p, vs, hp, hO, hc⟩ := q6 i hi
 have hlen := Rep.rd_len (Rep.own_rd hO)
 rw [hα] at hlen
 obtain ⟨vd, rfl⟩ : ∃ vd, vs = [vd] := by
  match vs, hlen with
  | [vd], _ => exact ⟨vd, rfl⟩
 have h0 := hc 0 (by simp)
 rw [hα, Nat.mul_one, Nat.add_zero] at h0
 have hpm : p ∈ pss := List.mem_of_getElem? hp
 rw [List.nodup_cons] at hn
 refine ⟨vd, by rw [cell_at_block q3]; simpa using h0, p, hO, ?_, fun k hk => hb k (List.mem_cons_of_mem _ (List.mem_flatten.2 ⟨p, hpm, hk⟩))⟩
 have := hn.2
 unfold List.Nodup at this ⊢
 rw [List.pairwise_flatten] at this
 exact this.1 p hpm
theorem ip_head1 {A : Nat → Prop} {w : World} {g o n c : Nat} {z : Int} {l : List Int} (h : Ip A w [.slice (some ⟨g, o, none⟩) n c] (z :: l)) : Ip A w [.slice (some ⟨g, o, none⟩) 1 1] [z] := by
 obtain ⟨ps, ⟨v', e', ho⟩, hn, hb⟩ := h
 obtain rfl : Value.slice (some ⟨g, o, none⟩) n c = v' := by simpa using e'
 rcases ho with ⟨h0, _⟩ | ⟨g', o', c', cur, e, pss, hv, q1, q2, q3, rfl, q5, q6⟩
 · cases h0
 simp only [Value.slice.injEq, Option.some.injEq, Addr.mk.injEq, and_true] at hv
 obtain ⟨⟨rfl, rfl⟩, rfl, rfl⟩ := hv
 obtain ⟨p, vs, hp, hO, hc⟩ := q6 0 (by simp)
 rw [List.nodup_cons] at hn
 have hp0 : p = [] := hO.1
 refine ⟨g :: List.flatten [p], ⟨_, rfl, .inr ⟨g, o, 1, cur, e, [p], rfl, Nat.le_refl _, by unfold maxLen; omega, q3, rfl, rfl, fun i hi => ?_⟩⟩, ?_, fun k hk => ?_⟩
 · obtain rfl : i = 0 := by simp at hi; omega
   exact ⟨p, vs, rfl, hO, hc⟩
 · subst hp0; simp
 · subst hp0
   simp only [List.flatten_cons, List.flatten_nil, List.append_nil, List.mem_cons, List.not_mem_nil, or_false] at hk
   subst hk
   exact hb _ (by simp)
theorem fresh_vdP {lo : Nat} {w : World} {k : Int} {v : Value} {l : List (Int × Int × Int)} (hI : I64 k) (h : Fresh lo w [v] l) : Fresh lo w [.int .i64 k, .slice none 0 0, .slice none 0 0, v, .slice none 0 0] ((k, [], [], l, []) : Vdct) := by
 obtain ⟨ps, h1, h2, h3⟩ := h
 have e : ∀ {α : Type} [Rep α], Own [] w [.slice none 0 0] ([] : List α) := ⟨_, rfl, .inl ⟨rfl, rfl, none, 0, rfl, Nat.zero_le _⟩⟩
 exact ⟨[] ++ ([] ++ ([] ++ (ps ++ []))), mk_own ⟨rfl, rfl, hI⟩ (mk_own e (mk_own e (mk_own h1 e))), by simpa using h2, fun k hk => h3 k (by simpa using hk)⟩
theorem fresh_lit1 {w : World} {z : Int} (hI : I64 z) {lo : Nat} (hlo : lo ≤ w.heap.size) (t : TypeId) : Fresh lo (w.alloc (.cells #[.int .i64 z] t)) [.slice (some ⟨w.heap.size, 0, none⟩) 1 1] [z] :=
 ⟨w.heap.size :: List.flatten [[]], ⟨_, rfl, .inr ⟨w.heap.size, 0, 1, #[.int .i64 z], t, [[]], rfl, Nat.le_refl _, by unfold maxLen; omega, heap_alloc_new _ _, rfl, rfl, fun i hi => by
  obtain rfl : i = 0 := by simp at hi; omega
  exact ⟨[], [.int .i64 z], rfl, ⟨rfl, rfl, hI⟩, fun k hk => by
   obtain rfl : k = 0 := by simpa using hk
   rfl⟩⟩⟩, by simp, fun k hk => by
  simp only [List.flatten_cons, List.flatten_nil, List.append_nil, List.mem_cons, List.not_mem_nil, or_false] at hk
  subst hk
  exact hlo⟩
theorem pairsOk_made {size : Int} {V : Nat} {P : List RelT} (hs : 1 ≤ size ∧ size ≤ 4) (h : PairOk size V P) (hV : V ≤ 10) : PairsOk size V P :=
 ⟨hV, h.len.trans (tri_half V).symm, fun r hr => by
  obtain ⟨q, rfl⟩ := h.sel r hr
  exact ⟨selT_rel hs, rfl⟩⟩
theorem hasNone_by (w : World) (l : List RelT) : PredRl 42 #[] w l (fun r => decide (r.2.length = 0)) := by
 intro W x v0 v1 hb hx _
 show Calls Tryz.prog 42 #[_] W _
 have z := rd_cons rfl hx
 obtain ⟨rfl, _⟩ := rd_i1 z.1
 obtain ⟨a, c, rfl, _⟩ := rd_list z.2
 clear hx z hb
 have hs1 := (St.start W).alloc #[.int .i64 x.1, .slice a x.2.length c] 87 (n := W.heap.size) (by simp)
 obtain ⟨k0_0, k0_1⟩ := hs1.c2 0 0 0 1
 go_enter Tryz.func42, Tryz.ntmps42
 by_cases h : x.2.length = 0
 · have hbb : ((x.2.length : Int) == 0) = true := by rw [h]; rfl
   have H9 := qH (show decide (x.2.length = 0) = true from decide_eq_true h)
   clear h
   go_wp2_with fail
   go_ret
   exact ⟨ret_bool H9.out.symm, hs1.bel⟩
 · have hbb : ((x.2.length : Int) == 0) = false := by rw [beq_eq_false_iff_ne]; omega
   have H9 := qH (show decide (x.2.length = 0) = false from decide_eq_false h)
   clear h
   go_wp2_with fail
   go_ret
   exact ⟨ret_bool H9.out.symm, hs1.bel⟩
theorem l06Void_c (ds : List RelT) (vd : Value) (w : World) (hd : Rd w [vd] ds) :
 Calls Tryz.prog 30 #[vd] w fun e w' => e = .returned (.bool (voidP ds)) ∧ Below w.heap.size w w' := by
 obtain ⟨ad, cd, rfl, hdr⟩ := rd_list hd
 have hb0 := (rdSl_len hdr).2
 unfold maxLen at hb0
 have HDR := qH hdr
 clear hd hdr
 go_enter Tryz.func30, Tryz.ntmps30
 go_wp2_with fail
 go_loopw [3] (fun iv wl => ∃ k : Nat, k ≤ ds.length ∧ iv = .int .i64 k ∧ Hid (Below w.heap.size w wl) ∧ Hid (∀ q (hq : q < ds.length), q < k → ds[q].2.length ≠ 0)) (fun iv _ => ds.length - (intOf iv).toNat)
 case atStart => exact ⟨0, Nat.zero_le _, rfl, Below.refl _ _, fun q hq h => absurd h (Nat.not_lt_zero _)⟩
 case round =>
  obtain ⟨k, hk, rfl, hbl, hr⟩ := hrel
  by_cases hlt : k < ds.length
  · have hkI : (k : Int) < ds.length := by omega
    obtain ⟨b4, o4, u3, u4, rfl, qc, qd, hdn⟩ := rdSl_two rfl HDR.out k hlt
    obtain ⟨a5, c5, rfl, _⟩ := rd_list (rd_cons rfl hdn).2
    obtain ⟨qd2, qc2⟩ := cL2 hbl.out qd qc
    clear qc
    have HYS := qH (fun (h : ds[k].2.length = 0) => show voidP ds = true from by
     unfold voidP
     rw [List.any_eq_true]
     exact ⟨ds[k], List.getElem_mem hlt, decide_eq_true h⟩)
    have HNX := qH (fun (h : ds[k].2.length ≠ 0) => show ∀ q (hq : q < ds.length), q < k + 1 → ds[q].2.length ≠ 0 from fun q hq hqk => by
     rcases Nat.lt_or_ge q k with h1 | h1
     · exact hr.out q hq h1
     · obtain rfl : q = k := by omega
       exact h)
    clear hdn qd
    generalize ds[k] = D at *
    by_cases h0 : D.2.length = 0
    · have hbb : ((D.2.length : Int) == 0) = true := by rw [h0]; rfl
      have H9 := qH (HYS.out h0)
      have HBF := qH hbl.out
      clear h0
      go_wp2_with fail
      go_ret
      exact ⟨ret_bool H9.out.symm, HBF.out⟩
    · have hbb : ((D.2.length : Int) == 0) = false := by rw [beq_eq_false_iff_ne]; omega
      have H9 := qH (HNX.out h0)
      have HBF := qH hbl.out
      clear h0
      go_wp2_with fail
      go_roundw
      case rel => exact ⟨k + 1, by omega, by go_num, HBF.out, H9.out⟩
      case measure => simp [intOf]; omega
  · obtain rfl : k = ds.length := by omega
    have hnl : ¬ ((ds.length : Int) < ds.length) := by omega
    have H9 := qH (show voidP ds = false from by
     unfold voidP
     rw [List.any_eq_false]
     intro d hd
     obtain ⟨q, hq, rfl⟩ := List.getElem_of_mem hd
     have := hr.out q hq hq
     simpa using this)
    have HBF := qH hbl.out
    go_wp2_with fail
    go_ret
    exact ⟨ret_bool H9.out.symm, HBF.out⟩
theorem l06WayM_c (t : Tmpl) (x : Inst) (f : OpT) (tb xb fb : Nat) (t0 t1 x0 x1 f0 f1 : Value) (w : World) (ht : Rd w [t0, t1] t) (hx : Rd w [x0, x1] x) (hf : Rd w [f0, f1] f)
 (tc0 : w.cell? ⟨tb, 0, none⟩ = some t0) (tc1 : w.cell? ⟨tb, 1, none⟩ = some t1) (xc0 : w.cell? ⟨xb, 0, none⟩ = some x0) (xc1 : w.cell? ⟨xb, 1, none⟩ = some x1) (fc0 : w.cell? ⟨fb, 0, none⟩ = some f0) (fc1 : w.cell? ⟨fb, 1, none⟩ = some f1) :
 Calls Tryz.prog 24 #[.pointer (some ⟨tb, 0, none⟩), .pointer (some ⟨xb, 0, none⟩), .pointer (some ⟨fb, 0, none⟩), .int .i64 7] w fun e w' => e = .returned (.int .i64 (wayF (majB t.1 f) t x f)) ∧ Below w.heap.size w w' := by
 obtain ⟨size, rs⟩ := t
 obtain ⟨vars, cs⟩ := x
 obtain ⟨fa, ft⟩ := f
 have HT := qH ht
 have HX := qH hx
 have HF := qH hf
 have zt := rd_cons rfl ht
 obtain ⟨rfl, _⟩ := rd_i1 zt.1
 obtain ⟨at0, ct0, rfl, _⟩ := rd_list zt.2
 have zx := rd_cons rfl hx
 obtain ⟨rfl, _⟩ := rd_i1 zx.1
 obtain ⟨ax, cx, rfl, _⟩ := rd_list zx.2
 have zf := rd_cons rfl hf
 obtain ⟨rfl, _⟩ := rd_i1 zf.1
 obtain ⟨af, cf, rfl, _⟩ := rd_list zf.2
 clear ht hx hf zt zx zf
 have tc0_ := qC (St.start w).bel tc0
 clear tc0_
 obtain ⟨tc0_, tc1_⟩ := cL2 (St.start w).bel tc0 tc1
 clear tc0_ tc1_
 obtain ⟨tc0_, tc1_, xc0_⟩ := cL3 (St.start w).bel tc0 tc1 xc0
 clear tc0_ tc1_ xc0_
 obtain ⟨tc0_, tc1_, xc0_, xc1_⟩ := cL4 (St.start w).bel tc0 tc1 xc0 xc1
 clear tc0_ tc1_ xc0_ xc1_
 obtain ⟨tc0_, tc1_, xc0_, xc1_, fc0_⟩ := cL5 (St.start w).bel tc0 tc1 xc0 xc1 fc0
 clear tc0_ tc1_ xc0_ xc1_ fc0_
 obtain ⟨tc0_, tc1_, xc0_, xc1_, fc0_, fc1_⟩ := cL6 (St.start w).bel tc0 tc1 xc0 xc1 fc0 fc1
 go_enter Tryz.func24, Tryz.ntmps24
 go_wp2_with fail
 refine (l05Ok_c (size, rs) (vars, cs) tb xb _ _ _ _ _ (Rd.mono HT.out (St.start w).bel) (Rd.mono HX.out (St.start w).bel) (qC (St.start w).bel tc0) (qC (St.start w).bel tc1) (qC (St.start w).bel xc0) (qC (St.start w).bel xc1)).mono ?_
 rintro e w2 ⟨rfl, hbw2⟩
 have hz_w2 : w.heap.size ≤ w2.heap.size := by have h9 := hbw2.size; (try simp at h9); omega
 have hs3 := (St.start w).step hbw2
 clear tc0_ tc1_ xc0_ xc1_ fc0_ fc1_
 obtain ⟨tc0_, tc1_, xc0_, xc1_, fc0_, fc1_⟩ := cL6 hs3.bel tc0 tc1 xc0 xc1 fc0 fc1
 cases h1 : instOk (size, rs) (vars, cs) with
 | false =>
  have H9 := qH (show wayF (majB size (fa, ft)) (size, rs) (vars, cs) (fa, ft) = 1 by unfold wayF; rw [h1]; rfl)
  clear h1
  go_wp2_with fail
  go_ret
  exact ⟨ret_int H9.out.symm, hs3.bel⟩
 | true =>
  have H1 := qH h1
  clear h1
  go_wp2_with fail
  refine (l02Ok_c size (fa, ft) fb 0 _ _ _ (Rd.mono HF.out hs3.bel) (qC hs3.bel fc0) (qC hs3.bel fc1)).mono ?_
  rintro e w4 ⟨rfl, hbw4⟩
  have hz_w4 : w2.heap.size ≤ w4.heap.size := by have h9 := hbw4.size; (try simp at h9); omega
  have hs5 := hs3.step hbw4
  clear tc0_ tc1_ xc0_ xc1_ fc0_ fc1_
  obtain ⟨tc0_, tc1_, xc0_, xc1_, fc0_, fc1_⟩ := cL6 hs5.bel tc0 tc1 xc0 xc1 fc0 fc1
  cases h2 : opOk size (fa, ft) with
  | false =>
   have H9 := qH (show wayF (majB size (fa, ft)) (size, rs) (vars, cs) (fa, ft) = 1 by unfold wayF; rw [H1.out, h2]; rfl)
   clear h2
   go_wp2_with fail
   go_ret
   exact ⟨ret_int H9.out.symm, hs5.bel⟩
  | true =>
   have H2 := qH h2
   clear h2
   go_wp2_with fail
   refine (l02KindM_c size (fa, ft) fb 0 _ _ _ (Rd.mono HF.out hs5.bel) (qC hs5.bel fc0) (qC hs5.bel fc1) H2.out).mono ?_
   rintro e w6 ⟨rfl, hbw6⟩
   have hz_w6 : w4.heap.size ≤ w6.heap.size := by have h9 := hbw6.size; (try simp at h9); omega
   have hs7 := hs5.step hbw6
   clear tc0_ tc1_ xc0_ xc1_ fc0_ fc1_
   obtain ⟨tc0_, tc1_, xc0_, xc1_, fc0_, fc1_⟩ := cL6 hs7.bel tc0 tc1 xc0 xc1 fc0 fc1
   cases h3 : majB size (fa, ft) with
   | false =>
    have H9 := qH (show wayF (majB size (fa, ft)) (size, rs) (vars, cs) (fa, ft) = 4 by unfold wayF; rw [H1.out, H2.out, h3]; rfl)
    clear h3
    go_wp2_with fail
    go_ret
    exact ⟨ret_int H9.out.symm, hs7.bel⟩
   | true =>
    have H3 := qH h3
    clear h3
    go_wp2_with fail
    refine (l02First_c (size, rs) (fa, ft) tb fb _ _ _ _ _ (Rd.mono HT.out hs7.bel) (Rd.mono HF.out hs7.bel) H2.out (tmplOk_get (instOk_get H1.out).1).2.2 (qC hs7.bel tc0) (qC hs7.bel tc1) (qC hs7.bel fc0) (qC hs7.bel fc1)).mono ?_
    rintro e w8 ⟨rfl, hbw8⟩
    have hz_w8 : w6.heap.size ≤ w8.heap.size := by have h9 := hbw8.size; (try simp at h9); omega
    have hs9 := hs7.step hbw8
    clear tc0_ tc1_ xc0_ xc1_ fc0_ fc1_
    obtain ⟨tc0_, tc1_, xc0_, xc1_, fc0_, fc1_⟩ := cL6 hs9.bel tc0 tc1 xc0 xc1 fc0 fc1
    have HM := qH (broken_m1 (size, rs) (fa, ft))
    cases h4 : decide (brokenF (size, rs) (fa, ft) < 0) with
    | false =>
     have H9 := qH (show wayF (majB size (fa, ft)) (size, rs) (vars, cs) (fa, ft) = 4 by unfold wayF; rw [H1.out, H2.out, H3.out, h4]; rfl)
     have hbm : (brokenF (size, rs) (fa, ft) != -1) = true := by rw [HM.out, h4]; rfl
     clear h4
     generalize brokenF (size, rs) (fa, ft) = BR at *
     go_wp2_with fail
     go_ret
     exact ⟨ret_int H9.out.symm, hs9.bel⟩
    | true =>
     have H9 := qH (show wayF (majB size (fa, ft)) (size, rs) (vars, cs) (fa, ft) = 0 by unfold wayF; rw [H1.out, H2.out, H3.out, h4]; rfl)
     have hbm : (brokenF (size, rs) (fa, ft) != -1) = false := by rw [HM.out, h4]; rfl
     clear h4
     generalize brokenF (size, rs) (fa, ft) = BR at *
     go_wp2_with fail
     go_ret
     exact ⟨ret_int H9.out.symm, hs9.bel⟩
end Go.Proofs.YtpkdiiagnplpkaaGreat
