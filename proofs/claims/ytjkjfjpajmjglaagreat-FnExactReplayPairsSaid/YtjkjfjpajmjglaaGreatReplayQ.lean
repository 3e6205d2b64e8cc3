/-
  CONTRACTS: pair steps told again: the program's side.
-/
import Derived.Test.YtjkjfjpajmjglaaGreatNarrow
import Derived.Test.YtjkjfjpajmjglaaGreatFirstP
namespace Go.Proofs.YtjkjfjpajmjglaaGreat
open Go.RowKit Go.Shelf Go.IntWalk
open Rep (Rd Own sz)
set_option linter.unusedSimpArgs false
set_option linter.unusedVariables false

theorem replayP_ok (size V : Int) (hV : 0 ≤ V ∧ V ≤ 10) : ∀ (l : List (Int × Int × Int)) (i : Nat) (P : List RelT), PairOk size V.toNat P → (replayP size V l i P).1 = [] ∨ PairOk size V.toNat (replayP size V l i P).1
  | [], _, P, h => .inr h
  | (a, b, c) :: l, i, P, h => by
    rw [replayP]
    split
    · rename_i hc
      simp only [pairOkB, Bool.and_eq_true] at hc
      have h1 := pairStep_get hc.1 hV
      exact replayP_ok size V hV l (i + 1) _ (narrow_ok h (by simp only; omega) (by simp only; omega))
    · exact .inl rfl
/-- Relations in place and boxes; nothing else of the first world is written. -/
structure QW (w0 : World) (vp : Value) (bx : List (Nat × Array Value × TypeId)) (wl : World) (P : List RelT) : Prop where
  st : St w0 wl.heap.size wl bx
  dom : Ip (fun z => w0.heap.size ≤ z ∧ ∀ x, x ∈ bx → x.1 ≠ z) wl [vp] P
section
variable {w0 : World} {vp : Value} {bx : List (Nat × Array Value × TypeId)} {wl : World} {P : List RelT}
theorem QW.step (h : QW w0 vp bx wl P) {w1 : World} (hb : Below wl.heap.size wl w1) : QW w0 vp bx w1 P :=
  ⟨(h.st.step hb).up hb.size (Nat.le_refl _), h.dom.mono hb⟩
theorem QW.box (h : QW w0 vp bx wl P) (vs : Array Value) (ty : TypeId) : QW w0 vp (bx ++ [(wl.heap.size, vs, ty)]) (wl.alloc (.cells vs ty)) P := by
  have hb := belowA wl (.cells vs ty)
  refine ⟨(h.st.alloc vs ty rfl).up (by simp) (Nat.le_refl _), ?_⟩
  refine (h.dom.tight.mono hb).wk (fun z hz => ⟨hz.1.1, fun x hx => ?_⟩)
  rcases List.mem_append.1 hx with hx | hx
  · exact hz.1.2 x hx
  · rw [List.mem_singleton] at hx
    subst hx
    have := hz.2
    simp only
    omega
theorem QW.sub (h : QW w0 vp bx wl P) {bx' : List (Nat × Array Value × TypeId)} (hs : ∀ x, x ∈ bx' → x ∈ bx) : QW w0 vp bx' wl P :=
  ⟨h.st.sub hs, h.dom.wk (fun z hz => ⟨hz.1, fun x hx => hz.2 x (hs x hx)⟩)⟩
theorem QW.cut (h : QW w0 vp bx wl P) {w1 : World} {P' : List RelT} (hl : 0 < P.length) (hb : ButP (fun z => vp.ownBlock = some z) wl w1)
    (hd : Ip (fun z => (w0.heap.size ≤ z ∧ ∀ x, x ∈ bx → x.1 ≠ z) ∨ wl.heap.size ≤ z) w1 [vp] P') : QW w0 vp bx w1 P' := by
  have hg := fun z hz => ip_own h.dom hl (z := z) hz
  refine ⟨(h.st.butP hb (fun k hk => (hg k hk).1) (fun x hx hk => (hg _ hk).2 x hx rfl)).up hb.size (Nat.le_refl _), hd.wk (fun z hz => ?_)⟩
  rcases hz with hz | hz
  · exact hz
  · refine ⟨Nat.le_trans h.st.lo hz, fun x hx => ?_⟩
    have := (h.st.box x hx).2.1
    omega
end
theorem tri_posQ {V i j : Nat} (hij : i < j) (hj : j < V) : 0 < tri V := by have := tri_lt hij hj; omega
theorem pairStep_no1 {V a b c : Int} (h : inB a 0 (IntKind.i64.wrap (b - 1)) = false) : pairStepB V (a, b, c) = false := by unfold pairStepB; simp only [h, Bool.false_and]
theorem pairStep_no2 {V a b c : Int} (h : inB b 0 (V - 1) = false) : pairStepB V (a, b, c) = false := by unfold pairStepB; simp only [h, Bool.false_and, Bool.and_false]
theorem pairStep_no3 {V a b c : Int} (h : inB c 0 (V - 1) = false) : pairStepB V (a, b, c) = false := by unfold pairStepB; simp only [h, Bool.false_and, Bool.and_false]
theorem pairStep_no4 {V a b c : Int} (h : c = a) : pairStepB V (a, b, c) = false := by unfold pairStepB; simp [h]
theorem pairStep_no5 {V a b c : Int} (h : c = b) : pairStepB V (a, b, c) = false := by unfold pairStepB; simp [h]
theorem pairStep_yes {V a b c : Int} (h1 : inB a 0 (IntKind.i64.wrap (b - 1)) = true) (h2 : inB b 0 (V - 1) = true) (h3 : inB c 0 (V - 1) = true) (h4 : c ≠ a) (h5 : c ≠ b) : pairStepB V (a, b, c) = true := by
  unfold pairStepB
  simp only [h1, h2, h3, Bool.true_and, Bool.and_eq_true, decide_eq_true_eq]
  exact ⟨h4, h5⟩
set_option maxRecDepth 100000 in
set_option maxHeartbeats 4000000 in
theorem isPairStep_c (V : Int) (cs : List OpT) (a b c : Int) (x1 : Value) (w : World) (hx : Rd w [x1] cs) (hV : 1 ≤ V ∧ V ≤ 10) :
    Calls Tryz.prog 69 #[.agg #[.int .i64 V, x1], .agg #[.int .i64 a, .int .i64 b, .int .i64 c]] w fun e w' => e = .returned (.bool (pairStepB V (a, b, c))) ∧ Below w.heap.size w w' := by
  obtain ⟨ax, cx, rfl, _⟩ := rd_list hx
  have ew : IntKind.i64.wrap (V - 1) = V - 1 := i64_in _ (by omega)
  clear hx
  generalize hwb : IntKind.i64.wrap (b - 1) = WB at *
  have HWB := Lib.hid hwb
  have hs1 := (St.start w).alloc #[.int .i64 V, .slice ax cs.length cx] 40 (n := w.heap.size) (by simp)
  have k0_0 := hs1.cellAt 0 rfl 0 rfl
  have k0_1 := hs1.cellAt 0 rfl 1 rfl
  have hs2 := hs1.alloc #[.int .i64 a, .int .i64 b, .int .i64 c] 103 (n := w.heap.size + 1) (by simp)
  clear k0_0 k0_1
  have k0_0 := hs2.cellAt 0 rfl 0 rfl
  have k0_1 := hs2.cellAt 0 rfl 1 rfl
  have k1_0 := hs2.cellAt 1 rfl 0 rfl
  have k1_1 := hs2.cellAt 1 rfl 1 rfl
  have k1_2 := hs2.cellAt 1 rfl 2 rfl
  go_enter Tryz.func69, Tryz.ntmps69
  go_wp2_with fail
  refine (within_c a 0 WB _).mono ?_
  rintro e w1 ⟨rfl, rfl⟩
  cases h1 : inB a 0 WB with
  | false =>
    have H1 := Lib.hid (pairStep_no1 (V := V) (b := b) (c := c) (by rw [HWB.out]; exact h1))
    go_wp2_with fail
    go_ret
    exact ⟨ret_bool H1.out.symm, hs2.bel⟩
  | true =>
    go_wp2_with fail
    refine (within_c b 0 (V - 1) _).mono ?_
    rintro e w1 ⟨rfl, rfl⟩
    cases h2 : inB b 0 (V - 1) with
    | false =>
      have H1 := Lib.hid (pairStep_no2 (V := V) (a := a) (c := c) h2)
      go_wp2_with fail
      go_ret
      exact ⟨ret_bool H1.out.symm, hs2.bel⟩
    | true =>
      go_wp2_with fail
      refine (within_c c 0 (V - 1) _).mono ?_
      rintro e w1 ⟨rfl, rfl⟩
      cases h3 : inB c 0 (V - 1) with
      | false =>
        have H1 := Lib.hid (pairStep_no3 (V := V) (a := a) (b := b) h3)
        go_wp2_with fail
        go_ret
        exact ⟨ret_bool H1.out.symm, hs2.bel⟩
      | true =>
        by_cases h4 : c = a
        · have H1 := Lib.hid (pairStep_no4 (V := V) (b := b) h4)
          have hne : (c != a) = false := by simp [h4]
          clear h4
          go_wp2_with fail
          go_ret
          exact ⟨ret_bool H1.out.symm, hs2.bel⟩
        · have hne : (c != a) = true := by simp [h4]
          by_cases h5 : c = b
          · have H1 := Lib.hid (pairStep_no5 (V := V) (a := a) h5)
            have hne2 : (c != b) = false := by simp [h5]
            clear h4 h5
            go_wp2_with fail
            go_ret
            exact ⟨ret_bool H1.out.symm, hs2.bel⟩
          · have hne2 : (c != b) = true := by simp [h5]
            have H1 := Lib.hid (pairStep_yes (V := V) (by rw [HWB.out]; exact h1) h2 h3 h4 h5)
            clear h4 h5
            go_wp2_with fail
            go_ret
            exact ⟨ret_bool H1.out.symm, hs2.bel⟩
set_option maxRecDepth 100000 in
set_option maxHeartbeats 8000000 in
theorem ReplayPairs_c (t : Tmpl) (t0 t1 : Value) (x : Inst) (x0 x1 : Value) (steps : List (Int × Int × Int)) (vs : Value) (w : World) (ht : Rd w [t0, t1] t) (hx : Rd w [x0, x1] x) (hs : Rd w [vs] steps) (hzs : steps.length ≤ 1048576) :
    Calls Tryz.prog 17 #[.agg #[t0, t1], .agg #[x0, x1], vs] w fun e w' => ∃ u0, e = .returned (.tuple #[u0, .int .i64 (replayPF t x steps).2.1, .int .i64 (replayPF t x steps).2.2]) ∧ Fresh w.heap.size w' [u0] (replayPF t x steps).1 ∧ Below w.heap.size w w' := by
  obtain ⟨size, rs⟩ := t
  obtain ⟨vars, cs⟩ := x
  have HT := Lib.hid ht
  have HX := Lib.hid hx
  have zt := rd_cons rfl ht
  obtain ⟨rfl, _⟩ := rd_i1 zt.1
  obtain ⟨at0, ct0, rfl, _⟩ := rd_list zt.2
  have zx := rd_cons rfl hx
  obtain ⟨rfl, _⟩ := rd_i1 zx.1
  obtain ⟨ax, cx, rfl, _⟩ := rd_list zx.2
  have HCS := Lib.hid zx.2
  obtain ⟨ast, cst, rfl, hsr⟩ := rd_list hs
  have HSR := Lib.hid hsr
  clear ht hx zt zx hs hsr
  have hs3 := (St.start w).alloc #[.int .i64 size, .slice at0 rs.length ct0] 36 (n := w.heap.size) (by simp)
  have k0_0 := hs3.cellAt 0 rfl 0 rfl
  have k0_1 := hs3.cellAt 0 rfl 1 rfl
  have hs4 := hs3.alloc #[.int .i64 vars, .slice ax cs.length cx] 40 (n := w.heap.size + 1) (by simp)
  clear k0_0 k0_1
  have k0_0 := hs4.cellAt 0 rfl 0 rfl
  have k0_1 := hs4.cellAt 0 rfl 1 rfl
  have k1_0 := hs4.cellAt 1 rfl 0 rfl
  have k1_1 := hs4.cellAt 1 rfl 1 rfl
  go_enter Tryz.func17, Tryz.ntmps17
  go_wp2_with fail
  refine (ValidInstance_c (size, rs) (vars, cs) _ _ _ _ _ (Rd.mono HT.out hs4.bel) (Rd.mono HX.out hs4.bel)).mono ?_
  rintro e w5 ⟨rfl, hbw5⟩
  have hz_w5 : w.heap.size + 1 + 1 ≤ w5.heap.size := by have h9 := hbw5.size; (try simp at h9); omega
  have hs6 := hs4.step hbw5
  clear k0_0 k0_1 k1_0 k1_1
  have k0_0 := hs6.cellAt 0 rfl 0 rfl
  have k0_1 := hs6.cellAt 0 rfl 1 rfl
  have k1_0 := hs6.cellAt 1 rfl 0 rfl
  have k1_1 := hs6.cellAt 1 rfl 1 rfl
  cases h1 : instOk (size, rs) (vars, cs) with
  | false =>
    have H1 := Lib.hid (show replayPF (size, rs) (vars, cs) steps = ([], 0, 1) by unfold replayPF; rw [h1]; rfl)
    clear h1
    go_wp2_with fail
    refine bodyPost_ret (v := .tuple #[.slice none 0 0, .int .i64 0, .int .i64 1]) (by simp [results, Tryz.results17, go_sem]) rfl ⟨_, by rw [H1.out], by rw [H1.out]; exact fresh_nil_list, hs6.bel⟩
  | true =>
    have hv1 := (instOk_get h1).2.1
    have hsz := (tmplOk_get (instOk_get h1).1).1
    simp only at hv1 hsz
    obtain ⟨V, rfl⟩ : ∃ V : Nat, vars = (V : Int) := ⟨vars.toNat, by omega⟩
    have H1 := Lib.hid (show replayPF (size, rs) ((V : Int), cs) steps = replayP size V steps 0 (fstP (size, rs) ((V : Int), cs) V) by unfold replayPF; rw [h1]; rfl)
    have HPK := Lib.hid (fst_ok (t := (size, rs)) (x := ((V : Int), cs)) V)
    have HOK := Lib.hid h1
    clear h1
    go_wp2_with fail
    refine (firstPairs_c (size, rs) ((V : Int), cs) V _ _ _ _ _ (Rd.mono HT.out hs6.bel) (Rd.mono HX.out hs6.bel) HOK.out rfl).mono ?_
    rintro e w7 ⟨vp, rfl, fr, hbw7⟩
    have hz_w7 : w5.heap.size ≤ w7.heap.size := by have h9 := hbw7.size; (try simp at h9); omega
    have hs8 := hs6.step hbw7
    clear k0_0 k0_1 k1_0 k1_1
    have k0_0 := hs8.cellAt 0 rfl 0 rfl
    have k0_1 := hs8.cellAt 0 rfl 1 rfl
    have k1_0 := hs8.cellAt 1 rfl 0 rfl
    have k1_1 := hs8.cellAt 1 rfl 1 rfl
    have HW := Lib.hid (show QW w vp [(w.heap.size, #[.int .i64 size, .slice at0 rs.length ct0], 36), (w.heap.size + 1, #[.int .i64 V, .slice ax cs.length cx], 40)] w7 (fstP (size, rs) ((V : Int), cs) V) from
      ⟨hs8.up hs8.hi (Nat.le_refl _), fr.ip.wk (fun z hz => by
        have h8 := hz.1
        (try simp at h8)
        refine ⟨by omega, fun x hx => ?_⟩
        simp at hx
        rcases hx with rfl | rfl <;> (simp only; omega))⟩)
    clear fr
    generalize fstP (size, rs) ((V : Int), cs) V = P0 at *
    go_wp2_with fail
    go_loopw [21] (fun i wl => ∃ (k : Nat) (P : List RelT), k ≤ steps.length ∧ i = .int .i64 k ∧ Hid (QW w vp [(w.heap.size, #[.int .i64 size, .slice at0 rs.length ct0], 36), (w.heap.size + 1, #[.int .i64 V, .slice ax cs.length cx], 40)] wl P) ∧ Hid (PairOk size V P) ∧ Hid (replayP size V steps 0 P0 = replayP size V (steps.drop k) k P)) (fun i _ => steps.length - (intOf i).toNat)
    case atStart => exact ⟨0, P0, Nat.zero_le _, rfl, HW.out, HPK.out, rfl⟩
    case round =>
      clear HW HPK
      obtain ⟨k, P, hk, rfl, hw, hpk, hrun⟩ := hrel
      have hs1 := hw.out.st
      have k0_0 := hs1.cellAt 0 rfl 0 rfl
      have k0_1 := hs1.cellAt 0 rfl 1 rfl
      have k1_0 := hs1.cellAt 1 rfl 0 rfl
      have k1_1 := hs1.cellAt 1 rfl 1 rfl
      by_cases hlt : k < steps.length
      · have hkl : (k : Int) < steps.length := by omega
        obtain ⟨b, o, u0, u1, u2, rfl, p0, p1, p2, hy⟩ := rdSl_three rfl HSR.out k hlt
        have HDR := Lib.hid (replayP_drop (size := size) (V := V) hlt k P)
        have hy0 := rd_cons rfl hy
        have hy1 := rd_cons rfl hy0.2
        obtain ⟨rfl, _⟩ := rd_i1 hy0.1
        obtain ⟨rfl, _⟩ := rd_i1 hy1.1
        obtain ⟨rfl, _⟩ := rd_i1 hy1.2
        clear hy hy0 hy1
        generalize hss : steps[k] = SS at *
        obtain ⟨va, vb, vc⟩ := SS
        simp only at p0 p1 p2 HDR
        have HSS := Lib.hid hss
        clear hss
        have e0 := cellL hs1.bel p0
        have e1 := cellL hs1.bel p1
        have e2 := cellL hs1.bel p2
        have HWB := Lib.hid (hw.out.box #[.int .i64 va, .int .i64 vb, .int .i64 vc] 103)
        obtain ⟨wc, hwc⟩ : ∃ x, x = wr := ⟨_, rfl⟩
        subst hwc
        have hs9 := hs1.alloc #[.int .i64 va, .int .i64 vb, .int .i64 vc] 103 (n := wc.heap.size) (by simp)
        clear k0_0 k0_1 k1_0 k1_1
        have k0_0 := hs9.cellAt 0 rfl 0 rfl
        have k0_1 := hs9.cellAt 0 rfl 1 rfl
        have k1_0 := hs9.cellAt 1 rfl 0 rfl
        have k1_1 := hs9.cellAt 1 rfl 1 rfl
        have k2_0 := hs9.cellAt 2 rfl 0 rfl
        have k2_1 := hs9.cellAt 2 rfl 1 rfl
        have k2_2 := hs9.cellAt 2 rfl 2 rfl
        go_wp2_with fail
        refine (isPairStep_c V cs va vb vc _ _ (Rd.mono HCS.out hs9.bel) (by omega)).mono ?_
        rintro e w5 ⟨rfl, hb5⟩
        have HW5 := Lib.hid (HWB.out.step hb5)
        cases hso : pairStepB V (va, vb, vc) with
        | false =>
          have H2 := Lib.hid (show replayPF (size, rs) ((V : Int), cs) steps = ([], (k : Int), 8) by rw [H1.out, hrun.out, HDR.out]; unfold pairOkB; rw [hso]; rfl)
          have HBF := Lib.hid HW5.out.st.bel
          clear hso hb5
          go_wp2_with fail
          refine bodyPost_ret (v := .tuple #[.slice none 0 0, .int .i64 k, .int .i64 8]) (by simp [results, Tryz.results17, go_sem]) rfl ⟨_, by rw [H2.out], by rw [H2.out]; exact fresh_nil_list, HBF.out⟩
        | true =>
          have hg := pairStep_get hso (by omega)
          obtain ⟨i, rfl⟩ : ∃ n : Nat, va = (n : Int) := ⟨va.toNat, by omega⟩
          obtain ⟨j, rfl⟩ : ∃ n : Nat, vb = (n : Int) := ⟨vb.toNat, by omega⟩
          obtain ⟨q, rfl⟩ : ∃ n : Nat, vc = (n : Int) := ⟨vc.toNat, by omega⟩
          have hij : i < j := by omega
          have hjV : j < V := by omega
          have hqV : q < V := by omega
          have HQI := Lib.hid (show q ≠ i by omega)
          have HQJ := Lib.hid (show q ≠ j by omega)
          have HZL := Lib.hid (show 0 < P.length from by rw [hpk.out.len]; exact tri_posQ hij hjV)
          have HPO := Lib.hid (show pairOkB size V P ((i : Int), (j : Int), (q : Int)) = goneB size P i j q by unfold pairOkB; rw [hso]; rfl)
          have HNO := Lib.hid (narrow_ok (k := q) hpk.out hij hjV)
          have hs5 := HW5.out.st
          clear hso hb5 hg
          have k0_0 := hs5.cellAt 0 rfl 0 rfl
          have k0_1 := hs5.cellAt 0 rfl 1 rfl
          have k1_0 := hs5.cellAt 1 rfl 0 rfl
          have k1_1 := hs5.cellAt 1 rfl 1 rfl
          have k2_0 := hs5.cellAt 2 rfl 0 rfl
          have k2_1 := hs5.cellAt 2 rfl 1 rfl
          have k2_2 := hs5.cellAt 2 rfl 2 rfl
          go_wp2_with fail
          refine (narrow_c size V P i j q vp _ _ HW5.out.dom hpk.out hsz (by omega) hij hjV hqV HQI.out HQJ.out).mono ?_
          rintro e w6 ⟨rfl, hI6, hB6⟩
          have HW6 := Lib.hid (HW5.out.cut HZL.out hB6 hI6)
          clear hI6 hB6
          cases hgb : goneB size P i j q with
          | false =>
            have H2 := Lib.hid (show replayPF (size, rs) ((V : Int), cs) steps = ([], (k : Int), 8) by rw [H1.out, hrun.out, HDR.out, HPO.out, hgb]; rfl)
            have HBF := Lib.hid HW6.out.st.bel
            clear hgb
            go_wp2_with fail
            refine bodyPost_ret (v := .tuple #[.slice none 0 0, .int .i64 k, .int .i64 8]) (by simp [results, Tryz.results17, go_sem]) rfl ⟨_, by rw [H2.out], by rw [H2.out]; exact fresh_nil_list, HBF.out⟩
          | true =>
            have HNX := Lib.hid (show replayP size V steps 0 P0 = replayP size V (steps.drop (k + 1)) (k + 1) (narrowP size P i j q) by rw [hrun.out, HDR.out, HPO.out, hgb]; rfl)
            have HW7 := Lib.hid (HW6.out.sub (bx' := [(w.heap.size, #[.int .i64 size, .slice at0 rs.length ct0], 36), (w.heap.size + 1, #[.int .i64 V, .slice ax cs.length cx], 40)]) (fun x hx => by simp at hx ⊢; rcases hx with rfl | rfl <;> simp))
            clear hgb
            go_wp2_with fail
            go_roundw
            case rel => exact ⟨k + 1, _, by omega, by go_num, HW7.out, HNO.out, HNX.out⟩
            case measure => simp [intOf]; omega
      · obtain rfl : k = steps.length := by omega
        have hnl : ¬ ((steps.length : Int) < steps.length) := by omega
        have H2 := Lib.hid (show replayPF (size, rs) ((V : Int), cs) steps = (P, 0, 0) by rw [H1.out, hrun.out, List.drop_length]; rfl)
        have HFR := Lib.hid (show Fresh w.heap.size wr [vp] P from hw.out.dom.fresh (fun z hz => hz.1))
        have HBF := Lib.hid hw.out.st.bel
        go_wp2_with fail
        refine bodyPost_ret (v := .tuple #[vp, .int .i64 0, .int .i64 0]) (by simp [results, Tryz.results17, go_sem]) rfl ⟨_, by rw [H2.out], by rw [H2.out]; exact HFR.out, HBF.out⟩

end Go.Proofs.YtjkjfjpajmjglaaGreat
