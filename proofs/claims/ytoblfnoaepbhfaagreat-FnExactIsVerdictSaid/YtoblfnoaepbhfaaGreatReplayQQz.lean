import Derived.Test.YtoblfnoaepbhfaaGreatNarrowQz
import Derived.Test.YtoblfnoaepbhfaaGreatFirstPQz
set_option linter.unusedSimpArgs false
set_option linter.unusedVariables false
set_option maxHeartbeats 8000000
set_option maxRecDepth 100000
namespace Go.Proofs.YtoblfnoaepbhfaaGreat
open Go.Proofs.Tryz
open Go.RowKit Go.Shelf Go.IntWalk
open Rep (Rd Own sz)
structure QW (w0 : World) (vp : Value) (bx : List (Nat × Array Value × TypeId)) (wl : World) (P : List bH) : Prop where
 st : St w0 wl.heap.size wl bx
 dom : Ip (fun z => w0.heap.size ≤ z ∧ ∀ x, x ∈ bx → x.1 ≠ z) wl [vp] P
section
variable {w0 : World} {vp : Value} {bx : List (Nat × Array Value × TypeId)} {wl : World} {P : List bH}
theorem QW.step (h : QW w0 vp bx wl P) {w1 : World} (hb : Below wl.heap.size wl w1) : QW w0 vp bx w1 P :=
 ⟨(h.st.step hb).up hb.size (Nat.le_refl _), h.dom.mono hb⟩
theorem QW.box (h : QW w0 vp bx wl P) (vs : Array Value) (ty : TypeId) : QW w0 vp (bx ++ [(wl.heap.size, vs, ty)]) (wl.alloc (.cells vs ty)) P := by
 have hb := aB wl (.cells vs ty)
 refine ⟨(h.st.alloc vs ty rfl).up (by simp) (Nat.le_refl _), ?_⟩
 refine (h.dom.tight.mono hb).wk (fun z hz => ⟨hz.1.1, fun x hx => ?_⟩)
 rcases List.mem_append.1 hx with hx | hx
 · exact hz.1.2 x hx
 rw [List.mem_singleton] at hx
 subst hx
 have := hz.2
 simp only
 omega
theorem QW.sub (h : QW w0 vp bx wl P) {bx' : List (Nat × Array Value × TypeId)} (hs : ∀ x, x ∈ bx' → x ∈ bx) : QW w0 vp bx' wl P :=
 ⟨h.st.sub hs, h.dom.wk (fun z hz => ⟨hz.1, fun x hx => hz.2 x (hs x hx)⟩)⟩
theorem QW.cut (h : QW w0 vp bx wl P) {w1 : World} {P' : List bH} (hl : 0 < P.length) (hb : nN (fun z => vp.ownBlock = some z) wl w1)
 (hd : Ip (fun z => (w0.heap.size ≤ z ∧ ∀ x, x ∈ bx → x.1 ≠ z) ∨ wl.heap.size ≤ z) w1 [vp] P') : QW w0 vp bx w1 P' := by
 have hg := fun z hz => ab3 h.dom hl (z := z) hz
 refine ⟨(h.st.lU hb (fun k hk => (hg k hk).1) (fun x hx hk => (hg _ hk).2 x hx rfl)).up hb.size (Nat.le_refl _), hd.wk (fun z hz => ?_)⟩
 rcases hz with hz | hz
 · exact hz
 refine ⟨Nat.le_trans h.st.lo hz, fun x hx => ?_⟩
 have := (h.st.box x hx).2.1
 omega
end
theorem Sz {V i j : Nat} (hij : i < j) (hj : j < V) : 0 < tri V := by have := abT hij hj; omega
theorem DR {V a b c : Int} (h : inB a 0 (IntKind.i64.wrap (b - 1)) = false) : fZ V (a, b, c) = false := by unfold fZ; simp only [h, Bool.false_and]
theorem DT {V a b c : Int} (h : inB b 0 (V - 1) = false) : fZ V (a, b, c) = false := by unfold fZ; simp only [h, Bool.false_and, Bool.and_false]
theorem DU {V a b c : Int} (h : inB c 0 (V - 1) = false) : fZ V (a, b, c) = false := by unfold fZ; simp only [h, Bool.false_and, Bool.and_false]
theorem DV {V a b c : Int} (h : c = a) : fZ V (a, b, c) = false := by unfold fZ; simp [h]
theorem DW {V a b c : Int} (h : c = b) : fZ V (a, b, c) = false := by unfold fZ; simp [h]
theorem DX {V a b c : Int} (h1 : inB a 0 (IntKind.i64.wrap (b - 1)) = true) (h2 : inB b 0 (V - 1) = true) (h3 : inB c 0 (V - 1) = true) (h4 : c ≠ a) (h5 : c ≠ b) : fZ V (a, b, c) = true := by
 unfold fZ
 simp only [h1, h2, h3, Bool.true_and, Bool.and_eq_true, decide_eq_true_eq]
 exact ⟨h4, h5⟩
theorem Py (V : Int) (cs : List nI) (a b c : Int) (x1 : Value) (w : World) (hx : Rd w [x1] cs) (hV : 1 ≤ V ∧ V ≤ 10) :
 Calls prog 298 #[.agg #[.int .i64 V, x1], .agg #[.int .i64 a, .int .i64 b, .int .i64 c]] w fun e w' => e = .returned (.bool (fZ V (a, b, c))) ∧ Below w.heap.size w w' := by
 obtain ⟨ax, cx, rfl, _⟩ := ah hx
 have ew : IntKind.i64.wrap (V - 1) = V - 1 := i64_in _ (by omega)
 clear hx
 generalize hwb : IntKind.i64.wrap (b - 1) = WB at *
 have Xn := qH hwb
 have hs1 := (St.start w).alloc #[.int .i64 V, .slice ax cs.length cx] 46 (n := w.heap.size) (by simp)
 have hs2 := hs1.alloc #[.int .i64 a, .int .i64 b, .int .i64 c] 169 (n := w.heap.size + 1) (by simp)
 obtain ⟨aF, aH, aJ, aK, jB⟩ := hs2.c5 0 0 0 1 1 0 1 1 1 2
 go_enter func298, ntmps298
 go_wp2_with fail
 refine (iZ a 0 WB _).mono ?_
 rintro e w1 ⟨rfl, rfl⟩
 cases h1 : inB a 0 WB
 · have H1 := qH (DR (V := V) (b := b) (c := c) (by rw [Xn.out]; exact h1))
   go_wp2_with fail
   go_ret
   exact ⟨ak H1.out.symm, hs2.bel⟩
 go_wp2_with fail
 refine (iZ b 0 (V - 1) _).mono ?_
 rintro e w1 ⟨rfl, rfl⟩
 cases h2 : inB b 0 (V - 1)
 · have H1 := qH (DT (V := V) (a := a) (c := c) h2)
   go_wp2_with fail
   go_ret
   exact ⟨ak H1.out.symm, hs2.bel⟩
 go_wp2_with fail
 refine (iZ c 0 (V - 1) _).mono ?_
 rintro e w1 ⟨rfl, rfl⟩
 cases h3 : inB c 0 (V - 1)
 · have H1 := qH (DU (V := V) (a := a) (b := b) h3)
   go_wp2_with fail
   go_ret
   exact ⟨ak H1.out.symm, hs2.bel⟩
 by_cases h4 : c = a
 · have H1 := qH (DV (V := V) (b := b) h4)
   have hne : (c != a) = false := by simp [h4]
   clear h4
   go_wp2_with fail
   go_ret
   exact ⟨ak H1.out.symm, hs2.bel⟩
 have hne : (c != a) = true := by simp [h4]
 by_cases h5 : c = b
 · have H1 := qH (DW (V := V) (a := a) h5)
   have hne2 : (c != b) = false := by simp [h5]
   clear h4 h5
   go_wp2_with fail
   go_ret
   exact ⟨ak H1.out.symm, hs2.bel⟩
 have hne2 : (c != b) = true := by simp [h5]
 have H1 := qH (DX (V := V) (by rw [Xn.out]; exact h1) h2 h3 h4 h5)
 clear h4 h5
 go_wp2_with fail
 go_ret
 exact ⟨ak H1.out.symm, hs2.bel⟩
theorem KN (t : dB) (t0 t1 : Value) (x : Inst) (x0 x1 : Value) (steps : List (Int × Int × Int)) (vs : Value) (w : World) (ht : Rd w [t0, t1] t) (hx : Rd w [x0, x1] x) (hs : Rd w [vs] steps) (hzs : steps.length ≤ 1048576) :
 Calls prog 176 #[.agg #[t0, t1], .agg #[x0, x1], vs] w fun e w' => ∃ u0, e = .returned (.tuple #[u0, .int .i64 (dJ t x steps).2.1, .int .i64 (dJ t x steps).2.2]) ∧ aQ w.heap.size w' [u0] (dJ t x steps).1 ∧ Below w.heap.size w w' := by
 obtain ⟨size, rs⟩ := t
 obtain ⟨vars, cs⟩ := x
 have HT := qH ht
 have HX := qH hx
 have zt := au rfl ht
 obtain ⟨rfl, _⟩ := aG zt.1
 obtain ⟨at0, ct0, rfl, _⟩ := ah zt.2
 have zx := au rfl hx
 obtain ⟨rfl, _⟩ := aG zx.1
 obtain ⟨ax, cx, rfl, _⟩ := ah zx.2
 have PW := qH zx.2
 obtain ⟨ast, cst, rfl, hsr⟩ := ah hs
 have HSR := qH hsr
 clear ht hx zt zx hs hsr
 have hs3 := (St.start w).alloc #[.int .i64 size, .slice at0 rs.length ct0] 42 (n := w.heap.size) (by simp)
 have hs4 := hs3.alloc #[.int .i64 vars, .slice ax cs.length cx] 46 (n := w.heap.size + 1) (by simp)
 obtain ⟨aF, aH, aJ, aK⟩ := hs4.c4 0 0 0 1 1 0 1 1
 go_enter func176, ntmps176
 go_wp2_with fail
 refine (sH (size, rs) (vars, cs) _ _ _ _ _ (Rd.mono HT.out hs4.bel) (Rd.mono HX.out hs4.bel)).mono ?_
 rintro e w5 ⟨rfl, AZ⟩
 have Fz : w.heap.size + 1 + 1 ≤ w5.heap.size := hZ AZ
 have hs6 := hs4.step AZ
 clear aF aH aJ aK
 obtain ⟨aF, aH, aJ, aK⟩ := hs6.c4 0 0 0 1 1 0 1 1
 cases h1 : cu (size, rs) (vars, cs)
 · have H1 := qH (show dJ (size, rs) (vars, cs) steps = ([], 0, 1) by unfold dJ; rw [h1]; rfl)
   clear h1
   go_wp2_with fail
   refine bodyPost_ret (v := .tuple #[.slice none 0 0, .int .i64 0, .int .i64 1]) (by simp [results, results176, go_sem]) rfl ⟨_, by rw [H1.out], by rw [H1.out]; exact mg, hs6.bel⟩
 have hv1 := (aX h1).2.1
 have hsz := (dV (aX h1).1).1
 simp only at hv1 hsz
 obtain ⟨V, rfl⟩ : ∃ V : Nat, vars = (V : Int) := ⟨vars.toNat, by omega⟩
 have H1 := qH (show dJ (size, rs) ((V : Int), cs) steps = kX size V steps 0 (ng (size, rs) ((V : Int), cs) V) by unfold dJ; rw [h1]; rfl)
 have Ja := qH (ab1 (t := (size, rs)) (x := ((V : Int), cs)) V)
 have vW := qH h1
 clear h1
 go_wp2_with fail
 refine (Px (size, rs) ((V : Int), cs) V _ _ _ _ _ (Rd.mono HT.out hs6.bel) (Rd.mono HX.out hs6.bel) vW.out rfl).mono ?_
 rintro e w7 ⟨vp, rfl, fr, AY⟩
 have Xj : w5.heap.size ≤ w7.heap.size := hZ AY
 have hs8 := hs6.step AY
 clear aF aH aJ aK
 obtain ⟨aF, aH, aJ, aK⟩ := hs8.c4 0 0 0 1 1 0 1 1
 have HW := qH (show QW w vp [(w.heap.size, #[.int .i64 size, .slice at0 rs.length ct0], 42), (w.heap.size + 1, #[.int .i64 V, .slice ax cs.length cx], 46)] w7 (ng (size, rs) ((V : Int), cs) V) from
  ⟨hs8.up hs8.hi (Nat.le_refl _), fr.ip.wk (fun z hz => by
   have h8 := hz.1
   (try simp at h8)
   refine ⟨by omega, fun x hx => ?_⟩
   simp at hx
   rcases hx with rfl | rfl <;> (simp only; omega))⟩)
 clear fr
 generalize ng (size, rs) ((V : Int), cs) V = P0 at *
 go_wp2_with fail
 go_loopw [21] (fun i wl => ∃ (k : Nat) (P : List bH), k ≤ steps.length ∧ i = .int .i64 k ∧ Hid (QW w vp [(w.heap.size, #[.int .i64 size, .slice at0 rs.length ct0], 42), (w.heap.size + 1, #[.int .i64 V, .slice ax cs.length cx], 46)] wl P) ∧ Hid (nU size V P) ∧ Hid (kX size V steps 0 P0 = kX size V (steps.drop k) k P)) (fun i _ => steps.length - (intOf i).toNat)
 case atStart => exact ⟨0, P0, Nat.zero_le _, rfl, HW.out, Ja.out, rfl⟩
 clear HW Ja
 obtain ⟨k, P, hk, rfl, hw, hpk, hrun⟩ := hrel
 have hs1 := hw.out.st
 obtain ⟨aF, aH, aJ, aK⟩ := hs1.c4 0 0 0 1 1 0 1 1
 by_cases hlt : k < steps.length
 rotate_left
 · obtain rfl : k = steps.length := by omega
   have hnl : ¬ ((steps.length : Int) < steps.length) := by omega
   have H2 := qH (show dJ (size, rs) ((V : Int), cs) steps = (P, 0, 0) by rw [H1.out, hrun.out, List.drop_length]; rfl)
   have D8 := qH (show aQ w.heap.size wr [vp] P from hw.out.dom.fresh (fun z hz => hz.1))
   have lu := qH hw.out.st.bel
   go_wp2_with fail
   refine bodyPost_ret (v := .tuple #[vp, .int .i64 0, .int .i64 0]) (by simp [results, results176, go_sem]) rfl ⟨_, by rw [H2.out], by rw [H2.out]; exact D8.out, lu.out⟩
 have hkl : (k : Int) < steps.length := by omega
 obtain ⟨b, o, u0, u1, u2, rfl, p0, p1, p2, hy⟩ := gU rfl HSR.out k hlt
 have HDR := qH (DL (size := size) (V := V) hlt k P)
 have hy0 := au rfl hy
 have hy1 := au rfl hy0.2
 obtain ⟨rfl, _⟩ := aG hy0.1
 obtain ⟨rfl, _⟩ := aG hy1.1
 obtain ⟨rfl, _⟩ := aG hy1.2
 clear hy hy0 hy1
 generalize hss : steps[k] = SS at *
 obtain ⟨va, vb, vc⟩ := SS
 simp only at p0 p1 p2 HDR
 clear hss
 obtain ⟨e0, e1, e2⟩ := fQ hs1.bel p0 p1 p2
 have Xn := qH (hw.out.box #[.int .i64 va, .int .i64 vb, .int .i64 vc] 169)
 obtain ⟨wc, hwc⟩ : ∃ x, x = wr := ⟨_, rfl⟩
 subst hwc
 have hs9 := hs1.alloc #[.int .i64 va, .int .i64 vb, .int .i64 vc] 169 (n := wc.heap.size) (by simp)
 clear aF aH aJ aK
 obtain ⟨aF, aH, aJ, aK, aW, aY, bn⟩ := hs9.c7 0 0 0 1 1 0 1 1 2 0 2 1 2 2
 go_wp2_with fail
 refine (Py V cs va vb vc _ _ (Rd.mono PW.out hs9.bel) (by omega)).mono ?_
 rintro e w5 ⟨rfl, hb5⟩
 have SA := qH (Xn.out.step hb5)
 cases hso : fZ V (va, vb, vc)
 · have H2 := qH (show dJ (size, rs) ((V : Int), cs) steps = ([], (k : Int), 8) by rw [H1.out, hrun.out, HDR.out]; unfold rD; rw [hso]; rfl)
   have lu := qH SA.out.st.bel
   clear hso hb5
   go_wp2_with fail
   refine bodyPost_ret (v := .tuple #[.slice none 0 0, .int .i64 k, .int .i64 8]) (by simp [results, results176, go_sem]) rfl ⟨_, by rw [H2.out], by rw [H2.out]; exact mg, lu.out⟩
 have hg := DN hso (by omega)
 obtain ⟨i, rfl⟩ : ∃ n : Nat, va = (n : Int) := ⟨va.toNat, by omega⟩
 obtain ⟨j, rfl⟩ : ∃ n : Nat, vb = (n : Int) := ⟨vb.toNat, by omega⟩
 obtain ⟨q, rfl⟩ : ∃ n : Nat, vc = (n : Int) := ⟨vc.toNat, by omega⟩
 have hij : i < j := by omega
 have hjV : j < V := by omega
 have hqV : q < V := by omega
 have HQI := qH (show q ≠ i by omega)
 have HQJ := qH (show q ≠ j by omega)
 have HZL := qH (show 0 < P.length from by rw [hpk.out.len]; exact Sz hij hjV)
 have HPO := qH (show rD size V P ((i : Int), (j : Int), (q : Int)) = uX size P i j q by unfold rD; rw [hso]; rfl)
 have Ve := qH (Nr (k := q) hpk.out hij hjV)
 have hs5 := SA.out.st
 clear hso hb5 hg
 obtain ⟨aF, aH, aJ, aK, aW, aY, bn⟩ := hs5.c7 0 0 0 1 1 0 1 1 2 0 2 1 2 2
 go_wp2_with fail
 refine (ab6 size V P i j q vp _ _ SA.out.dom hpk.out hsz (by omega) hij hjV hqV HQI.out HQJ.out).mono ?_
 rintro e w6 ⟨rfl, hI6, hB6⟩
 have HW6 := qH (SA.out.cut HZL.out hB6 hI6)
 clear hI6 hB6
 cases hgb : uX size P i j q
 · have H2 := qH (show dJ (size, rs) ((V : Int), cs) steps = ([], (k : Int), 8) by rw [H1.out, hrun.out, HDR.out, HPO.out, hgb]; rfl)
   have lu := qH HW6.out.st.bel
   clear hgb
   go_wp2_with fail
   refine bodyPost_ret (v := .tuple #[.slice none 0 0, .int .i64 k, .int .i64 8]) (by simp [results, results176, go_sem]) rfl ⟨_, by rw [H2.out], by rw [H2.out]; exact mg, lu.out⟩
 have pW := qH (show kX size V steps 0 P0 = kX size V (steps.drop (k + 1)) (k + 1) (oC size P i j q) by rw [hrun.out, HDR.out, HPO.out, hgb]; rfl)
 have HW7 := qH (HW6.out.sub (bx' := [(w.heap.size, #[.int .i64 size, .slice at0 rs.length ct0], 42), (w.heap.size + 1, #[.int .i64 V, .slice ax cs.length cx], 46)]) (fun x hx => by simp at hx ⊢; rcases hx with rfl | rfl <;> simp))
 clear hgb
 go_wp2_with fail
 go_roundw
 case rel => exact ⟨k + 1, _, by omega, by go_num, HW7.out, Ve.out, pW.out⟩
 simp [intOf]; omega
end Go.Proofs.YtoblfnoaepbhfaaGreat
