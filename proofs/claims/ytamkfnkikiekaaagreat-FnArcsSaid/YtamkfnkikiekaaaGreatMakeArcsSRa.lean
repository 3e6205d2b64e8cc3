/-
  CONTRACTS: MakeArcs and IsArcConsistent, the reference's side.
-/
import Derived.Test.YtamkfnkikiekaaaGreatArcFBRa
import Derived.Test.YtamkfnkikiekaaaGreatArcsSRa
namespace Go.Proofs.YtamkfnkikiekaaaGreat
open Go.RowKit Go.Shelf Go.IntWalk
open Rep (Rd Own sz)
set_option linter.unusedSimpArgs false
set_option linter.unusedVariables false

theorem l05Arcs_c (t : Tmpl) (x : Inst) (ds : List (List Int)) (t0 t1 x0 x1 : Value) (tb xb g cd V C : Nat) (AD : Nat → Prop) (w0 w : World) (hb : Below w0.heap.size w0 w) (ht : Rd w0 [t0, t1] t) (hx : Rd w0 [x0, x1] x) (hok : instOk t x = true)
    (tc : w0.cell? ⟨tb, 1, none⟩ = some t1) (xc : w0.cell? ⟨xb, 1, none⟩ = some x1)
    (hd : Ip AD w [.slice (some ⟨g, 0, none⟩) V cd] ds) (hAD : ∀ z, AD z → w0.heap.size ≤ z) (hA : ArcOk V C (ds, [])) (hV : (V : Int) = x.1) (hC : C ≤ 1000000000) :
    Calls Tryz.prog 27 #[.pointer (some ⟨tb, 0, none⟩), .pointer (some ⟨xb, 0, none⟩), .slice (some ⟨g, 0, none⟩) V cd] w fun e w' => ∃ gs co, e = .returned (.slice (some ⟨gs, 0, none⟩) (arcsA t.2 x.2 (C + 1) (ds, [])).2.length co) ∧ ArcW w0 AD w.heap.size g cd V 41 [] w' gs co (arcsA t.2 x.2 (C + 1) (ds, [])) := by
  have H := Lib.hid (l05ArcsUntil_c t x ds t0 t1 x0 x1 tb xb g cd V C AD w0 w hb ht hx hok tc xc hd hAD hA hV hC)
  clear hb ht hx hok tc xc hd hAD hA hV hC
  go_enter Tryz.func27, Tryz.ntmps27
  go_wp2_with fail
  refine H.out.mono ?_
  rintro e w1 ⟨gs, co, rfl, h⟩
  go_wp2_with fail
  go_ret
  exact ⟨gs, co, rfl, h⟩
set_option maxRecDepth 100000 in
set_option maxHeartbeats 4000000 in
theorem sMakeArcs_c (t : Tmpl) (t0 t1 : Value) (x : Inst) (x0 x1 : Value) (ds : List (List Int)) (vp : Value) (w : World) (ht : Rd w [t0, t1] t) (hx : Rd w [x0, x1] x) (hp : Rd w [vp] ds) (hz : ∀ d, d ∈ ds → d.length ≤ 1048576) :
    Calls Tryz.prog 8 #[.agg #[t0, t1], .agg #[x0, x1], vp] w fun e w' => ∃ u0 u1, e = .returned (.tuple #[u0, u1, .int .i64 (makeArcsF t x ds).2]) ∧ Fresh w.heap.size w' [u0, u1] (makeArcsF t x ds).1 ∧ Below w.heap.size w w' := by
  obtain ⟨size, rs⟩ := t
  obtain ⟨vars, cs⟩ := x
  have HT := Lib.hid ht
  have HX := Lib.hid hx
  have HP := Lib.hid hp
  have HZ := Lib.hid hz
  have zt := rd_cons rfl ht
  obtain ⟨rfl, _⟩ := rd_i1 zt.1
  obtain ⟨at0, ct0, rfl, _⟩ := rd_list zt.2
  have zx := rd_cons rfl hx
  obtain ⟨rfl, _⟩ := rd_i1 zx.1
  obtain ⟨ax, cx, rfl, _⟩ := rd_list zx.2
  obtain ⟨a, c, rfl, _⟩ := rd_list hp
  clear ht hx hp zt zx hz
  have hs1 := (St.start w).alloc #[.int .i64 size, .slice at0 rs.length ct0] 26 (n := w.heap.size) (by simp)
  have k0_0 := hs1.cellAt 0 rfl 0 rfl
  have k0_1 := hs1.cellAt 0 rfl 1 rfl
  have hs2 := hs1.alloc #[.int .i64 vars, .slice ax cs.length cx] 29 (n := w.heap.size + 1) (by simp)
  clear k0_0 k0_1
  have k0_0 := hs2.cellAt 0 rfl 0 rfl
  have k0_1 := hs2.cellAt 0 rfl 1 rfl
  have k1_0 := hs2.cellAt 1 rfl 0 rfl
  have k1_1 := hs2.cellAt 1 rfl 1 rfl
  go_enter Tryz.func8, Tryz.ntmps8
  go_wp2_with fail
  refine (l05Both_c (size, rs) (vars, cs) ds _ _ _ _ _ _ _ _ (Rd.mono HT.out hs2.bel) (Rd.mono HX.out hs2.bel) (hs2.cellAt 0 rfl 0 rfl) (hs2.cellAt 0 rfl 1 rfl) (hs2.cellAt 1 rfl 0 rfl) (hs2.cellAt 1 rfl 1 rfl) (Rd.mono HP.out hs2.bel)).mono ?_
  rintro e w3 ⟨rfl, hbw3⟩
  have hz_w3 : w.heap.size + 1 + 1 ≤ w3.heap.size := by have h9 := hbw3.size; (try simp at h9); omega
  have hs4 := hs2.step hbw3
  clear k0_0 k0_1 k1_0 k1_1
  have k0_0 := hs4.cellAt 0 rfl 0 rfl
  have k0_1 := hs4.cellAt 0 rfl 1 rfl
  have k1_0 := hs4.cellAt 1 rfl 0 rfl
  have k1_1 := hs4.cellAt 1 rfl 1 rfl
  cases h1 : domsOk (size, rs) (vars, cs) ds with
  | false =>
    have H1 := Lib.hid (show makeArcsF (size, rs) (vars, cs) ds = (([], []), 1) by unfold makeArcsF; rw [h1]; rfl)
    have HB := Lib.hid ((hs4.bel.trans ((belowA w3 (.cells #[] 47)).mono hs4.bel.size)).trans ((belowA (w3.alloc (.cells #[] 47)) (.cells #[] 41)).mono (by have := hs4.bel.size; simp at this ⊢; omega)))
    clear h1
    go_wp2_with fail
    refine bodyPost_ret (v := .tuple #[.slice (some ⟨w3.heap.size, 0, none⟩) 0 0, .slice (some ⟨w3.heap.size + 1, 0, none⟩) 0 0, .int .i64 1]) (by simp [results, Tryz.results8, go_sem]) rfl ⟨_, _, by rw [H1.out], by rw [H1.out]; exact fresh_nil2 (Nat.zero_le _) (Nat.zero_le _), HB.out⟩
  | true =>
    have HF := Lib.hid (dom_facts h1)
    have HI := Lib.hid (arcsF_i64 h1)
    have H1 := Lib.hid (show makeArcsF (size, rs) (vars, cs) ds = (arcsF (size, rs) (vars, cs) ds, 0) by unfold makeArcsF; rw [h1]; rfl)
    have hv1 := (instOk_get HF.out.inst).2.1
    have hdl := HF.out.len
    have hdt := HF.out.ten
    simp only at hv1 hdl
    clear h1
    have HBW := Lib.hid hs4.bel
    have HTW := Lib.hid (Rd.mono HT.out hs4.bel)
    have HXW := Lib.hid (Rd.mono HX.out hs4.bel)
    have HC0 := Lib.hid (And.intro (hs4.cellAt 0 rfl 1 rfl) (hs4.cellAt 1 rfl 1 rfl))
    obtain ⟨wq, hwq⟩ : ∃ x, x = w3 := ⟨_, rfl⟩
    rw [← hwq] at HBW HTW HXW HC0
    have HWQ := Lib.hid hwq
    clear hwq
    go_wp2_with fail
    refine (l05Copies_c ds _ _ (Rd.mono HP.out hs4.bel) (by omega) HZ.out).mono ?_
    rintro e w5 ⟨v2, rfl, hac, hbw5⟩
    have hz_w5 : w3.heap.size ≤ w5.heap.size := by have h9 := hbw5.size; (try simp at h9); omega
    have hs6 := hs4.step hbw5
    clear k0_0 k0_1 k1_0 k1_1
    have k0_0 := hs6.cellAt 0 rfl 0 rfl
    have k0_1 := hs6.cellAt 0 rfl 1 rfl
    have k1_0 := hs6.cellAt 1 rfl 0 rfl
    have k1_1 := hs6.cellAt 1 rfl 1 rfl
    obtain ⟨g2, c2, rfl⟩ := accP_form hac (by omega)
    have hbq : Below wq.heap.size wq w5 := by rw [HWQ.out]; exact hbw5
    have HIP := Lib.hid (hac.ip.wk (B := fun z => wq.heap.size ≤ z) (fun z hz => by have h8 := hz.1; rw [HWQ.out]; omega))
    have HBQ := Lib.hid hbq
    clear hac hbq
    go_wp2_with fail
    refine (l05Arcs_c (size, rs) (vars, cs) ds _ _ _ _ (w.heap.size) (w.heap.size + 1) g2 c2 ds.length (lensA ds) (fun z => wq.heap.size ≤ z) wq _ HBQ.out HTW.out HXW.out HF.out.inst HC0.out.1 HC0.out.2 HIP.out (fun z hz => hz) HF.out.ok hdl (by have := HF.out.forty; omega)).mono ?_
    rintro e wE ⟨gs, co, rfl, hA⟩
    have HFR := Lib.hid (arcW_fresh hA HI.out (lo := w.heap.size) (Nat.le_trans HBW.out.size HBQ.out.size) (fun z hz => Nat.le_trans HBW.out.size hz))
    have HB := Lib.hid (HBW.out.trans (hA.bel.mono HBW.out.size))
    clear hA
    go_wp2_with fail
    refine bodyPost_ret (v := .tuple #[.slice (some ⟨g2, 0, none⟩) ds.length c2, .slice (some ⟨gs, 0, none⟩) (arcsA rs cs (lensA ds + 1) (ds, [])).2.length co, .int .i64 0]) (by simp [results, Tryz.results8, go_sem]) rfl ⟨_, _, by rw [H1.out], by rw [H1.out]; exact HFR.out, HB.out⟩

end Go.Proofs.YtamkfnkikiekaaaGreat

