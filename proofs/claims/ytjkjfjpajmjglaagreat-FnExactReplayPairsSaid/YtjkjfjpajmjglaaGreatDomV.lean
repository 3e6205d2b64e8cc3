/-
  CONTRACTS: ValidDomains, both sides.
-/
import Derived.Test.YtjkjfjpajmjglaaGreatDom
import Derived.Test.YtjkjfjpajmjglaaGreatSort
import Derived.Test.YtjkjfjpajmjglaaGreatEqual
namespace Go.Proofs.YtjkjfjpajmjglaaGreat
open Go.RowKit Go.Shelf Go.IntWalk
open Rep (Rd Own sz)
set_option linter.unusedSimpArgs false
set_option linter.unusedVariables false

theorem rises_vals (size : Int) (d : List Int) : risesB 0 (size - 1) d = (valsOk size d d.length && decide (d = riseL d)) := by
  rw [rises_eq]; simp [valsOk]
set_option maxRecDepth 100000 in
set_option maxHeartbeats 2000000 in
theorem validDomains1_by (size : Int) (b : Nat) (w : World) (l : List (List Int)) (hc0 : w.cell? ⟨b, 0, none⟩ = some (.int .i64 size)) (hs : 1 ≤ size ∧ size ≤ 4) (hl : ∀ d, d ∈ l → d.length ≤ 1048576) :
    PredL 155 #[.pointer (some ⟨b, 0, none⟩)] w l (fun d => !risesB 0 (size - 1) d) := by
  intro W x u0 hb hx hmem
  have g0 := cellL hb hc0
  have hxl := hl x hmem
  show Calls Tryz.prog 155 #[u0, .pointer (some ⟨b, 0, none⟩)] W _
  have HX := Lib.hid hx
  obtain ⟨a, c, rfl, _⟩ := rd_list hx
  clear hx hb hc0 hl hmem
  have HE := Lib.hid (rises_vals size x)
  have g0_ := cellL (St.start W).bel g0
  go_enter Tryz.func155, Tryz.ntmps155
  go_wp2_with fail
  refine (areValues_c size x _ (x.length : Int) _ (Rd.mono HX.out (St.start W).bel) (by omega) (by omega)).mono ?_
  rintro e w1 ⟨rfl, hbw1⟩
  have hz_w1 : W.heap.size ≤ w1.heap.size := by have h9 := hbw1.size; (try simp at h9); omega
  have hs2 := (St.start W).step hbw1
  clear g0_
  have g0_ := cellL hs2.bel g0
  cases h1 : valsOk size x x.length with
  | false =>
    have H1 := Lib.hid (show risesB 0 (size - 1) x = false by rw [HE.out, h1]; rfl)
    clear h1
    go_wp2_with fail
    go_ret
    exact ⟨ret_bool (by rw [H1.out]; rfl), hs2.bel⟩
  | true =>
    have H1 := Lib.hid (show risesB 0 (size - 1) x = decide (x = riseL x) by rw [HE.out, h1]; rfl)
    clear h1
    go_wp2_with fail
    refine (rising_c x _ _ (Rd.mono HX.out hs2.bel) (by omega)).mono ?_
    rintro e w3 ⟨v2, rfl, hac, hbw3⟩
    have hz_w3 : w1.heap.size ≤ w3.heap.size := by have h9 := hbw3.size; (try simp at h9); omega
    have hs4 := hs2.step hbw3
    clear g0_
    have g0_ := cellL hs4.bel g0
    obtain ⟨a2, c2, rfl, _⟩ := rd_list hac.rd
    have HRI := Lib.hid hac.rd
    clear hac
    go_wp2_with fail
    refine (equalInts_c x (riseL x) _ _ _ (Rd.mono HX.out hs4.bel) HRI.out).mono ?_
    rintro e w5 ⟨rfl, hbw5⟩
    have hz_w5 : w3.heap.size ≤ w5.heap.size := by have h9 := hbw5.size; (try simp at h9); omega
    have hs6 := hs4.step hbw5
    have HRI_7 := Lib.hid (Rd.mono HRI.out hbw5)
    clear HRI
    clear g0_
    have g0_ := cellL hs6.bel g0
    go_wp2_with fail
    go_ret
    exact ⟨ret_bool (by rw [H1.out]), hs6.bel⟩
set_option maxRecDepth 100000 in
set_option maxHeartbeats 4000000 in
theorem ValidDomains_c (t : Tmpl) (t0 t1 : Value) (x : Inst) (x0 x1 : Value) (ds : List (List Int)) (vp : Value) (w : World) (ht : Rd w [t0, t1] t) (hx : Rd w [x0, x1] x) (hp : Rd w [vp] ds) (hz : ∀ d, d ∈ ds → d.length ≤ 1048576) :
    Calls Tryz.prog 97 #[.agg #[t0, t1], .agg #[x0, x1], vp] w fun e w' => e = .returned (.bool (domsOk t x ds)) ∧ Below w.heap.size w w' := by
  obtain ⟨size, rs⟩ := t
  obtain ⟨vars, cs⟩ := x
  have HT := Lib.hid ht
  have HX := Lib.hid hx
  have HP := Lib.hid hp
  have HZ := Lib.hid hz
  have zt := rd_cons rfl ht
  obtain ⟨rfl, _⟩ := rd_i1 zt.1
  obtain ⟨at0, ct0, rfl, _⟩ := rd_list zt.2
  have zx := rd_cons rfl hx
  obtain ⟨rfl, _⟩ := rd_i1 zx.1
  obtain ⟨ax, cx, rfl, _⟩ := rd_list zx.2
  obtain ⟨a, c, rfl, hpr⟩ := rd_list hp
  have hb0 := (rdSl_len hpr).2
  unfold maxLen at hb0
  clear ht hx hp zt zx hpr hz
  have eg : ∀ args w, (callFunc 155 args).run Tryz.prog w = .ok (.enter 155 args) w := enters_of Tryz.func155 (by kernel_rfl) rfl
  have hs8 := (St.start w).alloc #[.int .i64 size, .slice at0 rs.length ct0] 36 (n := w.heap.size) (by simp)
  have k0_0 := hs8.cellAt 0 rfl 0 rfl
  have k0_1 := hs8.cellAt 0 rfl 1 rfl
  have hs9 := hs8.alloc #[.int .i64 vars, .slice ax cs.length cx] 40 (n := w.heap.size + 1) (by simp)
  clear k0_0 k0_1
  have k0_0 := hs9.cellAt 0 rfl 0 rfl
  have k0_1 := hs9.cellAt 0 rfl 1 rfl
  have k1_0 := hs9.cellAt 1 rfl 0 rfl
  have k1_1 := hs9.cellAt 1 rfl 1 rfl
  go_enter Tryz.func97, Tryz.ntmps97
  go_wp2_with fail
  refine (ValidInstance_c (size, rs) (vars, cs) _ _ _ _ _ (Rd.mono HT.out hs9.bel) (Rd.mono HX.out hs9.bel)).mono ?_
  rintro e w10 ⟨rfl, hbw10⟩
  have hz_w10 : w.heap.size + 1 + 1 ≤ w10.heap.size := by have h9 := hbw10.size; (try simp at h9); omega
  have hs11 := hs9.step hbw10
  clear k0_0 k0_1 k1_0 k1_1
  have k0_0 := hs11.cellAt 0 rfl 0 rfl
  have k0_1 := hs11.cellAt 0 rfl 1 rfl
  have k1_0 := hs11.cellAt 1 rfl 0 rfl
  have k1_1 := hs11.cellAt 1 rfl 1 rfl
  cases h1 : instOk (size, rs) (vars, cs) with
  | false =>
    have H1 := Lib.hid (show domsOk (size, rs) (vars, cs) ds = false by unfold domsOk; rw [h1]; rfl)
    clear h1
    go_wp2_with fail
    go_ret
    exact ⟨ret_bool H1.out.symm, hs11.bel⟩
  | true =>
    have hs := (tmplOk_get (instOk_get h1).1).1
    have H0 := Lib.hid (show domsOk (size, rs) (vars, cs) ds = (decide ((ds.length : Int) = vars) && ds.all (risesB 0 (size - 1))) by unfold domsOk; rw [h1]; rfl)
    clear h1
    by_cases hl : (ds.length : Int) = vars
    · have hlb : ((ds.length : Int) != vars) = false := by simp [hl]
      have H1 := Lib.hid (show domsOk (size, rs) (vars, cs) ds = ds.all (risesB 0 (size - 1)) by rw [H0.out, decide_eq_true hl, Bool.true_and])
      have HVV := Lib.hid hl
      clear hl
      go_wp2_with fail
      refine (containsLists_c ds _ 155 _ _ _ (Rd.mono HP.out hs11.bel) eg (validDomains1_by size _ _ ds (hs11.cellAt 0 rfl 0 rfl) hs HZ.out)).mono ?_
      rintro e w12 ⟨rfl, hbw12⟩
      have hz_w12 : w10.heap.size ≤ w12.heap.size := by have h9 := hbw12.size; (try simp at h9); omega
      have hs13 := hs11.step hbw12
      clear k0_0 k0_1 k1_0 k1_1
      have k0_0 := hs13.cellAt 0 rfl 0 rfl
      have k0_1 := hs13.cellAt 0 rfl 1 rfl
      have k1_0 := hs13.cellAt 1 rfl 0 rfl
      have k1_1 := hs13.cellAt 1 rfl 1 rfl
      have hall := Lib.hid (all_of_any ds (risesB 0 (size - 1)))
      go_wp2_with fail
      go_ret
      exact ⟨ret_bool (by rw [H1.out, ← hall.out]), hs13.bel⟩
    · have hlb : ((ds.length : Int) != vars) = true := by simp [hl]
      have H1 := Lib.hid (show domsOk (size, rs) (vars, cs) ds = false by rw [H0.out, decide_eq_false hl, Bool.false_and])
      clear hl
      go_wp2_with fail
      go_ret
      exact ⟨ret_bool H1.out.symm, hs11.bel⟩

end Go.Proofs.YtjkjfjpajmjglaaGreat
