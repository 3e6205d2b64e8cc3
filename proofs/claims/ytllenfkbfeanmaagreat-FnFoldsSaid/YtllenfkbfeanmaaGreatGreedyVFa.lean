/-
  CONTRACTS: GreedyValues; both sides.
-/
import Derived.Test.YtllenfkbfeanmaaGreatGreedyFa
namespace Go.Proofs.YtllenfkbfeanmaaGreat
open Go.RowKit Go.Shelf Go.IntWalk
open Rep (Rd Own sz)
set_option linter.unusedSimpArgs false
set_option linter.unusedVariables false

def relOk2 (size : Int) (r : RelT) : Bool := relOk size r && decide (r.1 = 2)
def pairsOkB (size vars : Int) (ps : List RelT) : Bool := decide (ps.length = vars.toNat * (vars.toNat - 1) / 2) && ps.all (relOk2 size)
/-- GreedyValues: the values and the fault's number. -/
def greedyVF (t : Tmpl) (x : Inst) (ps : List RelT) : List Int × Int :=
  if instOk t x = true then
    if pairsOkB t.1 x.1 ps = true then
      if (greedyF t.1.toNat x.1.toNat ps).2 = true then ((greedyF t.1.toNat x.1.toNat ps).1, 0) else ([], 6)
    else ([], 2)
  else ([], 1)
theorem tri_int : ∀ v : Nat, v ≤ 10 → 1 ≤ v → (0 : Int) ≤ (v : Int) * ((v : Int) - 1) ∧ (v : Int) * ((v : Int) - 1) ≤ 90 ∧ ((v : Int) * ((v : Int) - 1)) / 2 = ((v * (v - 1) / 2 : Nat) : Int) ∧ v * (v - 1) / 2 ≤ 45 := by decide
theorem pairsOk_of {size v : Nat} {ps : List RelT} (hv : v ≤ 10) (h : pairsOkB size v ps = true) : PairsOk size v ps := by
  simp only [pairsOkB, relOk2, Int.toNat_natCast, Bool.and_eq_true, decide_eq_true_eq, List.all_eq_true] at h
  exact ⟨hv, h.1, fun r hr => h.2 r hr⟩
theorem fresh_made {α : Type} [Rep α] {H : Nat} {w : World} {b c : Nat} (hc : c ≤ maxLen) : Fresh H w [.slice (some ⟨b, 0, none⟩) 0 c] ([] : List α) :=
  ⟨[], ⟨_, rfl, .inl ⟨rfl, rfl, _, _, rfl, hc⟩⟩, List.nodup_nil, fun z hz => by cases hz⟩
set_option maxRecDepth 100000 in
set_option maxHeartbeats 2000000 in
theorem greedyValues1_by (size : Int) (b : Nat) (w : World) (l : List RelT) (hc0 : w.cell? ⟨b, 0, none⟩ = some (.int .i64 size)) :
    PredRl 46 #[.pointer (some ⟨b, 0, none⟩)] w l (fun r => !relOk2 size r) := by
  intro W x v0 v1 hb hx _
  have g0 := cellL hb hc0
  show Calls Tryz.prog 46 #[_, .pointer (some ⟨b, 0, none⟩)] W _
  have HX := Lib.hid hx
  have z := rd_cons rfl hx
  obtain ⟨rfl, _⟩ := rd_i1 z.1
  obtain ⟨a, c, rfl, _⟩ := rd_list z.2
  clear hx z hb hc0
  have g0_ := cellL (St.start W).bel g0
  have hs1 := (St.start W).alloc #[.int .i64 x.1, .slice a x.2.length c] 50 (n := W.heap.size) (by simp)
  clear g0_
  have k0_0 := hs1.cellAt 0 rfl 0 rfl
  have k0_1 := hs1.cellAt 0 rfl 1 rfl
  have g0_ := cellL hs1.bel g0
  go_enter Tryz.func46, Tryz.ntmps46
  go_wp2_with fail
  refine (ValidRel_c size x _ _ _ (Rd.mono HX.out hs1.bel)).mono ?_
  rintro e w2 ⟨rfl, hbw2⟩
  have hz_w2 : W.heap.size + 1 ≤ w2.heap.size := by have h9 := hbw2.size; (try simp at h9); omega
  have hs3 := hs1.step hbw2
  clear k0_0 k0_1 g0_
  have k0_0 := hs3.cellAt 0 rfl 0 rfl
  have k0_1 := hs3.cellAt 0 rfl 1 rfl
  have g0_ := cellL hs3.bel g0
  cases h1 : relOk size x with
  | false =>
    have H1 := Lib.hid (show relOk2 size x = false by unfold relOk2; rw [h1]; rfl)
    clear h1
    go_wp2_with fail
    go_ret
    exact ⟨ret_bool (by rw [H1.out]; rfl), hs3.bel⟩
  | true =>
    by_cases h2 : x.1 = 2
    · have h3 : (x.1 != 2) = false := by simp [h2]
      have H1 := Lib.hid (show relOk2 size x = true by unfold relOk2; rw [h1, decide_eq_true h2]; rfl)
      clear h1 h2
      go_wp2_with fail
      go_ret
      exact ⟨ret_bool (by rw [H1.out]; rfl), hs3.bel⟩
    · have h3 : (x.1 != 2) = true := by simp [h2]
      have H1 := Lib.hid (show relOk2 size x = false by unfold relOk2; rw [h1, decide_eq_false h2]; rfl)
      clear h1 h2
      go_wp2_with fail
      go_ret
      exact ⟨ret_bool (by rw [H1.out]; rfl), hs3.bel⟩
set_option maxRecDepth 100000 in
set_option maxHeartbeats 4000000 in
theorem GreedyValues_c (t : Tmpl) (t0 t1 : Value) (x : Inst) (x0 x1 : Value) (ps : List RelT) (vp : Value) (w : World) (ht : Rd w [t0, t1] t) (hx : Rd w [x0, x1] x) (hp : Rd w [vp] ps) :
    Calls Tryz.prog 12 #[.agg #[t0, t1], .agg #[x0, x1], vp] w fun e w' => ∃ v, e = .returned (.tuple #[v, .int .i64 (greedyVF t x ps).2]) ∧ Fresh w.heap.size w' [v] (greedyVF t x ps).1 ∧ Below w.heap.size w w' := by
  obtain ⟨size, rs⟩ := t
  obtain ⟨vars, cs⟩ := x
  have HT := Lib.hid ht
  have HX := Lib.hid hx
  have HP := Lib.hid hp
  have zt := rd_cons rfl ht
  obtain ⟨rfl, _⟩ := rd_i1 zt.1
  obtain ⟨at0, ct0, rfl, _⟩ := rd_list zt.2
  have zx := rd_cons rfl hx
  obtain ⟨rfl, _⟩ := rd_i1 zx.1
  obtain ⟨ax, cx, rfl, _⟩ := rd_list zx.2
  obtain ⟨a, c, rfl, hpr⟩ := rd_list hp
  have hb0 := (rdSl_len hpr).2
  unfold maxLen at hb0
  clear ht hx hp zt zx hpr
  have eg : ∀ args w, (callFunc 46 args).run Tryz.prog w = .ok (.enter 46 args) w := enters_of Tryz.func46 (by kernel_rfl) rfl
  have hs4 := (St.start w).alloc #[.int .i64 size, .slice at0 rs.length ct0] 26 (n := w.heap.size) (by simp)
  have k0_0 := hs4.cellAt 0 rfl 0 rfl
  have k0_1 := hs4.cellAt 0 rfl 1 rfl
  have hs5 := hs4.alloc #[.int .i64 vars, .slice ax cs.length cx] 29 (n := w.heap.size + 1) (by simp)
  clear k0_0 k0_1
  have k0_0 := hs5.cellAt 0 rfl 0 rfl
  have k0_1 := hs5.cellAt 0 rfl 1 rfl
  have k1_0 := hs5.cellAt 1 rfl 0 rfl
  have k1_1 := hs5.cellAt 1 rfl 1 rfl
  go_enter Tryz.func12, Tryz.ntmps12
  go_wp2_with fail
  refine (ValidInstance_c (size, rs) (vars, cs) _ _ _ _ _ (Rd.mono HT.out hs5.bel) (Rd.mono HX.out hs5.bel)).mono ?_
  rintro e w6 ⟨rfl, hbw6⟩
  have hz_w6 : w.heap.size + 1 + 1 ≤ w6.heap.size := by have h9 := hbw6.size; (try simp at h9); omega
  have hs7 := hs5.step hbw6
  clear k0_0 k0_1 k1_0 k1_1
  have k0_0 := hs7.cellAt 0 rfl 0 rfl
  have k0_1 := hs7.cellAt 0 rfl 1 rfl
  have k1_0 := hs7.cellAt 1 rfl 0 rfl
  have k1_1 := hs7.cellAt 1 rfl 1 rfl
  cases h1 : instOk (size, rs) (vars, cs) with
  | false =>
    have H1 := Lib.hid (show greedyVF (size, rs) (vars, cs) ps = ([], 1) by unfold greedyVF; rw [if_neg (by rw [h1]; simp)])
    clear h1
    go_wp2_with fail
    refine bodyPost_ret (v := .tuple #[.slice none 0 0, .int .i64 1]) (by simp [results, Tryz.results12, go_sem]) rfl ⟨_, by rw [H1.out], ?_, hs7.bel⟩
    rw [H1.out]; exact fresh_nil_list
  | true =>
    have hv := (instOk_get h1).2.1
    have hs := (tmplOk_get (instOk_get h1).1).1
    simp only at hv hs
    have H0 := Lib.hid (show greedyVF (size, rs) (vars, cs) ps = if pairsOkB size vars ps = true then (if (greedyF size.toNat vars.toNat ps).2 = true then ((greedyF size.toNat vars.toNat ps).1, 0) else ([], 6)) else ([], 2) by unfold greedyVF; rw [if_pos h1])
    clear h1
    obtain ⟨v, rfl⟩ : ∃ v : Nat, vars = v := ⟨vars.toNat, by omega⟩
    obtain ⟨s, rfl⟩ : ∃ s : Nat, size = s := ⟨size.toNat, by omega⟩
    obtain ⟨ht1, ht2, ht3, ht4⟩ := tri_int v (by omega) (by omega)
    simp only [Int.toNat_natCast] at H0
    have HPO := Lib.hid (fun h => pairsOk_of (size := s) (v := v) (ps := ps) (by omega) h)
    have HPB := Lib.hid (show pairsOkB s v ps = (decide (ps.length = v * (v - 1) / 2) && ps.all (relOk2 s)) by unfold pairsOkB; simp only [Int.toNat_natCast])
    generalize v * (v - 1) / 2 = T at *
    by_cases hl : ps.length = T
    · have hlb : ((ps.length : Int) != (T : Int)) = false := by simp [hl]
      rw [decide_eq_true hl, Bool.true_and] at HPB
      clear hl
      go_wp2_with fail
      refine (containsRels_c ps _ 46 _ _ _ (Rd.mono HP.out hs7.bel) eg (greedyValues1_by s _ _ ps (hs7.cellAt 0 rfl 0 rfl))).mono ?_
      rintro e w8 ⟨rfl, hbw8⟩
      have hz_w8 : w6.heap.size ≤ w8.heap.size := by have h9 := hbw8.size; (try simp at h9); omega
      have hs9 := hs7.step hbw8
      clear k0_0 k0_1 k1_0 k1_1
      have k0_0 := hs9.cellAt 0 rfl 0 rfl
      have k0_1 := hs9.cellAt 0 rfl 1 rfl
      have k1_0 := hs9.cellAt 1 rfl 0 rfl
      have k1_1 := hs9.cellAt 1 rfl 1 rfl
      have hall := all_of_any ps (relOk2 s)
      cases hq : ps.any (fun r => !relOk2 s r) with
      | true =>
        rw [hq] at hall
        have H1 := Lib.hid (show greedyVF ((s : Int), rs) ((v : Int), cs) ps = ([], 2) by rw [H0.out, if_neg (by rw [HPB.out, ← hall]; decide)])
        clear hq hall
        go_wp2_with fail
        refine bodyPost_ret (v := .tuple #[.slice none 0 0, .int .i64 2]) (by simp [results, Tryz.results12, go_sem]) rfl ⟨_, by rw [H1.out], ?_, hs9.bel⟩
        rw [H1.out]; exact fresh_nil_list
      | false =>
        rw [hq] at hall
        have hok : pairsOkB s v ps = true := by rw [HPB.out, ← hall]; rfl
        have H1 := Lib.hid (show greedyVF ((s : Int), rs) ((v : Int), cs) ps = if (greedyF s v ps).2 = true then ((greedyF s v ps).1, 0) else ([], 6) by rw [H0.out, if_pos hok])
        have HOK := Lib.hid (HPO.out hok)
        clear hq hall hok
        go_wp2_with fail
        refine (greedy_c s v ps _ _ (Rd.mono HP.out hs9.bel) HOK.out (by omega)).mono ?_
        rintro e w10 ⟨vr, rfl, frr, hbw10⟩
        have hz_w10 : w8.heap.size ≤ w10.heap.size := by have h9 := hbw10.size; (try simp at h9); omega
        have hs11 := hs9.step hbw10
        clear k0_0 k0_1 k1_0 k1_1
        have k0_0 := hs11.cellAt 0 rfl 0 rfl
        have k0_1 := hs11.cellAt 0 rfl 1 rfl
        have k1_0 := hs11.cellAt 1 rfl 0 rfl
        have k1_1 := hs11.cellAt 1 rfl 1 rfl
        have HR := Lib.hid frr
        obtain ⟨ar, cr, rfl, _⟩ := rd_list frr.rd
        clear frr
        generalize greedyF s v ps = G at *
        obtain ⟨gl, gb⟩ := G
        cases gb with
        | true =>
          have H2 := Lib.hid (show greedyVF ((s : Int), rs) ((v : Int), cs) ps = (gl, 0) by rw [H1.out]; rfl)
          go_wp2_with fail
          refine bodyPost_ret (v := .tuple #[.slice ar gl.length cr, .int .i64 0]) (by simp [results, Tryz.results12, go_sem]) rfl ⟨_, by rw [H2.out], ?_, hs11.bel⟩
          rw [H2.out]; exact HR.out.lower (by omega)
        | false =>
          have H2 := Lib.hid (show greedyVF ((s : Int), rs) ((v : Int), cs) ps = ([], 6) by rw [H1.out]; rfl)
          go_wp2_with fail
          refine bodyPost_ret (v := .tuple #[.slice none 0 0, .int .i64 6]) (by simp [results, Tryz.results12, go_sem]) rfl ⟨_, by rw [H2.out], ?_, hs11.bel⟩
          rw [H2.out]; exact fresh_nil_list
    · have hlb : ((ps.length : Int) != (T : Int)) = true := by simp; omega
      rw [decide_eq_false hl, Bool.false_and] at HPB
      have H1 := Lib.hid (show greedyVF ((s : Int), rs) ((v : Int), cs) ps = ([], 2) by rw [H0.out, if_neg (by rw [HPB.out]; decide)])
      clear hl
      go_wp2_with fail
      refine bodyPost_ret (v := .tuple #[.slice none 0 0, .int .i64 2]) (by simp [results, Tryz.results12, go_sem]) rfl ⟨_, by rw [H1.out], ?_, hs7.bel⟩
      rw [H1.out]; exact fresh_nil_list
set_option maxRecDepth 100000 in
set_option maxHeartbeats 8000000 in
theorem sGreedyValues_c (t : Tmpl) (t0 t1 : Value) (x : Inst) (x0 x1 : Value) (ps : List RelT) (vp : Value) (w : World) (ht : Rd w [t0, t1] t) (hx : Rd w [x0, x1] x) (hp : Rd w [vp] ps) :
    Calls Tryz.prog 13 #[.agg #[t0, t1], .agg #[x0, x1], vp] w fun e w' => ∃ v, e = .returned (.tuple #[v, .int .i64 (greedyVF t x ps).2]) ∧ Fresh w.heap.size w' [v] (greedyVF t x ps).1 ∧ Below w.heap.size w w' := by
  obtain ⟨size, rs⟩ := t
  obtain ⟨vars, cs⟩ := x
  have HT := Lib.hid ht
  have HX := Lib.hid hx
  have HP := Lib.hid hp
  have zt := rd_cons rfl ht
  obtain ⟨rfl, _⟩ := rd_i1 zt.1
  obtain ⟨at0, ct0, rfl, _⟩ := rd_list zt.2
  have zx := rd_cons rfl hx
  obtain ⟨rfl, _⟩ := rd_i1 zx.1
  obtain ⟨ax, cx, rfl, _⟩ := rd_list zx.2
  obtain ⟨a, c, rfl, hpr⟩ := rd_list hp
  have hb0 := (rdSl_len hpr).2
  unfold maxLen at hb0
  have HPR := Lib.hid hpr
  clear ht hx hp zt zx hpr
  have hs12 := (St.start w).alloc #[.int .i64 size, .slice at0 rs.length ct0] 26 (n := w.heap.size) (by simp)
  have k0_0 := hs12.cellAt 0 rfl 0 rfl
  have k0_1 := hs12.cellAt 0 rfl 1 rfl
  have hs13 := hs12.alloc #[.int .i64 vars, .slice ax cs.length cx] 29 (n := w.heap.size + 1) (by simp)
  clear k0_0 k0_1
  have k0_0 := hs13.cellAt 0 rfl 0 rfl
  have k0_1 := hs13.cellAt 0 rfl 1 rfl
  have k1_0 := hs13.cellAt 1 rfl 0 rfl
  have k1_1 := hs13.cellAt 1 rfl 1 rfl
  go_enter Tryz.func13, Tryz.ntmps13
  go_wp2_with fail
  refine (l05Ok_c (size, rs) (vars, cs) _ _ _ _ _ _ _ (Rd.mono HT.out hs13.bel) (Rd.mono HX.out hs13.bel) (hs13.cellAt 0 rfl 0 rfl) (hs13.cellAt 0 rfl 1 rfl) (hs13.cellAt 1 rfl 0 rfl) (hs13.cellAt 1 rfl 1 rfl)).mono ?_
  rintro e w14 ⟨rfl, hbw14⟩
  have hz_w14 : w.heap.size + 1 + 1 ≤ w14.heap.size := by have h9 := hbw14.size; (try simp at h9); omega
  have hs15 := hs13.step hbw14
  clear k0_0 k0_1 k1_0 k1_1
  have k0_0 := hs15.cellAt 0 rfl 0 rfl
  have k0_1 := hs15.cellAt 0 rfl 1 rfl
  have k1_0 := hs15.cellAt 1 rfl 0 rfl
  have k1_1 := hs15.cellAt 1 rfl 1 rfl
  cases h1 : instOk (size, rs) (vars, cs) with
  | false =>
    have H1 := Lib.hid (show greedyVF (size, rs) (vars, cs) ps = ([], 1) by unfold greedyVF; rw [if_neg (by rw [h1]; simp)])
    have HB := Lib.hid (hs15.bel.trans ((belowA w14 (.cells #[] 2)).mono hs15.bel.size))
    clear h1
    go_wp2_with fail
    refine bodyPost_ret (v := .tuple #[.slice (some ⟨w14.heap.size, 0, none⟩) 0 0, .int .i64 1]) (by simp [results, Tryz.results13, go_sem]) rfl ⟨_, by rw [H1.out], ?_, HB.out⟩
    rw [H1.out]; exact fresh_made (Nat.zero_le _)
  | true =>
    have hv := (instOk_get h1).2.1
    have hs := (tmplOk_get (instOk_get h1).1).1
    simp only at hv hs
    have H0 := Lib.hid (show greedyVF (size, rs) (vars, cs) ps = if pairsOkB size vars ps = true then (if (greedyF size.toNat vars.toNat ps).2 = true then ((greedyF size.toNat vars.toNat ps).1, 0) else ([], 6)) else ([], 2) by unfold greedyVF; rw [if_pos h1])
    clear h1
    obtain ⟨v, rfl⟩ : ∃ v : Nat, vars = v := ⟨vars.toNat, by omega⟩
    obtain ⟨s, rfl⟩ : ∃ s : Nat, size = s := ⟨size.toNat, by omega⟩
    obtain ⟨ht1, ht2, ht3, ht4⟩ := tri_int v (by omega) (by omega)
    simp only [Int.toNat_natCast] at H0
    have HPO := Lib.hid (fun h => pairsOk_of (size := s) (v := v) (ps := ps) (by omega) h)
    have HPB := Lib.hid (show pairsOkB s v ps = (decide (ps.length = v * (v - 1) / 2) && ps.all (relOk2 s)) by unfold pairsOkB; simp only [Int.toNat_natCast])
    generalize v * (v - 1) / 2 = T at *
    have HT3 := Lib.hid ht3
    clear ht3
    by_cases hl : ps.length = T
    · have hlb : ((ps.length : Int) != ((v : Int) * ((v : Int) - 1)) / 2) = false := by rw [HT3.out]; simp [hl]
      rw [decide_eq_true hl, Bool.true_and] at HPB
      clear hl
      go_wp2_with fail
      go_loopw [8] (fun i wl => ∃ k : Nat, k ≤ ps.length ∧ i = .int .i64 k ∧ Hid (Below (w14).heap.size (w14) wl) ∧ Hid (∀ j (hj : j < ps.length), j < k → relOk2 s ps[j] = true)) (fun i _ => ps.length - (intOf i).toNat)
      case atStart => exact ⟨0, Nat.zero_le _, rfl, Below.refl _ _, fun j _ hj => absurd hj (Nat.not_lt_zero _)⟩
      case round =>
        obtain ⟨k, hk, rfl, hbl, hr⟩ := hrel
        have hbl2 := hbl.out
        have hz_wr : w14.heap.size ≤ wr.heap.size := by have h9 := hbl2.size; (try simp at h9); omega
        have hs16 := hs15.step hbl2
        clear k0_0 k0_1 k1_0 k1_1
        have k0_0 := hs16.cellAt 0 rfl 0 rfl
        have k0_1 := hs16.cellAt 0 rfl 1 rfl
        have k1_0 := hs16.cellAt 1 rfl 0 rfl
        have k1_1 := hs16.cellAt 1 rfl 1 rfl
        have HBL := Lib.hid hbl2
        clear hbl2 hbl
        by_cases hlt : k < ps.length
        · obtain ⟨b, o, u0, u1, rfl, q0, q1, hy⟩ := rdSl_two rfl HPR.out k hlt
          have hyz := rd_cons rfl hy
          obtain ⟨rfl, _⟩ := rd_i1 hyz.1
          have HY := Lib.hid hy
          clear hy hyz
          have hkl : (k : Int) < ps.length := by omega
          have HNO := Lib.hid (fun (h : relOk2 s ps[k] = false) => show greedyVF ((s : Int), rs) ((v : Int), cs) ps = ([], 2) by
            rw [H0.out, if_neg]
            rw [HPB.out]
            intro h9
            rw [List.all_eq_true] at h9
            rw [h9 _ (List.getElem_mem hlt)] at h
            cases h)
          generalize hR : ps[k] = R at *
          have HR := Lib.hid hR
          clear hR
          clear k0_0 k0_1 k1_0 k1_1
          have k0_0 := hs16.cellAt 0 rfl 0 rfl
          have k0_1 := hs16.cellAt 0 rfl 1 rfl
          have k1_0 := hs16.cellAt 1 rfl 0 rfl
          have k1_1 := hs16.cellAt 1 rfl 1 rfl
          have q0_ := cellL hs16.bel q0
          clear k0_0 k0_1 k1_0 k1_1 q0_
          have k0_0 := hs16.cellAt 0 rfl 0 rfl
          have k0_1 := hs16.cellAt 0 rfl 1 rfl
          have k1_0 := hs16.cellAt 1 rfl 0 rfl
          have k1_1 := hs16.cellAt 1 rfl 1 rfl
          have q0_ := cellL hs16.bel q0
          have q1_ := cellL hs16.bel q1
          clear k0_0 k0_1 k1_0 k1_1 q0_ q1_
          have k0_0 := hs16.cellAt 0 rfl 0 rfl
          have k0_1 := hs16.cellAt 0 rfl 1 rfl
          have k1_0 := hs16.cellAt 1 rfl 0 rfl
          have k1_1 := hs16.cellAt 1 rfl 1 rfl
          have q0_ := cellL hs16.bel q0
          have q1_ := cellL hs16.bel q1
          cases h4 : relOk s R with
          | false =>
            have H4 := Lib.hid (HNO.out (by unfold relOk2; rw [h4]; rfl))
            go_upto_region 8 with fail
            refine wp_region_noPanic (wp_region_tree4 (fun w' => w'.cell? ⟨w.heap.size, 0, none⟩ = some (.int .i64 (s : Int)) ∧ w'.cell? ⟨w.heap.size, 1, none⟩ = some (.slice at0 rs.length ct0) ∧ w'.cell? ⟨w.heap.size + 1, 0, none⟩ = some (.int .i64 (v : Int)) ∧ w'.cell? ⟨w.heap.size + 1, 1, none⟩ = some (.slice ax cs.length cx) ∧ w'.cell? ⟨b, o + k * 2, none⟩ = some (.int .i64 R.1) ∧ w'.cell? ⟨b, o + k * 2 + 1, none⟩ = some (u1)) (.float 0 (.float 1 (.float 2 (.float 3 (.float 4 (.hard 5 (.float 6 (.float 7 (.float 8 (.float 9 (.float 10 (.float 11 (.float 12 (.float 13 (.float 14 .nil))))))))))))))) (by kernel_rfl) (by kernel_rfl) (by kernel_rfl) rfl ?_ (fun _ _ _ _ _ h => h) ?_)
            · exact ⟨(hs16.drew).cellAt 0 rfl 0 rfl, (hs16.drew).cellAt 0 rfl 1 rfl, (hs16.drew).cellAt 1 rfl 0 rfl, (hs16.drew).cellAt 1 rfl 1 rfl, cellL (hs16.drew).bel q0, cellL (hs16.drew).bel q1⟩
            have hs17 := hs16.drew
            have HBL_18 := Lib.hid (HBL.out.trans (((belowD _)).mono HBL.out.size))
            clear HBL
            clear k0_0 k0_1 k1_0 k1_1 q0_ q1_
            have hz_wd19 : wr.heap.size ≤ (wr.drew).heap.size := by simp
            generalize hgen_wd19 : wr.drew = wd19 at *
            have HG_wd19 := Lib.hid hgen_wd19
            clear hgen_wd19
            (repeat (first | (apply t4_skip rfl (by rfl); try simp only [Act.put, List.setIfInBounds_toArray, List.set_cons_zero, List.set_cons_succ]) | (apply t4_float rfl (by rfl); (· (intro w' hS; go_simp <;> with_reducible rfl)); (try simp only [Act.put, List.setIfInBounds_toArray, List.set_cons_zero, List.set_cons_succ]))))
            refine t4_hard rfl (by rfl) (fun K hK => ?_)
            go_wp2_with (go_at_call 49; refine (l01Ok_c s R _ _ _ _ _ (Rd.mono HY.out hs17.bel) (cellL hs17.bel q0) (cellL hs17.bel q1)).mono ?_; rintro e w20 ⟨rfl, hbw20⟩)
            have hz_w20 : wd19.heap.size ≤ w20.heap.size := by have h9 := hbw20.size; (try simp at h9); omega
            have hs21 := hs17.step hbw20
            have HBL_22 := Lib.hid (HBL_18.out.trans ((hbw20).mono HBL_18.out.size))
            clear HBL_18
            refine ⟨⟨hs21.cellAt 0 rfl 0 rfl, hs21.cellAt 0 rfl 1 rfl, hs21.cellAt 1 rfl 0 rfl, hs21.cellAt 1 rfl 1 rfl, cellL hs21.bel q0, cellL hs21.bel q1⟩, ?_⟩
            (repeat (first | (apply t4_skip rfl (by rfl); try simp only [Act.put, List.setIfInBounds_toArray, List.set_cons_zero, List.set_cons_succ]) | (apply t4_float rfl (by rfl); (· (intro w' hS; go_simp <;> with_reducible rfl)); (try simp only [Act.put, List.setIfInBounds_toArray, List.set_cons_zero, List.set_cons_succ]))))
            have k0_0 := hs21.cellAt 0 rfl 0 rfl
            have k0_1 := hs21.cellAt 0 rfl 1 rfl
            have k1_0 := hs21.cellAt 1 rfl 0 rfl
            have k1_1 := hs21.cellAt 1 rfl 1 rfl
            have q0_ := cellL hs21.bel q0
            have q1_ := cellL hs21.bel q1
            refine t4_nil (NoPanic.normal ?_)
            have HB := Lib.hid (hs21.bel.trans ((belowA w20 (.cells #[] 2)).mono hs21.bel.size))
            go_wp2_with fail
            refine bodyPost_ret (v := .tuple #[.slice (some ⟨w20.heap.size, 0, none⟩) 0 0, .int .i64 2]) (by simp [results, Tryz.results13, go_sem]) rfl ⟨_, by rw [H4.out], ?_, HB.out⟩
            rw [H4.out]; exact fresh_made (Nat.zero_le _)
          | true =>
            by_cases h5 : R.1 = 2
            · have h6 : (R.1 != 2) = false := by simp [h5]
              have H4 := Lib.hid (show relOk2 s R = true by unfold relOk2; rw [h4, decide_eq_true h5]; rfl)
              clear h5
              go_upto_region 8 with fail
              refine wp_region_noPanic (wp_region_tree4 (fun w' => w'.cell? ⟨w.heap.size, 0, none⟩ = some (.int .i64 (s : Int)) ∧ w'.cell? ⟨w.heap.size, 1, none⟩ = some (.slice at0 rs.length ct0) ∧ w'.cell? ⟨w.heap.size + 1, 0, none⟩ = some (.int .i64 (v : Int)) ∧ w'.cell? ⟨w.heap.size + 1, 1, none⟩ = some (.slice ax cs.length cx) ∧ w'.cell? ⟨b, o + k * 2, none⟩ = some (.int .i64 R.1) ∧ w'.cell? ⟨b, o + k * 2 + 1, none⟩ = some (u1)) (.float 0 (.float 1 (.float 2 (.float 3 (.float 4 (.hard 5 (.float 6 (.float 7 (.float 8 (.float 9 (.float 10 (.float 11 (.float 12 (.float 13 (.float 14 .nil))))))))))))))) (by kernel_rfl) (by kernel_rfl) (by kernel_rfl) rfl ?_ (fun _ _ _ _ _ h => h) ?_)
              · exact ⟨(hs16.drew).cellAt 0 rfl 0 rfl, (hs16.drew).cellAt 0 rfl 1 rfl, (hs16.drew).cellAt 1 rfl 0 rfl, (hs16.drew).cellAt 1 rfl 1 rfl, cellL (hs16.drew).bel q0, cellL (hs16.drew).bel q1⟩
              have hs23 := hs16.drew
              have HBL_24 := Lib.hid (HBL.out.trans (((belowD _)).mono HBL.out.size))
              clear HBL
              clear k0_0 k0_1 k1_0 k1_1 q0_ q1_
              have hz_wd25 : wr.heap.size ≤ (wr.drew).heap.size := by simp
              generalize hgen_wd25 : wr.drew = wd25 at *
              have HG_wd25 := Lib.hid hgen_wd25
              clear hgen_wd25
              (repeat (first | (apply t4_skip rfl (by rfl); try simp only [Act.put, List.setIfInBounds_toArray, List.set_cons_zero, List.set_cons_succ]) | (apply t4_float rfl (by rfl); (· (intro w' hS; go_simp <;> with_reducible rfl)); (try simp only [Act.put, List.setIfInBounds_toArray, List.set_cons_zero, List.set_cons_succ]))))
              refine t4_hard rfl (by rfl) (fun K hK => ?_)
              go_wp2_with (go_at_call 49; refine (l01Ok_c s R _ _ _ _ _ (Rd.mono HY.out hs23.bel) (cellL hs23.bel q0) (cellL hs23.bel q1)).mono ?_; rintro e w26 ⟨rfl, hbw26⟩)
              have hz_w26 : wd25.heap.size ≤ w26.heap.size := by have h9 := hbw26.size; (try simp at h9); omega
              have hs27 := hs23.step hbw26
              have HBL_28 := Lib.hid (HBL_24.out.trans ((hbw26).mono HBL_24.out.size))
              clear HBL_24
              refine ⟨⟨hs27.cellAt 0 rfl 0 rfl, hs27.cellAt 0 rfl 1 rfl, hs27.cellAt 1 rfl 0 rfl, hs27.cellAt 1 rfl 1 rfl, cellL hs27.bel q0, cellL hs27.bel q1⟩, ?_⟩
              (repeat (first | (apply t4_skip rfl (by rfl); try simp only [Act.put, List.setIfInBounds_toArray, List.set_cons_zero, List.set_cons_succ]) | (apply t4_float rfl (by rfl); (· (intro w' hS; go_simp <;> with_reducible rfl)); (try simp only [Act.put, List.setIfInBounds_toArray, List.set_cons_zero, List.set_cons_succ]))))
              have k0_0 := hs27.cellAt 0 rfl 0 rfl
              have k0_1 := hs27.cellAt 0 rfl 1 rfl
              have k1_0 := hs27.cellAt 1 rfl 0 rfl
              have k1_1 := hs27.cellAt 1 rfl 1 rfl
              have q0_ := cellL hs27.bel q0
              have q1_ := cellL hs27.bel q1
              refine t4_nil (NoPanic.normal ?_)
              go_wp2_with fail
              go_roundw
              case rel =>
                refine ⟨k + 1, by omega, by go_num, HBL_28.out, fun j hj hjk => ?_⟩
                rcases Nat.lt_or_ge j k with h | h
                · exact hr.out j hj h
                · obtain rfl : j = k := by omega
                  rw [HR.out]; exact H4.out
              case measure => simp [intOf]; omega
            · have h6 : (R.1 != 2) = true := by simp [h5]
              have H4 := Lib.hid (HNO.out (by unfold relOk2; rw [h4, decide_eq_false h5]; rfl))
              clear h5
              go_upto_region 8 with fail
              refine wp_region_noPanic (wp_region_tree4 (fun w' => w'.cell? ⟨w.heap.size, 0, none⟩ = some (.int .i64 (s : Int)) ∧ w'.cell? ⟨w.heap.size, 1, none⟩ = some (.slice at0 rs.length ct0) ∧ w'.cell? ⟨w.heap.size + 1, 0, none⟩ = some (.int .i64 (v : Int)) ∧ w'.cell? ⟨w.heap.size + 1, 1, none⟩ = some (.slice ax cs.length cx) ∧ w'.cell? ⟨b, o + k * 2, none⟩ = some (.int .i64 R.1) ∧ w'.cell? ⟨b, o + k * 2 + 1, none⟩ = some (u1)) (.float 0 (.float 1 (.float 2 (.float 3 (.float 4 (.hard 5 (.float 6 (.float 7 (.float 8 (.float 9 (.float 10 (.float 11 (.float 12 (.float 13 (.float 14 .nil))))))))))))))) (by kernel_rfl) (by kernel_rfl) (by kernel_rfl) rfl ?_ (fun _ _ _ _ _ h => h) ?_)
              · exact ⟨(hs16.drew).cellAt 0 rfl 0 rfl, (hs16.drew).cellAt 0 rfl 1 rfl, (hs16.drew).cellAt 1 rfl 0 rfl, (hs16.drew).cellAt 1 rfl 1 rfl, cellL (hs16.drew).bel q0, cellL (hs16.drew).bel q1⟩
              have hs29 := hs16.drew
              have HBL_30 := Lib.hid (HBL.out.trans (((belowD _)).mono HBL.out.size))
              clear HBL
              clear k0_0 k0_1 k1_0 k1_1 q0_ q1_
              have hz_wd31 : wr.heap.size ≤ (wr.drew).heap.size := by simp
              generalize hgen_wd31 : wr.drew = wd31 at *
              have HG_wd31 := Lib.hid hgen_wd31
              clear hgen_wd31
              (repeat (first | (apply t4_skip rfl (by rfl); try simp only [Act.put, List.setIfInBounds_toArray, List.set_cons_zero, List.set_cons_succ]) | (apply t4_float rfl (by rfl); (· (intro w' hS; go_simp <;> with_reducible rfl)); (try simp only [Act.put, List.setIfInBounds_toArray, List.set_cons_zero, List.set_cons_succ]))))
              refine t4_hard rfl (by rfl) (fun K hK => ?_)
              go_wp2_with (go_at_call 49; refine (l01Ok_c s R _ _ _ _ _ (Rd.mono HY.out hs29.bel) (cellL hs29.bel q0) (cellL hs29.bel q1)).mono ?_; rintro e w32 ⟨rfl, hbw32⟩)
              have hz_w32 : wd31.heap.size ≤ w32.heap.size := by have h9 := hbw32.size; (try simp at h9); omega
              have hs33 := hs29.step hbw32
              have HBL_34 := Lib.hid (HBL_30.out.trans ((hbw32).mono HBL_30.out.size))
              clear HBL_30
              refine ⟨⟨hs33.cellAt 0 rfl 0 rfl, hs33.cellAt 0 rfl 1 rfl, hs33.cellAt 1 rfl 0 rfl, hs33.cellAt 1 rfl 1 rfl, cellL hs33.bel q0, cellL hs33.bel q1⟩, ?_⟩
              (repeat (first | (apply t4_skip rfl (by rfl); try simp only [Act.put, List.setIfInBounds_toArray, List.set_cons_zero, List.set_cons_succ]) | (apply t4_float rfl (by rfl); (· (intro w' hS; go_simp <;> with_reducible rfl)); (try simp only [Act.put, List.setIfInBounds_toArray, List.set_cons_zero, List.set_cons_succ]))))
              have k0_0 := hs33.cellAt 0 rfl 0 rfl
              have k0_1 := hs33.cellAt 0 rfl 1 rfl
              have k1_0 := hs33.cellAt 1 rfl 0 rfl
              have k1_1 := hs33.cellAt 1 rfl 1 rfl
              have q0_ := cellL hs33.bel q0
              have q1_ := cellL hs33.bel q1
              refine t4_nil (NoPanic.normal ?_)
              have HB := Lib.hid (hs33.bel.trans ((belowA w32 (.cells #[] 2)).mono hs33.bel.size))
              go_wp2_with fail
              refine bodyPost_ret (v := .tuple #[.slice (some ⟨w32.heap.size, 0, none⟩) 0 0, .int .i64 2]) (by simp [results, Tryz.results13, go_sem]) rfl ⟨_, by rw [H4.out], ?_, HB.out⟩
              rw [H4.out]; exact fresh_made (Nat.zero_le _)
        · obtain rfl : k = ps.length := by omega
          have hkl : ¬ ((ps.length : Int) < ps.length) := by omega
          have hok : pairsOkB s v ps = true := by
            rw [HPB.out, List.all_eq_true]
            intro y hy
            obtain ⟨j, hj, rfl⟩ := List.getElem_of_mem hy
            exact hr.out j hj hj
          have H1 := Lib.hid (show greedyVF ((s : Int), rs) ((v : Int), cs) ps = if (greedyF s v ps).2 = true then ((greedyF s v ps).1, 0) else ([], 6) by rw [H0.out, if_pos hok])
          have HOK := Lib.hid (HPO.out hok)
          clear hok
          go_wp2_with fail
          refine (l06Greedy_c s v ps _ _ (Rd.mono HP.out hs16.bel) HOK.out (by omega)).mono ?_
          rintro e w35 ⟨vr, rfl, frr, hbw35⟩
          have hz_w35 : wr.heap.size ≤ w35.heap.size := by have h9 := hbw35.size; (try simp at h9); omega
          have hs36 := hs16.step hbw35
          have HBL_37 := Lib.hid (HBL.out.trans ((hbw35).mono HBL.out.size))
          clear HBL
          clear k0_0 k0_1 k1_0 k1_1
          have k0_0 := hs36.cellAt 0 rfl 0 rfl
          have k0_1 := hs36.cellAt 0 rfl 1 rfl
          have k1_0 := hs36.cellAt 1 rfl 0 rfl
          have k1_1 := hs36.cellAt 1 rfl 1 rfl
          have HRR := Lib.hid frr
          obtain ⟨ar, cr, rfl, _⟩ := rd_list frr.rd
          clear frr
          generalize greedyF s v ps = G at *
          obtain ⟨gl, gb⟩ := G
          cases gb with
          | true =>
            have H2 := Lib.hid (show greedyVF ((s : Int), rs) ((v : Int), cs) ps = (gl, 0) by rw [H1.out]; rfl)
            go_wp2_with fail
            refine bodyPost_ret (v := .tuple #[.slice ar gl.length cr, .int .i64 0]) (by simp [results, Tryz.results13, go_sem]) rfl ⟨_, by rw [H2.out], ?_, hs36.bel⟩
            rw [H2.out]; exact HRR.out.lower (by omega)
          | false =>
            have H2 := Lib.hid (show greedyVF ((s : Int), rs) ((v : Int), cs) ps = ([], 6) by rw [H1.out]; rfl)
            have HB := Lib.hid (hs36.bel.trans ((belowA w35 (.cells #[] 2)).mono hs36.bel.size))
            go_wp2_with fail
            refine bodyPost_ret (v := .tuple #[.slice (some ⟨w35.heap.size, 0, none⟩) 0 0, .int .i64 6]) (by simp [results, Tryz.results13, go_sem]) rfl ⟨_, by rw [H2.out], ?_, HB.out⟩
            rw [H2.out]; exact fresh_made (Nat.zero_le _)
    · have hlb : ((ps.length : Int) != ((v : Int) * ((v : Int) - 1)) / 2) = true := by rw [HT3.out]; simp; omega
      rw [decide_eq_false hl, Bool.false_and] at HPB
      have H1 := Lib.hid (show greedyVF ((s : Int), rs) ((v : Int), cs) ps = ([], 2) by rw [H0.out, if_neg (by rw [HPB.out]; decide)])
      have HB := Lib.hid (hs15.bel.trans ((belowA w14 (.cells #[] 2)).mono hs15.bel.size))
      clear hl
      go_wp2_with fail
      refine bodyPost_ret (v := .tuple #[.slice (some ⟨w14.heap.size, 0, none⟩) 0 0, .int .i64 2]) (by simp [results, Tryz.results13, go_sem]) rfl ⟨_, by rw [H1.out], ?_, HB.out⟩
      rw [H1.out]; exact fresh_made (Nat.zero_le _)

end Go.Proofs.YtllenfkbfeanmaaGreat

