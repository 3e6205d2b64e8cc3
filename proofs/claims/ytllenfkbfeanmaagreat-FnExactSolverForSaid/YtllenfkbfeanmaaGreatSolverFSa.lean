/-
  CONTRACT: the way for a template, the program's side.
-/
import Derived.Test.YtllenfkbfeanmaaGreatPolyKSa
import Derived.Test.YtllenfkbfeanmaaGreatFailBSa
import Derived.Test.YtllenfkbfeanmaaGreatKeepBSa
import Derived.Test.YtllenfkbfeanmaaGreatKindSSa
import Derived.Test.YtllenfkbfeanmaaGreatTernKSa
namespace Go.Proofs.YtllenfkbfeanmaaGreat
open Go.RowKit Go.Shelf Go.IntWalk
open Rep (Rd Own sz)
set_option linter.unusedSimpArgs false
set_option linter.unusedVariables false

/-- The first value whose constant operation keeps all relations. -/
def constW (t : Tmpl) : Option Nat := (List.range t.1.toNat).find? (fun (a : Nat) => decide (brokenF t (constOp t.1 (a : Int)) < 0))
def fullT (t : Tmpl) : Bool := t.2.all (fun r => decide (0 < r.2.length))
def waysE (t : Tmpl) : OpT × Int × Int :=
  if isPr t.1 = true ∧ t.2.all (affIs t.1) = true then (affOp t.1, 4, 0) else ((0, []), 0, 6)
def waysM (t : Tmpl) : OpT × Int × Int := if (firstF t 3 (majB t.1)).1 = 0 then ((firstF t 3 (majB t.1)).2, 3, 0) else waysE t
/-- What there is behind the constants. -/
def waysF (t : Tmpl) : OpT × Int × Int := if (firstF t 2 (semiB t.1)).1 = 0 then ((firstF t 2 (semiB t.1)).2, 2, 0) else waysM t
def waysT (t : Tmpl) : OpT × Int × Int :=
  if fullT t = true then (match constW t with | some a => (constOp t.1 (a : Int), 1, 0) | none => waysF t) else waysF t
/-- The operation, the way, the code. -/
def solverF (t : Tmpl) : OpT × Int × Int := if tmplOk t = true then waysT t else ((0, []), 0, 1)
theorem constW_some {t : Tmpl} {k : Nat} (hk : (k : Int) < t.1) (h0 : ∀ j : Nat, j < k → 0 ≤ brokenF t (constOp t.1 (j : Int))) (h1 : brokenF t (constOp t.1 (k : Int)) < 0) : constW t = some k := by
  unfold constW
  rw [List.find?_eq_some_iff_getElem]
  refine ⟨by simpa using h1, k, by simp; omega, by simp, fun j hj => ?_⟩
  simp
  exact h0 j hj
theorem constW_none {t : Tmpl} (h0 : ∀ j : Nat, (j : Int) < t.1 → 0 ≤ brokenF t (constOp t.1 (j : Int))) : constW t = none := by
  unfold constW
  rw [List.find?_eq_none]
  intro j hj
  have := h0 j (by have := List.mem_range.1 hj; omega)
  simpa using this
theorem noneRel_any (l : List RelT) : l.any (fun r => decide (r.2.length = 0)) = !(l.all (fun r => decide (0 < r.2.length))) := by
  induction l with
  | nil => rfl
  | cons r l ih =>
    simp only [List.any_cons, List.all_cons, ih, Bool.not_and]
    congr 1
    by_cases h : r.2.length = 0
    · simp [h]
    · have h2 : 0 < r.2.length := by omega
      simp [h, h2]
theorem any_not_all {α : Type} (q : α → Bool) (l : List α) : l.any (fun r => !q r) = !(l.all q) := by
  induction l with
  | nil => rfl
  | cons r l ih => simp only [List.any_cons, List.all_cons, ih, Bool.not_and]
set_option maxRecDepth 100000 in
theorem noneRel_by (w : World) (l : List RelT) : PredRl 59 #[] w l (fun r => decide (r.2.length = 0)) := by
  intro W x u0 u1 hb hx hmem
  obtain ⟨ar, ts⟩ := x
  have zx := rd_cons rfl hx
  obtain ⟨rfl, _⟩ := rd_i1 zx.1
  obtain ⟨a, c, rfl, hh⟩ := rd_list zx.2
  show Calls Tryz.prog 59 #[_] W _
  clear hx zx hb hmem
  have H := Lib.hid (show ((ts.length : Int) == 0) = decide (ts.length = 0) by by_cases h : ts.length = 0 <;> simp [h])
  obtain ⟨Z, hZ⟩ : ∃ Z, Z = decide (ts.length = 0) := ⟨_, rfl⟩
  simp only [← hZ] at H ⊢
  clear hZ
  have h := H.out
  have hs1 := (St.start W).alloc #[.int .i64 ar, .slice a ts.length c] 50 (n := W.heap.size) (by simp)
  have k0_0 := hs1.cellAt 0 rfl 0 rfl
  have k0_1 := hs1.cellAt 0 rfl 1 rfl
  go_enter Tryz.func59, Tryz.ntmps59
  go_wp2_with fail
  go_ret
  exact ⟨rfl, hs1.bel⟩
set_option maxRecDepth 100000 in
set_option maxHeartbeats 4000000 in
theorem notAff_by (size : Int) (rs : List RelT) (tb : Nat) (w : World) (c0 : w.cell? ⟨tb, 0, none⟩ = some (.int .i64 size)) (hp : isPr size = true) (hrs : ∀ r, r ∈ rs → relOk size r = true) :
    PredRl 64 #[.pointer (some ⟨tb, 0, none⟩)] w rs (fun r => !affIs size r) := by
  intro W x u0 u1 hb hx hmem
  have g0 := cellL hb c0
  have HX := Lib.hid hx
  have HOK := Lib.hid (hrs x hmem)
  have HP := Lib.hid hp
  obtain ⟨ar, ts⟩ := x
  have zx := rd_cons rfl hx
  obtain ⟨rfl, _⟩ := rd_i1 zx.1
  obtain ⟨a, c, rfl, hh⟩ := rd_list zx.2
  show Calls Tryz.prog 64 #[_, .pointer (some ⟨tb, 0, none⟩)] W _
  clear hx zx hb hmem hrs hp c0
  have g0_ := cellL (St.start W).bel g0
  have hs2 := (St.start W).alloc #[.int .i64 ar, .slice a ts.length c] 50 (n := W.heap.size) (by simp)
  clear g0_
  have k0_0 := hs2.cellAt 0 rfl 0 rfl
  have k0_1 := hs2.cellAt 0 rfl 1 rfl
  have g0_ := cellL hs2.bel g0
  go_enter Tryz.func64, Tryz.ntmps64
  go_wp2_with fail
  refine (isAffine1_c size (ar, ts) _ _ _ (Rd.mono HX.out hs2.bel) HP.out HOK.out).mono ?_
  rintro e w3 ⟨rfl, hbw3⟩
  have hz_w3 : W.heap.size + 1 ≤ w3.heap.size := by have h9 := hbw3.size; (try simp at h9); omega
  have hs4 := hs2.step hbw3
  clear k0_0 k0_1 g0_
  have k0_0 := hs4.cellAt 0 rfl 0 rfl
  have k0_1 := hs4.cellAt 0 rfl 1 rfl
  have g0_ := cellL hs4.bel g0
  go_wp2_with fail
  go_ret
  exact ⟨rfl, hs4.bel⟩
set_option maxRecDepth 100000 in
set_option maxHeartbeats 16000000 in
theorem SolverFor_c (t : Tmpl) (t0 t1 : Value) (w : World) (ht : Rd w [t0, t1] t) :
    Calls Tryz.prog 20 #[.agg #[t0, t1]] w fun e w' => ∃ v0 v1, e = .returned (.tuple #[.int .i64 (solverF t).2.1, .agg #[v0, v1], .int .i64 (solverF t).2.2]) ∧ Fresh w.heap.size w' [v0, v1] (solverF t).1 ∧ Below w.heap.size w w' := by
  have HT := Lib.hid ht
  obtain ⟨FF, hFF⟩ : ∃ FF, FF = solverF t := ⟨_, rfl⟩
  rw [← hFF]
  have HFF := Lib.hid hFF
  clear hFF
  obtain ⟨size, rs⟩ := t
  have zt := rd_cons rfl ht
  obtain ⟨rfl, hI⟩ := rd_i1 zt.1
  obtain ⟨at0, ct0, rfl, _⟩ := rd_list zt.2
  clear ht zt
  have hs5 := (St.start w).alloc #[.int .i64 size, .slice at0 rs.length ct0] 26 (n := w.heap.size) (by simp)
  have k0_0 := hs5.cellAt 0 rfl 0 rfl
  have k0_1 := hs5.cellAt 0 rfl 1 rfl
  have hs6 := hs5.alloc #[.int .i64 0, .slice none 0 0] 34 (n := w.heap.size + 1) (by simp)
  clear k0_0 k0_1
  have k0_0 := hs6.cellAt 0 rfl 0 rfl
  have k0_1 := hs6.cellAt 0 rfl 1 rfl
  have k1_0 := hs6.cellAt 1 rfl 0 rfl
  have k1_1 := hs6.cellAt 1 rfl 1 rfl
  go_enter Tryz.func20, Tryz.ntmps20
  go_wp2_with fail
  refine (ValidTemplate_c (size, rs) _ _ _ (Rd.mono HT.out hs6.bel)).mono ?_
  rintro e w7 ⟨rfl, hbw7⟩
  have hz_w7 : w.heap.size + 1 + 1 ≤ w7.heap.size := by have h9 := hbw7.size; (try simp at h9); omega
  have hs8 := hs6.step hbw7
  clear k0_0 k0_1 k1_0 k1_1
  have k0_0 := hs8.cellAt 0 rfl 0 rfl
  have k0_1 := hs8.cellAt 0 rfl 1 rfl
  have k1_0 := hs8.cellAt 1 rfl 0 rfl
  have k1_1 := hs8.cellAt 1 rfl 1 rfl
  cases hok : tmplOk (size, rs) with
  | false =>
    obtain rfl : FF = ((0, []), 0, 1) := HFF.out.trans (by unfold solverF; rw [if_neg (by rw [hok]; decide)])
    clear HFF hok
    have f1_0 := hs8.freeAt 1 rfl 0
    have f1_1 := hs8.freeAt 1 rfl 1
    go_wp2_with fail
    have hs9 := hs8.set (p := [_]) (by simp <;> omega) 0 (.int .i64 0)
    have hs10 := hs9.set (p := [_]) (by simp <;> omega) 1 (.slice none 0 0)
    have x0 := (hs10.cellAt 1 rfl 0 rfl)
    have x1 := (hs10.cellAt 1 rfl 1 rfl)
    exact bodyPost_ret (v := .tuple #[.int .i64 0, .agg #[.int .i64 0, .slice none 0 0], .int .i64 1]) (by simp [results, Tryz.results20, go_sem, x0, x1]) rfl ⟨_, _, rfl, fresh_intO2 ⟨by decide, by decide⟩ fresh_nil_list, hs10.bel⟩
  | true =>
    have HOK := Lib.hid hok
    have hs : 1 ≤ size ∧ size ≤ 4 := (tmplOk_get hok).1
    have HRS := Lib.hid (show ∀ r, r ∈ rs → relOk size r = true from (tmplOk_get hok).2.2)
    have HF2 := Lib.hid (show FF = waysT (size, rs) from HFF.out.trans (by unfold solverF; rw [if_pos hok]))
    clear HFF hok
    have eg : ∀ args w, (callFunc 59 args).run Tryz.prog w = .ok (.enter 59 args) w := enters_of Tryz.func59 (by kernel_rfl) rfl
    go_wp2_with fail
    refine (containsRels_c rs _ 59 #[] _ _ (rd_cons rfl (Rd.mono HT.out hs8.bel)).2 eg (noneRel_by _ rs)).mono ?_
    rintro e w2 ⟨rfl, hb2⟩
    rw [noneRel_any]
    have hz_w2 : w7.heap.size ≤ w2.heap.size := by have h9 := hb2.size; (try simp at h9); omega
    have hs11 := hs8.step hb2
    clear k0_0 k0_1 k1_0 k1_1
    have k0_0 := hs11.cellAt 0 rfl 0 rfl
    have k0_1 := hs11.cellAt 0 rfl 1 rfl
    have k1_0 := hs11.cellAt 1 rfl 0 rfl
    have k1_1 := hs11.cellAt 1 rfl 1 rfl
    cases hfull : rs.all (fun r => decide (0 < r.2.length)) with
    | false =>
      have HW := Lib.hid (show FF = waysF (size, rs) from HF2.out.trans (by unfold waysT; rw [if_neg (by unfold fullT; rw [hfull]; decide)]))
      clear HF2 hfull
      go_wp2_with fail
      go_wp2_with fail
      refine (FirstPolymorphism_c (size, rs) 2 6 (semiB size) _ _ _ (Rd.mono HT.out hs11.bel) (by omega) (by omega) (fun f v0 v1 w h ok => isKindS_c size f v0 v1 w h ok)).mono ?_
      rintro e wF ⟨u0, u1, rfl, frF, hbF⟩
      have hz_wF : w2.heap.size ≤ wF.heap.size := by have h9 := hbF.size; (try simp at h9); omega
      have hs12 := hs11.step hbF
      clear k0_0 k0_1 k1_0 k1_1
      have k0_0 := hs12.cellAt 0 rfl 0 rfl
      have k0_1 := hs12.cellAt 0 rfl 1 rfl
      have k1_0 := hs12.cellAt 1 rfl 0 rfl
      have k1_1 := hs12.cellAt 1 rfl 1 rfl
      have HW2 := Lib.hid (show FF = if (firstF (size, rs) 2 (semiB size)).1 = 0 then ((firstF (size, rs) 2 (semiB size)).2, 2, 0) else waysM (size, rs) from HW.out)
      clear HW
      generalize firstF (size, rs) 2 (semiB size) = F2 at *
      obtain ⟨c2, a2, l2⟩ := F2
      simp only at frF HW2
      have zf := rd_cons rfl frF.rd
      obtain ⟨rfl, _⟩ := rd_i1 zf.1
      obtain ⟨af, cf, rfl, _⟩ := rd_list zf.2
      have HFR := Lib.hid (show Ip (fun z => w.heap.size + 1 + 1 ≤ z) _ [.int .i64 a2, .slice af l2.length cf] ((a2, l2) : OpT) from frF.lower (lo' := w.heap.size + 1 + 1) (by omega))
      clear frF zf
      by_cases hc2 : c2 = 0
      · obtain rfl : c2 = 0 := hc2
        obtain rfl : FF = ((a2, l2), 2, 0) := HW2.out.trans (if_pos rfl)
        clear HW2
        go_upto_region 12 with fail
        have hs13 := hs12.alloc #[.int .i64 a2, .slice af l2.length cf] 34 (n := wF.heap.size) (by simp)
        have HFR_14 := Lib.hid (Ip.mono HFR.out (belowA _ (.cells #[.int .i64 a2, .slice af l2.length cf] 34)))
        clear HFR
        clear k0_0 k0_1 k1_0 k1_1
        have k0_0 := hs13.cellAt 0 rfl 0 rfl
        have k0_1 := hs13.cellAt 0 rfl 1 rfl
        have k1_0 := hs13.cellAt 1 rfl 0 rfl
        have k1_1 := hs13.cellAt 1 rfl 1 rfl
        have k2_0 := hs13.cellAt 2 rfl 0 rfl
        have k2_1 := hs13.cellAt 2 rfl 1 rfl
        clear HT
        go_upto_region 13 with fail
        refine wp_region_noPanic (wp_region_tree4 (fun w' => w'.cell? ⟨w.heap.size, 0, none⟩ = some (.int .i64 size) ∧ w'.cell? ⟨w.heap.size, 1, none⟩ = some (.slice at0 rs.length ct0) ∧ w'.cell? ⟨wF.heap.size, 0, none⟩ = some (.int .i64 a2) ∧ w'.cell? ⟨wF.heap.size, 1, none⟩ = some (.slice af l2.length cf)) (.float 0 (.float 1 (.hard 2 (.float 3 .nil)))) (by kernel_rfl) (by kernel_rfl) (by kernel_rfl) rfl ?_ (fun _ _ _ _ _ h => h) ?_)
        · exact ⟨(hs13.drew).cellAt 0 rfl 0 rfl, (hs13.drew).cellAt 0 rfl 1 rfl, (hs13.drew).cellAt 2 rfl 0 rfl, (hs13.drew).cellAt 2 rfl 1 rfl⟩
        have hs15 := hs13.drew
        have HFR_16 := Lib.hid (Ip.mono HFR_14.out (belowD _))
        clear HFR_14
        clear k0_0 k0_1 k1_0 k1_1 k2_0 k2_1
        have hz_wd17 : wF.heap.size + 1 ≤ ((wF.alloc (.cells #[.int .i64 a2, .slice af l2.length cf] 34)).drew).heap.size := by simp
        generalize hgen_wd17 : (wF.alloc (.cells #[.int .i64 a2, .slice af l2.length cf] 34)).drew = wd17 at *
        have HG_wd17 := Lib.hid hgen_wd17
        clear hgen_wd17
        (repeat (first | (apply t4_skip rfl (by rfl); try simp only [Act.put, List.setIfInBounds_toArray, List.set_cons_zero, List.set_cons_succ]) | (apply t4_float rfl (by rfl); (· (intro w' hS; go_simp <;> with_reducible rfl)); (try simp only [Act.put, List.setIfInBounds_toArray, List.set_cons_zero, List.set_cons_succ]))))
        refine t4_hard rfl (by rfl) (fun K hK => ?_)
        have k0_0 := hs15.cellAt 0 rfl 0 rfl
        have k0_1 := hs15.cellAt 0 rfl 1 rfl
        have k1_0 := hs15.cellAt 1 rfl 0 rfl
        have k1_1 := hs15.cellAt 1 rfl 1 rfl
        have k2_0 := hs15.cellAt 2 rfl 0 rfl
        have k2_1 := hs15.cellAt 2 rfl 1 rfl
        have f1_0 := hs15.freeAt 1 rfl 0
        have f1_1 := hs15.freeAt 1 rfl 1
        go_wp2_with fail
        have hs18 := hs15.set (p := [_]) (by simp <;> omega) 0 (.int .i64 a2)
        have hs19 := hs18.set (p := [_]) (by simp <;> omega) 1 (.slice af l2.length cf)
        have HFR_20 := Lib.hid (Ip.setCell (b := w.heap.size + 1) (o := 1) (Ip.setCell (b := w.heap.size + 1) (o := 0) HFR_16.out (.int .i64 a2) (by intro hA9; (try simp only at hA9); omega)) (.slice af l2.length cf) (by intro hA9; (try simp only at hA9); omega))
        clear HFR_16
        clear k0_0 k0_1 k1_0 k1_1 k2_0 k2_1
        have hz_wP : wd17.heap.size ≤ (((wd17.setCell ⟨w.heap.size + 1, 0, none⟩ (.int .i64 a2)).setCell ⟨w.heap.size + 1, 1, none⟩ (.slice af l2.length cf))).heap.size := by simp [World.setCell]
        generalize hgen_wP : ((wd17.setCell ⟨w.heap.size + 1, 0, none⟩ (.int .i64 a2)).setCell ⟨w.heap.size + 1, 1, none⟩ (.slice af l2.length cf)) = wP at *
        clear hgen_wP
        have k0_0 := hs19.cellAt 0 rfl 0 rfl
        have k0_1 := hs19.cellAt 0 rfl 1 rfl
        have k1_0 := hs19.cellAt 1 rfl 0 rfl
        have k1_1 := hs19.cellAt 1 rfl 1 rfl
        have k2_0 := hs19.cellAt 2 rfl 0 rfl
        have k2_1 := hs19.cellAt 2 rfl 1 rfl
        refine ⟨⟨hs19.cellAt 0 rfl 0 rfl, hs19.cellAt 0 rfl 1 rfl, hs19.cellAt 2 rfl 0 rfl, hs19.cellAt 2 rfl 1 rfl⟩, ?_⟩
        (repeat (first | (apply t4_skip rfl (by rfl); try simp only [Act.put, List.setIfInBounds_toArray, List.set_cons_zero, List.set_cons_succ]) | (apply t4_float rfl (by rfl); (· (intro w' hS; go_simp <;> with_reducible rfl)); (try simp only [Act.put, List.setIfInBounds_toArray, List.set_cons_zero, List.set_cons_succ]))))
        clear k0_0 k0_1 k1_0 k1_1 k2_0 k2_1
        have k0_0 := hs19.cellAt 0 rfl 0 rfl
        have k0_1 := hs19.cellAt 0 rfl 1 rfl
        have k1_0 := hs19.cellAt 1 rfl 0 rfl
        have k1_1 := hs19.cellAt 1 rfl 1 rfl
        have k2_0 := hs19.cellAt 2 rfl 0 rfl
        have k2_1 := hs19.cellAt 2 rfl 1 rfl
        clear k0_0 k0_1 k1_0 k1_1 k2_0 k2_1
        have k0_0 := hs19.cellAt 0 rfl 0 rfl
        have k0_1 := hs19.cellAt 0 rfl 1 rfl
        have k1_0 := hs19.cellAt 1 rfl 0 rfl
        have k1_1 := hs19.cellAt 1 rfl 1 rfl
        have k2_0 := hs19.cellAt 2 rfl 0 rfl
        have k2_1 := hs19.cellAt 2 rfl 1 rfl
        refine t4_nil (NoPanic.normal ?_)
        have x0 := (hs19.cellAt 1 rfl 0 rfl)
        have x1 := (hs19.cellAt 1 rfl 1 rfl)
        go_wp2_with fail
        exact bodyPost_ret (v := .tuple #[.int .i64 2, .agg #[.int .i64 a2, .slice af l2.length cf], .int .i64 0]) (by simp [results, Tryz.results20, go_sem, x0, x1]) rfl ⟨_, _, rfl, HFR_20.out.fresh (fun z hz => by (try simp only at hz); omega), hs19.bel⟩
      · have hcq : (c2 == 0) = false := by simpa using hc2
        have HW3 := Lib.hid (show FF = waysM (size, rs) from HW2.out.trans (if_neg hc2))
        clear HW2 hc2 HFR
        go_upto_region 12 with fail
        have hs21 := hs12.alloc #[.int .i64 a2, .slice af l2.length cf] 34 (n := wF.heap.size) (by simp)
        clear k0_0 k0_1 k1_0 k1_1
        have k0_0 := hs21.cellAt 0 rfl 0 rfl
        have k0_1 := hs21.cellAt 0 rfl 1 rfl
        have k1_0 := hs21.cellAt 1 rfl 0 rfl
        have k1_1 := hs21.cellAt 1 rfl 1 rfl
        have k2_0 := hs21.cellAt 2 rfl 0 rfl
        have k2_1 := hs21.cellAt 2 rfl 1 rfl
        go_wp2_with fail
        refine (FirstPolymorphism_c (size, rs) 3 7 (majB size) _ _ _ (Rd.mono HT.out hs21.bel) (by omega) (by omega) (fun f v0 v1 w h ok => isKindM_c size f v0 v1 w h ok)).mono ?_
        rintro e wG ⟨u0, u1, rfl, frG, hbG⟩
        have hz_wG : wF.heap.size + 1 ≤ wG.heap.size := by have h9 := hbG.size; (try simp at h9); omega
        have hs22 := hs21.step hbG
        clear k0_0 k0_1 k1_0 k1_1 k2_0 k2_1
        have k0_0 := hs22.cellAt 0 rfl 0 rfl
        have k0_1 := hs22.cellAt 0 rfl 1 rfl
        have k1_0 := hs22.cellAt 1 rfl 0 rfl
        have k1_1 := hs22.cellAt 1 rfl 1 rfl
        have k2_0 := hs22.cellAt 2 rfl 0 rfl
        have k2_1 := hs22.cellAt 2 rfl 1 rfl
        have HW4 := Lib.hid (show FF = if (firstF (size, rs) 3 (majB size)).1 = 0 then ((firstF (size, rs) 3 (majB size)).2, 3, 0) else waysE (size, rs) from HW3.out)
        clear HW3
        generalize firstF (size, rs) 3 (majB size) = F3 at *
        obtain ⟨c3, a3, l3⟩ := F3
        simp only at frG HW4
        have zg := rd_cons rfl frG.rd
        obtain ⟨rfl, _⟩ := rd_i1 zg.1
        obtain ⟨ag, cg, rfl, _⟩ := rd_list zg.2
        have HFR := Lib.hid (show Ip (fun z => w.heap.size + 1 + 1 ≤ z) _ [.int .i64 a3, .slice ag l3.length cg] ((a3, l3) : OpT) from frG.lower (lo' := w.heap.size + 1 + 1) (by (try simp); omega))
        clear frG zg
        by_cases hc3 : c3 = 0
        · obtain rfl : c3 = 0 := hc3
          obtain rfl : FF = ((a3, l3), 3, 0) := HW4.out.trans (if_pos rfl)
          clear HW4
          go_upto_region 15 with fail
          have hs23 := hs22.alloc #[.int .i64 a3, .slice ag l3.length cg] 34 (n := wG.heap.size) (by simp)
          have HFR_24 := Lib.hid (Ip.mono HFR.out (belowA _ (.cells #[.int .i64 a3, .slice ag l3.length cg] 34)))
          clear HFR
          clear k0_0 k0_1 k1_0 k1_1 k2_0 k2_1
          have k0_0 := hs23.cellAt 0 rfl 0 rfl
          have k0_1 := hs23.cellAt 0 rfl 1 rfl
          have k1_0 := hs23.cellAt 1 rfl 0 rfl
          have k1_1 := hs23.cellAt 1 rfl 1 rfl
          have k2_0 := hs23.cellAt 2 rfl 0 rfl
          have k2_1 := hs23.cellAt 2 rfl 1 rfl
          have k3_0 := hs23.cellAt 3 rfl 0 rfl
          have k3_1 := hs23.cellAt 3 rfl 1 rfl
          clear HT
          go_upto_region 16 with fail
          refine wp_region_noPanic (wp_region_tree4 (fun w' => w'.cell? ⟨w.heap.size, 0, none⟩ = some (.int .i64 size) ∧ w'.cell? ⟨w.heap.size, 1, none⟩ = some (.slice at0 rs.length ct0) ∧ w'.cell? ⟨wF.heap.size, 0, none⟩ = some (.int .i64 a2) ∧ w'.cell? ⟨wF.heap.size, 1, none⟩ = some (.slice af l2.length cf) ∧ w'.cell? ⟨wG.heap.size, 0, none⟩ = some (.int .i64 a3) ∧ w'.cell? ⟨wG.heap.size, 1, none⟩ = some (.slice ag l3.length cg)) (.float 0 (.float 1 (.hard 2 (.float 3 .nil)))) (by kernel_rfl) (by kernel_rfl) (by kernel_rfl) rfl ?_ (fun _ _ _ _ _ h => h) ?_)
          · exact ⟨(hs23.drew).cellAt 0 rfl 0 rfl, (hs23.drew).cellAt 0 rfl 1 rfl, (hs23.drew).cellAt 2 rfl 0 rfl, (hs23.drew).cellAt 2 rfl 1 rfl, (hs23.drew).cellAt 3 rfl 0 rfl, (hs23.drew).cellAt 3 rfl 1 rfl⟩
          have hs25 := hs23.drew
          have HFR_26 := Lib.hid (Ip.mono HFR_24.out (belowD _))
          clear HFR_24
          clear k0_0 k0_1 k1_0 k1_1 k2_0 k2_1 k3_0 k3_1
          have hz_wd27 : wG.heap.size + 1 ≤ ((wG.alloc (.cells #[.int .i64 a3, .slice ag l3.length cg] 34)).drew).heap.size := by simp
          generalize hgen_wd27 : (wG.alloc (.cells #[.int .i64 a3, .slice ag l3.length cg] 34)).drew = wd27 at *
          have HG_wd27 := Lib.hid hgen_wd27
          clear hgen_wd27
          (repeat (first | (apply t4_skip rfl (by rfl); try simp only [Act.put, List.setIfInBounds_toArray, List.set_cons_zero, List.set_cons_succ]) | (apply t4_float rfl (by rfl); (· (intro w' hS; go_simp <;> with_reducible rfl)); (try simp only [Act.put, List.setIfInBounds_toArray, List.set_cons_zero, List.set_cons_succ]))))
          refine t4_hard rfl (by rfl) (fun K hK => ?_)
          have k0_0 := hs25.cellAt 0 rfl 0 rfl
          have k0_1 := hs25.cellAt 0 rfl 1 rfl
          have k1_0 := hs25.cellAt 1 rfl 0 rfl
          have k1_1 := hs25.cellAt 1 rfl 1 rfl
          have k2_0 := hs25.cellAt 2 rfl 0 rfl
          have k2_1 := hs25.cellAt 2 rfl 1 rfl
          have k3_0 := hs25.cellAt 3 rfl 0 rfl
          have k3_1 := hs25.cellAt 3 rfl 1 rfl
          have f1_0 := hs25.freeAt 1 rfl 0
          have f1_1 := hs25.freeAt 1 rfl 1
          go_wp2_with fail
          have hs28 := hs25.set (p := [_]) (by simp <;> omega) 0 (.int .i64 a3)
          have hs29 := hs28.set (p := [_]) (by simp <;> omega) 1 (.slice ag l3.length cg)
          have HFR_30 := Lib.hid (Ip.setCell (b := w.heap.size + 1) (o := 1) (Ip.setCell (b := w.heap.size + 1) (o := 0) HFR_26.out (.int .i64 a3) (by intro hA9; (try simp only at hA9); omega)) (.slice ag l3.length cg) (by intro hA9; (try simp only at hA9); omega))
          clear HFR_26
          clear k0_0 k0_1 k1_0 k1_1 k2_0 k2_1 k3_0 k3_1
          have hz_wP : wd27.heap.size ≤ (((wd27.setCell ⟨w.heap.size + 1, 0, none⟩ (.int .i64 a3)).setCell ⟨w.heap.size + 1, 1, none⟩ (.slice ag l3.length cg))).heap.size := by simp [World.setCell]
          generalize hgen_wP : ((wd27.setCell ⟨w.heap.size + 1, 0, none⟩ (.int .i64 a3)).setCell ⟨w.heap.size + 1, 1, none⟩ (.slice ag l3.length cg)) = wP at *
          clear hgen_wP
          have k0_0 := hs29.cellAt 0 rfl 0 rfl
          have k0_1 := hs29.cellAt 0 rfl 1 rfl
          have k1_0 := hs29.cellAt 1 rfl 0 rfl
          have k1_1 := hs29.cellAt 1 rfl 1 rfl
          have k2_0 := hs29.cellAt 2 rfl 0 rfl
          have k2_1 := hs29.cellAt 2 rfl 1 rfl
          have k3_0 := hs29.cellAt 3 rfl 0 rfl
          have k3_1 := hs29.cellAt 3 rfl 1 rfl
          refine ⟨⟨hs29.cellAt 0 rfl 0 rfl, hs29.cellAt 0 rfl 1 rfl, hs29.cellAt 2 rfl 0 rfl, hs29.cellAt 2 rfl 1 rfl, hs29.cellAt 3 rfl 0 rfl, hs29.cellAt 3 rfl 1 rfl⟩, ?_⟩
          (repeat (first | (apply t4_skip rfl (by rfl); try simp only [Act.put, List.setIfInBounds_toArray, List.set_cons_zero, List.set_cons_succ]) | (apply t4_float rfl (by rfl); (· (intro w' hS; go_simp <;> with_reducible rfl)); (try simp only [Act.put, List.setIfInBounds_toArray, List.set_cons_zero, List.set_cons_succ]))))
          clear k0_0 k0_1 k1_0 k1_1 k2_0 k2_1 k3_0 k3_1
          have k0_0 := hs29.cellAt 0 rfl 0 rfl
          have k0_1 := hs29.cellAt 0 rfl 1 rfl
          have k1_0 := hs29.cellAt 1 rfl 0 rfl
          have k1_1 := hs29.cellAt 1 rfl 1 rfl
          have k2_0 := hs29.cellAt 2 rfl 0 rfl
          have k2_1 := hs29.cellAt 2 rfl 1 rfl
          have k3_0 := hs29.cellAt 3 rfl 0 rfl
          have k3_1 := hs29.cellAt 3 rfl 1 rfl
          clear k0_0 k0_1 k1_0 k1_1 k2_0 k2_1 k3_0 k3_1
          have k0_0 := hs29.cellAt 0 rfl 0 rfl
          have k0_1 := hs29.cellAt 0 rfl 1 rfl
          have k1_0 := hs29.cellAt 1 rfl 0 rfl
          have k1_1 := hs29.cellAt 1 rfl 1 rfl
          have k2_0 := hs29.cellAt 2 rfl 0 rfl
          have k2_1 := hs29.cellAt 2 rfl 1 rfl
          have k3_0 := hs29.cellAt 3 rfl 0 rfl
          have k3_1 := hs29.cellAt 3 rfl 1 rfl
          refine t4_nil (NoPanic.normal ?_)
          have x0 := (hs29.cellAt 1 rfl 0 rfl)
          have x1 := (hs29.cellAt 1 rfl 1 rfl)
          go_wp2_with fail
          exact bodyPost_ret (v := .tuple #[.int .i64 3, .agg #[.int .i64 a3, .slice ag l3.length cg], .int .i64 0]) (by simp [results, Tryz.results20, go_sem, x0, x1]) rfl ⟨_, _, rfl, HFR_30.out.fresh (fun z hz => by (try simp only at hz); omega), hs29.bel⟩
        · have hcq3 : (c3 == 0) = false := by simpa using hc3
          have HW5 := Lib.hid (show FF = waysE (size, rs) from HW4.out.trans (if_neg hc3))
          clear HW4 hc3 HFR
          go_upto_region 15 with fail
          have hs31 := hs22.alloc #[.int .i64 a3, .slice ag l3.length cg] 34 (n := wG.heap.size) (by simp)
          clear k0_0 k0_1 k1_0 k1_1 k2_0 k2_1
          have k0_0 := hs31.cellAt 0 rfl 0 rfl
          have k0_1 := hs31.cellAt 0 rfl 1 rfl
          have k1_0 := hs31.cellAt 1 rfl 0 rfl
          have k1_1 := hs31.cellAt 1 rfl 1 rfl
          have k2_0 := hs31.cellAt 2 rfl 0 rfl
          have k2_1 := hs31.cellAt 2 rfl 1 rfl
          have k3_0 := hs31.cellAt 3 rfl 0 rfl
          have k3_1 := hs31.cellAt 3 rfl 1 rfl
          go_wp2_with fail
          refine (isPrime_c size _).mono ?_
          rintro e w32 ⟨rfl, rfl⟩
          cases hpr : isPr size with
          | false =>
            obtain rfl : FF = ((0, []), 0, 6) := HW5.out.trans (by unfold waysE; rw [if_neg (by simp only; rw [hpr]; simp)])
            clear HW5 hpr
            have f1_0 := hs31.freeAt 1 rfl 0
            have f1_1 := hs31.freeAt 1 rfl 1
            go_wp2_with fail
            have hs33 := hs31.set (p := [_]) (by simp <;> omega) 0 (.int .i64 0)
            have hs34 := hs33.set (p := [_]) (by simp <;> omega) 1 (.slice none 0 0)
            have x0 := (hs34.cellAt 1 rfl 0 rfl)
            have x1 := (hs34.cellAt 1 rfl 1 rfl)
            exact bodyPost_ret (v := .tuple #[.int .i64 0, .agg #[.int .i64 0, .slice none 0 0], .int .i64 6]) (by simp [results, Tryz.results20, go_sem, x0, x1]) rfl ⟨_, _, rfl, fresh_intO2 ⟨by decide, by decide⟩ fresh_nil_list, hs34.bel⟩
          | true =>
            have HPR := Lib.hid hpr
            clear hpr
            have eg2 : ∀ args w, (callFunc 64 args).run Tryz.prog w = .ok (.enter 64 args) w := enters_of Tryz.func64 (by kernel_rfl) rfl
            go_wp2_with fail
            refine (containsRels_c rs _ 64 _ (fun r => !affIs size r) _ (rd_cons rfl (Rd.mono HT.out hs31.bel)).2 eg2 (notAff_by size rs (w.heap.size) _ (hs31.cellAt 0 rfl 0 rfl) HPR.out HRS.out)).mono ?_
            rintro e w5 ⟨rfl, hb5⟩
            rw [any_not_all]
            have hz_w5 : wG.heap.size + 1 ≤ w5.heap.size := by have h9 := hb5.size; (try simp at h9); omega
            have hs35 := hs31.step hb5
            clear k0_0 k0_1 k1_0 k1_1 k2_0 k2_1 k3_0 k3_1
            have k0_0 := hs35.cellAt 0 rfl 0 rfl
            have k0_1 := hs35.cellAt 0 rfl 1 rfl
            have k1_0 := hs35.cellAt 1 rfl 0 rfl
            have k1_1 := hs35.cellAt 1 rfl 1 rfl
            have k2_0 := hs35.cellAt 2 rfl 0 rfl
            have k2_1 := hs35.cellAt 2 rfl 1 rfl
            have k3_0 := hs35.cellAt 3 rfl 0 rfl
            have k3_1 := hs35.cellAt 3 rfl 1 rfl
            cases hall : rs.all (affIs size) with
            | false =>
              obtain rfl : FF = ((0, []), 0, 6) := HW5.out.trans (by unfold waysE; rw [if_neg (by simp only; rw [hall]; simp)])
              clear HW5 hall
              have f1_0 := hs35.freeAt 1 rfl 0
              have f1_1 := hs35.freeAt 1 rfl 1
              go_wp2_with fail
              have hs36 := hs35.set (p := [_]) (by simp <;> omega) 0 (.int .i64 0)
              have hs37 := hs36.set (p := [_]) (by simp <;> omega) 1 (.slice none 0 0)
              have x0 := (hs37.cellAt 1 rfl 0 rfl)
              have x1 := (hs37.cellAt 1 rfl 1 rfl)
              exact bodyPost_ret (v := .tuple #[.int .i64 0, .agg #[.int .i64 0, .slice none 0 0], .int .i64 6]) (by simp [results, Tryz.results20, go_sem, x0, x1]) rfl ⟨_, _, rfl, fresh_intO2 ⟨by decide, by decide⟩ fresh_nil_list, hs37.bel⟩
            | true =>
              obtain rfl : FF = (affOp size, 4, 0) := HW5.out.trans (by unfold waysE; rw [if_pos ⟨HPR.out, hall⟩])
              clear HW5 hall
              have hp23 := isPr_true HPR.out
              go_wp2_with fail
              refine (affineOp_c size _ (by omega) (by omega)).mono ?_
              rintro e w38 ⟨v9, rfl, fr9, hbw38⟩
              have hz_w38 : w5.heap.size ≤ w38.heap.size := by have h9 := hbw38.size; (try simp at h9); omega
              have hs39 := hs35.step hbw38
              clear k0_0 k0_1 k1_0 k1_1 k2_0 k2_1 k3_0 k3_1
              have k0_0 := hs39.cellAt 0 rfl 0 rfl
              have k0_1 := hs39.cellAt 0 rfl 1 rfl
              have k1_0 := hs39.cellAt 1 rfl 0 rfl
              have k1_1 := hs39.cellAt 1 rfl 1 rfl
              have k2_0 := hs39.cellAt 2 rfl 0 rfl
              have k2_1 := hs39.cellAt 2 rfl 1 rfl
              have k3_0 := hs39.cellAt 3 rfl 0 rfl
              have k3_1 := hs39.cellAt 3 rfl 1 rfl
              obtain ⟨a9, c9, rfl, _⟩ := rd_list fr9.rd
              have HFR := Lib.hid (show Fresh (w.heap.size + 1 + 1) _ [.int .i64 3, .slice a9 (tableTo (affF size) size 3 (size ^ 3).toNat).length c9] (affOp size) from fresh_intO2 ⟨by decide, by decide⟩ (fr9.lower (by omega)))
              clear fr9
              generalize hTT : tableTo (affF size) size 3 (size ^ 3).toNat = TT at *
              clear hTT
              have f1_0 := hs39.freeAt 1 rfl 0
              have f1_1 := hs39.freeAt 1 rfl 1
              go_wp2_with fail
              have HFX := Lib.hid (((HFR.out.setCell (a := ⟨w.heap.size + 1, 0, none⟩) (by (try simp only); omega) (.int .i64 3)).setCell (a := ⟨w.heap.size + 1, 1, none⟩) (by (try simp only); omega) (.slice a9 TT.length c9)).lower (lo' := w.heap.size) (by omega))
              have hs40 := hs39.set (p := [_]) (by simp <;> omega) 0 (.int .i64 3)
              have hs41 := hs40.set (p := [_]) (by simp <;> omega) 1 (.slice a9 TT.length c9)
              have x0 := (hs41.cellAt 1 rfl 0 rfl)
              have x1 := (hs41.cellAt 1 rfl 1 rfl)
              exact bodyPost_ret (v := .tuple #[.int .i64 4, .agg #[.int .i64 3, .slice a9 TT.length c9], .int .i64 0]) (by simp [results, Tryz.results20, go_sem, x0, x1]) rfl ⟨_, _, rfl, HFX.out, hs41.bel⟩
    | true =>
      obtain ⟨SZ, rfl⟩ : ∃ SZ : Nat, size = (SZ : Int) := ⟨size.toNat, by omega⟩
      have HF3 := Lib.hid (show FF = match constW ((SZ : Int), rs) with | some a => (constOp (SZ : Int) (a : Int), 1, 0) | none => waysF ((SZ : Int), rs) from HF2.out.trans (by unfold waysT; rw [if_pos (by unfold fullT; exact hfull)]))
      clear HF2 hfull
      go_wp2_with fail
      have HST := Lib.hid hs11
      have HTQ := Lib.hid (Rd.mono HT.out hs11.bel)
      have hzq := hs11.hi
      go_loopw [21] (fun i wl => ∃ k : Nat, k ≤ SZ ∧ i = .int .i64 k ∧ Hid (Below w2.heap.size w2 wl) ∧ Hid (∀ j : Nat, j < k → 0 ≤ brokenF ((SZ : Int), rs) (constOp (SZ : Int) (j : Int)))) (fun i _ => SZ - (intOf i).toNat)
      case atStart => exact ⟨0, Nat.zero_le _, rfl, Below.refl _ _, fun j hj => absurd hj (Nat.not_lt_zero _)⟩
      case round =>
        obtain ⟨k, hk, rfl, hbl, hno⟩ := hrel
        have hsr := HST.out.step hbl.out
        have hszr := hsr.hi
        have HT := Lib.hid (Rd.mono HTQ.out hbl.out)
        have HBQ := hbl
        clear hbl
        have k0_0 := hsr.cellAt 0 rfl 0 rfl
        have k0_1 := hsr.cellAt 0 rfl 1 rfl
        have k1_0 := hsr.cellAt 1 rfl 0 rfl
        have k1_1 := hsr.cellAt 1 rfl 1 rfl
        by_cases hlt : k < SZ
        · have hltI : (k : Int) < SZ := by omega
          have HCO := Lib.hid (const_ok hs (a := (k : Int)) (by omega))
          go_wp2_with fail
          refine (constant_c (SZ : Int) (k : Int) _ hs ⟨by omega, by omega⟩).mono ?_
          rintro e wF ⟨u9, rfl, frF, hbF⟩
          have hz_wF : wr.heap.size ≤ wF.heap.size := by have h9 := hbF.size; (try simp at h9); omega
          have hs42 := hsr.step hbF
          have HT_43 := Lib.hid (Rd.mono HT.out hbF)
          clear HT
          have HBQ_44 := Lib.hid (HBQ.out.trans ((hbF).mono HBQ.out.size))
          clear HBQ
          clear k0_0 k0_1 k1_0 k1_1
          have k0_0 := hs42.cellAt 0 rfl 0 rfl
          have k0_1 := hs42.cellAt 0 rfl 1 rfl
          have k1_0 := hs42.cellAt 1 rfl 0 rfl
          have k1_1 := hs42.cellAt 1 rfl 1 rfl
          obtain ⟨af, cf, rfl, _⟩ := rd_list frF.rd
          have HCV := Lib.hid (show constOp (SZ : Int) (k : Int) = (1, (constOp (SZ : Int) (k : Int)).2) from rfl)
          obtain ⟨l2, hl2⟩ : ∃ l2, l2 = (constOp (SZ : Int) (k : Int)).2 := ⟨_, rfl⟩
          rw [← hl2] at frF HCV ⊢
          clear hl2
          have HFR := Lib.hid (show Ip (fun z => w.heap.size + 1 + 1 ≤ z) _ [.int .i64 1, .slice af l2.length cf] (((1 : Int), l2) : OpT) from fresh_intO2 ⟨by decide, by decide⟩ (frF.lower (lo' := w.heap.size + 1 + 1) (by omega)))
          clear frF
          go_upto_region 8 with fail
          have hs45 := hs42.alloc #[.int .i64 1, .slice af l2.length cf] 34 (n := wF.heap.size) (by simp)
          have HT_46 := Lib.hid (Rd.mono HT_43.out (belowA _ (.cells #[.int .i64 1, .slice af l2.length cf] 34)))
          clear HT_43
          have HBQ_47 := Lib.hid (HBQ_44.out.trans (((belowA _ (.cells #[.int .i64 1, .slice af l2.length cf] 34))).mono HBQ_44.out.size))
          clear HBQ_44
          have HFR_48 := Lib.hid (Ip.mono HFR.out (belowA _ (.cells #[.int .i64 1, .slice af l2.length cf] 34)))
          clear HFR
          clear k0_0 k0_1 k1_0 k1_1
          have k0_0 := hs45.cellAt 0 rfl 0 rfl
          have k0_1 := hs45.cellAt 0 rfl 1 rfl
          have k1_0 := hs45.cellAt 1 rfl 0 rfl
          have k1_1 := hs45.cellAt 1 rfl 1 rfl
          have k2_0 := hs45.cellAt 2 rfl 0 rfl
          have k2_1 := hs45.cellAt 2 rfl 1 rfl
          go_wp2_with fail
          refine (isKept_c ((SZ : Int), rs) ((1 : Int), l2) _ _ _ _ _ HT_46.out (HFR_48.out).rd (by rw [← HCV.out]; exact HCO.out) HRS.out).mono ?_
          rintro e w5 ⟨rfl, hb5⟩
          have hz_w5 : wF.heap.size + 1 ≤ w5.heap.size := by have h9 := hb5.size; (try simp at h9); omega
          have hs49 := hs45.step hb5
          have HT_50 := Lib.hid (Rd.mono HT_46.out hb5)
          clear HT_46
          have HBQ_51 := Lib.hid (HBQ_47.out.trans ((hb5).mono HBQ_47.out.size))
          clear HBQ_47
          have HFR_52 := Lib.hid (Ip.mono HFR_48.out hb5)
          clear HFR_48
          clear k0_0 k0_1 k1_0 k1_1 k2_0 k2_1
          have k0_0 := hs49.cellAt 0 rfl 0 rfl
          have k0_1 := hs49.cellAt 0 rfl 1 rfl
          have k1_0 := hs49.cellAt 1 rfl 0 rfl
          have k1_1 := hs49.cellAt 1 rfl 1 rfl
          have k2_0 := hs49.cellAt 2 rfl 0 rfl
          have k2_1 := hs49.cellAt 2 rfl 1 rfl
          by_cases hbr : brokenF ((SZ : Int), rs) ((1 : Int), l2) < 0
          · obtain rfl : FF = (((1 : Int), l2), 1, 0) := by
              rw [HF3.out, constW_some (t := ((SZ : Int), rs)) (k := k) hltI hno.out (by rw [HCV.out]; exact hbr)]
              simp only
              rw [HCV.out]
            rw [decide_eq_true hbr]
            clear HF3 hno hbr
            clear HBQ_51
            clear HT_50
            go_upto_region 9 with fail
            refine wp_region_noPanic (wp_region_tree4 (fun w' => w'.cell? ⟨w.heap.size, 0, none⟩ = some (.int .i64 SZ) ∧ w'.cell? ⟨w.heap.size, 1, none⟩ = some (.slice at0 rs.length ct0) ∧ w'.cell? ⟨wF.heap.size, 0, none⟩ = some (.int .i64 1) ∧ w'.cell? ⟨wF.heap.size, 1, none⟩ = some (.slice af l2.length cf)) (.float 0 (.float 1 (.hard 2 (.float 3 .nil)))) (by kernel_rfl) (by kernel_rfl) (by kernel_rfl) rfl ?_ (fun _ _ _ _ _ h => h) ?_)
            · exact ⟨(hs49.drew).cellAt 0 rfl 0 rfl, (hs49.drew).cellAt 0 rfl 1 rfl, (hs49.drew).cellAt 2 rfl 0 rfl, (hs49.drew).cellAt 2 rfl 1 rfl⟩
            have hs53 := hs49.drew
            have HFR_54 := Lib.hid (Ip.mono HFR_52.out (belowD _))
            clear HFR_52
            clear k0_0 k0_1 k1_0 k1_1 k2_0 k2_1
            have hz_wd55 : w5.heap.size ≤ (w5.drew).heap.size := by simp
            generalize hgen_wd55 : w5.drew = wd55 at *
            have HG_wd55 := Lib.hid hgen_wd55
            clear hgen_wd55
            (repeat (first | (apply t4_skip rfl (by rfl); try simp only [Act.put, List.setIfInBounds_toArray, List.set_cons_zero, List.set_cons_succ]) | (apply t4_float rfl (by rfl); (· (intro w' hS; go_simp <;> with_reducible rfl)); (try simp only [Act.put, List.setIfInBounds_toArray, List.set_cons_zero, List.set_cons_succ]))))
            refine t4_hard rfl (by rfl) (fun K hK => ?_)
            have k0_0 := hs53.cellAt 0 rfl 0 rfl
            have k0_1 := hs53.cellAt 0 rfl 1 rfl
            have k1_0 := hs53.cellAt 1 rfl 0 rfl
            have k1_1 := hs53.cellAt 1 rfl 1 rfl
            have k2_0 := hs53.cellAt 2 rfl 0 rfl
            have k2_1 := hs53.cellAt 2 rfl 1 rfl
            have f1_0 := hs53.freeAt 1 rfl 0
            have f1_1 := hs53.freeAt 1 rfl 1
            go_wp2_with fail
            have hs56 := hs53.set (p := [_]) (by simp <;> omega) 0 (.int .i64 1)
            have hs57 := hs56.set (p := [_]) (by simp <;> omega) 1 (.slice af l2.length cf)
            have HFR_58 := Lib.hid (Ip.setCell (b := w.heap.size + 1) (o := 1) (Ip.setCell (b := w.heap.size + 1) (o := 0) HFR_54.out (.int .i64 1) (by intro hA9; (try simp only at hA9); omega)) (.slice af l2.length cf) (by intro hA9; (try simp only at hA9); omega))
            clear HFR_54
            clear k0_0 k0_1 k1_0 k1_1 k2_0 k2_1
            have hz_wP : wd55.heap.size ≤ (((wd55.setCell ⟨w.heap.size + 1, 0, none⟩ (.int .i64 1)).setCell ⟨w.heap.size + 1, 1, none⟩ (.slice af l2.length cf))).heap.size := by simp [World.setCell]
            generalize hgen_wP : ((wd55.setCell ⟨w.heap.size + 1, 0, none⟩ (.int .i64 1)).setCell ⟨w.heap.size + 1, 1, none⟩ (.slice af l2.length cf)) = wP at *
            clear hgen_wP
            have k0_0 := hs57.cellAt 0 rfl 0 rfl
            have k0_1 := hs57.cellAt 0 rfl 1 rfl
            have k1_0 := hs57.cellAt 1 rfl 0 rfl
            have k1_1 := hs57.cellAt 1 rfl 1 rfl
            have k2_0 := hs57.cellAt 2 rfl 0 rfl
            have k2_1 := hs57.cellAt 2 rfl 1 rfl
            refine ⟨⟨hs57.cellAt 0 rfl 0 rfl, hs57.cellAt 0 rfl 1 rfl, hs57.cellAt 2 rfl 0 rfl, hs57.cellAt 2 rfl 1 rfl⟩, ?_⟩
            (repeat (first | (apply t4_skip rfl (by rfl); try simp only [Act.put, List.setIfInBounds_toArray, List.set_cons_zero, List.set_cons_succ]) | (apply t4_float rfl (by rfl); (· (intro w' hS; go_simp <;> with_reducible rfl)); (try simp only [Act.put, List.setIfInBounds_toArray, List.set_cons_zero, List.set_cons_succ]))))
            clear k0_0 k0_1 k1_0 k1_1 k2_0 k2_1
            have k0_0 := hs57.cellAt 0 rfl 0 rfl
            have k0_1 := hs57.cellAt 0 rfl 1 rfl
            have k1_0 := hs57.cellAt 1 rfl 0 rfl
            have k1_1 := hs57.cellAt 1 rfl 1 rfl
            have k2_0 := hs57.cellAt 2 rfl 0 rfl
            have k2_1 := hs57.cellAt 2 rfl 1 rfl
            clear k0_0 k0_1 k1_0 k1_1 k2_0 k2_1
            have k0_0 := hs57.cellAt 0 rfl 0 rfl
            have k0_1 := hs57.cellAt 0 rfl 1 rfl
            have k1_0 := hs57.cellAt 1 rfl 0 rfl
            have k1_1 := hs57.cellAt 1 rfl 1 rfl
            have k2_0 := hs57.cellAt 2 rfl 0 rfl
            have k2_1 := hs57.cellAt 2 rfl 1 rfl
            refine t4_nil (NoPanic.normal ?_)
            have x0 := (hs57.cellAt 1 rfl 0 rfl)
            have x1 := (hs57.cellAt 1 rfl 1 rfl)
            go_wp2_with fail
            exact bodyPost_ret (v := .tuple #[.int .i64 1, .agg #[.int .i64 1, .slice af l2.length cf], .int .i64 0]) (by simp [results, Tryz.results20, go_sem, x0, x1]) rfl ⟨_, _, rfl, HFR_58.out.fresh (fun z hz => by (try simp only at hz); omega), hs57.bel⟩
          · have HN2 := Lib.hid (show ∀ j : Nat, j < k + 1 → 0 ≤ brokenF ((SZ : Int), rs) (constOp (SZ : Int) (j : Int)) from fun j hj => by
              rcases Nat.lt_or_ge j k with h | h
              · exact hno.out j h
              · obtain rfl : j = k := by omega
                rw [HCV.out]
                exact Int.not_lt.1 hbr)
            rw [decide_eq_false hbr]
            clear hbr
            have HBR := Lib.hid HBQ_51.out
            go_wp2_with fail
            go_roundw
            case rel => exact ⟨k + 1, hlt, by go_num, HBR.out, HN2.out⟩
            case measure => simp [intOf]; omega
        · obtain rfl : k = SZ := by omega
          have hnl : ¬ ((k : Int) < k) := by omega
          have HW := Lib.hid (show FF = waysF ((k : Int), rs) from HF3.out.trans (by rw [constW_none (t := ((k : Int), rs)) (fun j hj => hno.out j (by simp only at hj; omega))]))
          clear HF3 hno hlt HTQ HST
          clear HBQ
          go_wp2_with fail
          refine (FirstPolymorphism_c ((k : Int), rs) 2 6 (semiB (k : Int)) _ _ _ HT.out (by omega) (by omega) (fun f v0 v1 w h ok => isKindS_c (k : Int) f v0 v1 w h ok)).mono ?_
          rintro e wF ⟨u0, u1, rfl, frF, hbF⟩
          have hz_wF : wr.heap.size ≤ wF.heap.size := by have h9 := hbF.size; (try simp at h9); omega
          have hs59 := hsr.step hbF
          have HT_60 := Lib.hid (Rd.mono HT.out hbF)
          clear HT
          clear k0_0 k0_1 k1_0 k1_1
          have k0_0 := hs59.cellAt 0 rfl 0 rfl
          have k0_1 := hs59.cellAt 0 rfl 1 rfl
          have k1_0 := hs59.cellAt 1 rfl 0 rfl
          have k1_1 := hs59.cellAt 1 rfl 1 rfl
          have HW2 := Lib.hid (show FF = if (firstF ((k : Int), rs) 2 (semiB (k : Int))).1 = 0 then ((firstF ((k : Int), rs) 2 (semiB (k : Int))).2, 2, 0) else waysM ((k : Int), rs) from HW.out)
          clear HW
          generalize firstF ((k : Int), rs) 2 (semiB (k : Int)) = F2 at *
          obtain ⟨c2, a2, l2⟩ := F2
          simp only at frF HW2
          have zf := rd_cons rfl frF.rd
          obtain ⟨rfl, _⟩ := rd_i1 zf.1
          obtain ⟨af, cf, rfl, _⟩ := rd_list zf.2
          have HFR := Lib.hid (show Ip (fun z => w.heap.size + 1 + 1 ≤ z) _ [.int .i64 a2, .slice af l2.length cf] ((a2, l2) : OpT) from frF.lower (lo' := w.heap.size + 1 + 1) (by omega))
          clear frF zf
          by_cases hc2 : c2 = 0
          · obtain rfl : c2 = 0 := hc2
            obtain rfl : FF = ((a2, l2), 2, 0) := HW2.out.trans (if_pos rfl)
            clear HW2
            go_upto_region 12 with fail
            have hs61 := hs59.alloc #[.int .i64 a2, .slice af l2.length cf] 34 (n := wF.heap.size) (by simp)
            have HT_62 := Lib.hid (Rd.mono HT_60.out (belowA _ (.cells #[.int .i64 a2, .slice af l2.length cf] 34)))
            clear HT_60
            have HFR_63 := Lib.hid (Ip.mono HFR.out (belowA _ (.cells #[.int .i64 a2, .slice af l2.length cf] 34)))
            clear HFR
            clear k0_0 k0_1 k1_0 k1_1
            have k0_0 := hs61.cellAt 0 rfl 0 rfl
            have k0_1 := hs61.cellAt 0 rfl 1 rfl
            have k1_0 := hs61.cellAt 1 rfl 0 rfl
            have k1_1 := hs61.cellAt 1 rfl 1 rfl
            have k2_0 := hs61.cellAt 2 rfl 0 rfl
            have k2_1 := hs61.cellAt 2 rfl 1 rfl
            clear HT_62
            go_upto_region 13 with fail
            refine wp_region_noPanic (wp_region_tree4 (fun w' => w'.cell? ⟨w.heap.size, 0, none⟩ = some (.int .i64 k) ∧ w'.cell? ⟨w.heap.size, 1, none⟩ = some (.slice at0 rs.length ct0) ∧ w'.cell? ⟨wF.heap.size, 0, none⟩ = some (.int .i64 a2) ∧ w'.cell? ⟨wF.heap.size, 1, none⟩ = some (.slice af l2.length cf)) (.float 0 (.float 1 (.hard 2 (.float 3 .nil)))) (by kernel_rfl) (by kernel_rfl) (by kernel_rfl) rfl ?_ (fun _ _ _ _ _ h => h) ?_)
            · exact ⟨(hs61.drew).cellAt 0 rfl 0 rfl, (hs61.drew).cellAt 0 rfl 1 rfl, (hs61.drew).cellAt 2 rfl 0 rfl, (hs61.drew).cellAt 2 rfl 1 rfl⟩
            have hs64 := hs61.drew
            have HFR_65 := Lib.hid (Ip.mono HFR_63.out (belowD _))
            clear HFR_63
            clear k0_0 k0_1 k1_0 k1_1 k2_0 k2_1
            have hz_wd66 : wF.heap.size + 1 ≤ ((wF.alloc (.cells #[.int .i64 a2, .slice af l2.length cf] 34)).drew).heap.size := by simp
            generalize hgen_wd66 : (wF.alloc (.cells #[.int .i64 a2, .slice af l2.length cf] 34)).drew = wd66 at *
            have HG_wd66 := Lib.hid hgen_wd66
            clear hgen_wd66
            (repeat (first | (apply t4_skip rfl (by rfl); try simp only [Act.put, List.setIfInBounds_toArray, List.set_cons_zero, List.set_cons_succ]) | (apply t4_float rfl (by rfl); (· (intro w' hS; go_simp <;> with_reducible rfl)); (try simp only [Act.put, List.setIfInBounds_toArray, List.set_cons_zero, List.set_cons_succ]))))
            refine t4_hard rfl (by rfl) (fun K hK => ?_)
            have k0_0 := hs64.cellAt 0 rfl 0 rfl
            have k0_1 := hs64.cellAt 0 rfl 1 rfl
            have k1_0 := hs64.cellAt 1 rfl 0 rfl
            have k1_1 := hs64.cellAt 1 rfl 1 rfl
            have k2_0 := hs64.cellAt 2 rfl 0 rfl
            have k2_1 := hs64.cellAt 2 rfl 1 rfl
            have f1_0 := hs64.freeAt 1 rfl 0
            have f1_1 := hs64.freeAt 1 rfl 1
            go_wp2_with fail
            have hs67 := hs64.set (p := [_]) (by simp <;> omega) 0 (.int .i64 a2)
            have hs68 := hs67.set (p := [_]) (by simp <;> omega) 1 (.slice af l2.length cf)
            have HFR_69 := Lib.hid (Ip.setCell (b := w.heap.size + 1) (o := 1) (Ip.setCell (b := w.heap.size + 1) (o := 0) HFR_65.out (.int .i64 a2) (by intro hA9; (try simp only at hA9); omega)) (.slice af l2.length cf) (by intro hA9; (try simp only at hA9); omega))
            clear HFR_65
            clear k0_0 k0_1 k1_0 k1_1 k2_0 k2_1
            have hz_wP : wd66.heap.size ≤ (((wd66.setCell ⟨w.heap.size + 1, 0, none⟩ (.int .i64 a2)).setCell ⟨w.heap.size + 1, 1, none⟩ (.slice af l2.length cf))).heap.size := by simp [World.setCell]
            generalize hgen_wP : ((wd66.setCell ⟨w.heap.size + 1, 0, none⟩ (.int .i64 a2)).setCell ⟨w.heap.size + 1, 1, none⟩ (.slice af l2.length cf)) = wP at *
            clear hgen_wP
            have k0_0 := hs68.cellAt 0 rfl 0 rfl
            have k0_1 := hs68.cellAt 0 rfl 1 rfl
            have k1_0 := hs68.cellAt 1 rfl 0 rfl
            have k1_1 := hs68.cellAt 1 rfl 1 rfl
            have k2_0 := hs68.cellAt 2 rfl 0 rfl
            have k2_1 := hs68.cellAt 2 rfl 1 rfl
            refine ⟨⟨hs68.cellAt 0 rfl 0 rfl, hs68.cellAt 0 rfl 1 rfl, hs68.cellAt 2 rfl 0 rfl, hs68.cellAt 2 rfl 1 rfl⟩, ?_⟩
            (repeat (first | (apply t4_skip rfl (by rfl); try simp only [Act.put, List.setIfInBounds_toArray, List.set_cons_zero, List.set_cons_succ]) | (apply t4_float rfl (by rfl); (· (intro w' hS; go_simp <;> with_reducible rfl)); (try simp only [Act.put, List.setIfInBounds_toArray, List.set_cons_zero, List.set_cons_succ]))))
            clear k0_0 k0_1 k1_0 k1_1 k2_0 k2_1
            have k0_0 := hs68.cellAt 0 rfl 0 rfl
            have k0_1 := hs68.cellAt 0 rfl 1 rfl
            have k1_0 := hs68.cellAt 1 rfl 0 rfl
            have k1_1 := hs68.cellAt 1 rfl 1 rfl
            have k2_0 := hs68.cellAt 2 rfl 0 rfl
            have k2_1 := hs68.cellAt 2 rfl 1 rfl
            clear k0_0 k0_1 k1_0 k1_1 k2_0 k2_1
            have k0_0 := hs68.cellAt 0 rfl 0 rfl
            have k0_1 := hs68.cellAt 0 rfl 1 rfl
            have k1_0 := hs68.cellAt 1 rfl 0 rfl
            have k1_1 := hs68.cellAt 1 rfl 1 rfl
            have k2_0 := hs68.cellAt 2 rfl 0 rfl
            have k2_1 := hs68.cellAt 2 rfl 1 rfl
            refine t4_nil (NoPanic.normal ?_)
            have x0 := (hs68.cellAt 1 rfl 0 rfl)
            have x1 := (hs68.cellAt 1 rfl 1 rfl)
            go_wp2_with fail
            exact bodyPost_ret (v := .tuple #[.int .i64 2, .agg #[.int .i64 a2, .slice af l2.length cf], .int .i64 0]) (by simp [results, Tryz.results20, go_sem, x0, x1]) rfl ⟨_, _, rfl, HFR_69.out.fresh (fun z hz => by (try simp only at hz); omega), hs68.bel⟩
          · have hcq : (c2 == 0) = false := by simpa using hc2
            have HW3 := Lib.hid (show FF = waysM ((k : Int), rs) from HW2.out.trans (if_neg hc2))
            clear HW2 hc2 HFR
            go_upto_region 12 with fail
            have hs70 := hs59.alloc #[.int .i64 a2, .slice af l2.length cf] 34 (n := wF.heap.size) (by simp)
            have HT_71 := Lib.hid (Rd.mono HT_60.out (belowA _ (.cells #[.int .i64 a2, .slice af l2.length cf] 34)))
            clear HT_60
            clear k0_0 k0_1 k1_0 k1_1
            have k0_0 := hs70.cellAt 0 rfl 0 rfl
            have k0_1 := hs70.cellAt 0 rfl 1 rfl
            have k1_0 := hs70.cellAt 1 rfl 0 rfl
            have k1_1 := hs70.cellAt 1 rfl 1 rfl
            have k2_0 := hs70.cellAt 2 rfl 0 rfl
            have k2_1 := hs70.cellAt 2 rfl 1 rfl
            go_wp2_with fail
            refine (FirstPolymorphism_c ((k : Int), rs) 3 7 (majB (k : Int)) _ _ _ HT_71.out (by omega) (by omega) (fun f v0 v1 w h ok => isKindM_c (k : Int) f v0 v1 w h ok)).mono ?_
            rintro e wG ⟨u0, u1, rfl, frG, hbG⟩
            have hz_wG : wF.heap.size + 1 ≤ wG.heap.size := by have h9 := hbG.size; (try simp at h9); omega
            have hs72 := hs70.step hbG
            have HT_73 := Lib.hid (Rd.mono HT_71.out hbG)
            clear HT_71
            clear k0_0 k0_1 k1_0 k1_1 k2_0 k2_1
            have k0_0 := hs72.cellAt 0 rfl 0 rfl
            have k0_1 := hs72.cellAt 0 rfl 1 rfl
            have k1_0 := hs72.cellAt 1 rfl 0 rfl
            have k1_1 := hs72.cellAt 1 rfl 1 rfl
            have k2_0 := hs72.cellAt 2 rfl 0 rfl
            have k2_1 := hs72.cellAt 2 rfl 1 rfl
            have HW4 := Lib.hid (show FF = if (firstF ((k : Int), rs) 3 (majB (k : Int))).1 = 0 then ((firstF ((k : Int), rs) 3 (majB (k : Int))).2, 3, 0) else waysE ((k : Int), rs) from HW3.out)
            clear HW3
            generalize firstF ((k : Int), rs) 3 (majB (k : Int)) = F3 at *
            obtain ⟨c3, a3, l3⟩ := F3
            simp only at frG HW4
            have zg := rd_cons rfl frG.rd
            obtain ⟨rfl, _⟩ := rd_i1 zg.1
            obtain ⟨ag, cg, rfl, _⟩ := rd_list zg.2
            have HFR := Lib.hid (show Ip (fun z => w.heap.size + 1 + 1 ≤ z) _ [.int .i64 a3, .slice ag l3.length cg] ((a3, l3) : OpT) from frG.lower (lo' := w.heap.size + 1 + 1) (by (try simp); omega))
            clear frG zg
            by_cases hc3 : c3 = 0
            · obtain rfl : c3 = 0 := hc3
              obtain rfl : FF = ((a3, l3), 3, 0) := HW4.out.trans (if_pos rfl)
              clear HW4
              go_upto_region 15 with fail
              have hs74 := hs72.alloc #[.int .i64 a3, .slice ag l3.length cg] 34 (n := wG.heap.size) (by simp)
              have HT_75 := Lib.hid (Rd.mono HT_73.out (belowA _ (.cells #[.int .i64 a3, .slice ag l3.length cg] 34)))
              clear HT_73
              have HFR_76 := Lib.hid (Ip.mono HFR.out (belowA _ (.cells #[.int .i64 a3, .slice ag l3.length cg] 34)))
              clear HFR
              clear k0_0 k0_1 k1_0 k1_1 k2_0 k2_1
              have k0_0 := hs74.cellAt 0 rfl 0 rfl
              have k0_1 := hs74.cellAt 0 rfl 1 rfl
              have k1_0 := hs74.cellAt 1 rfl 0 rfl
              have k1_1 := hs74.cellAt 1 rfl 1 rfl
              have k2_0 := hs74.cellAt 2 rfl 0 rfl
              have k2_1 := hs74.cellAt 2 rfl 1 rfl
              have k3_0 := hs74.cellAt 3 rfl 0 rfl
              have k3_1 := hs74.cellAt 3 rfl 1 rfl
              clear HT_75
              go_upto_region 16 with fail
              refine wp_region_noPanic (wp_region_tree4 (fun w' => w'.cell? ⟨w.heap.size, 0, none⟩ = some (.int .i64 k) ∧ w'.cell? ⟨w.heap.size, 1, none⟩ = some (.slice at0 rs.length ct0) ∧ w'.cell? ⟨wF.heap.size, 0, none⟩ = some (.int .i64 a2) ∧ w'.cell? ⟨wF.heap.size, 1, none⟩ = some (.slice af l2.length cf) ∧ w'.cell? ⟨wG.heap.size, 0, none⟩ = some (.int .i64 a3) ∧ w'.cell? ⟨wG.heap.size, 1, none⟩ = some (.slice ag l3.length cg)) (.float 0 (.float 1 (.hard 2 (.float 3 .nil)))) (by kernel_rfl) (by kernel_rfl) (by kernel_rfl) rfl ?_ (fun _ _ _ _ _ h => h) ?_)
              · exact ⟨(hs74.drew).cellAt 0 rfl 0 rfl, (hs74.drew).cellAt 0 rfl 1 rfl, (hs74.drew).cellAt 2 rfl 0 rfl, (hs74.drew).cellAt 2 rfl 1 rfl, (hs74.drew).cellAt 3 rfl 0 rfl, (hs74.drew).cellAt 3 rfl 1 rfl⟩
              have hs77 := hs74.drew
              have HFR_78 := Lib.hid (Ip.mono HFR_76.out (belowD _))
              clear HFR_76
              clear k0_0 k0_1 k1_0 k1_1 k2_0 k2_1 k3_0 k3_1
              have hz_wd79 : wG.heap.size + 1 ≤ ((wG.alloc (.cells #[.int .i64 a3, .slice ag l3.length cg] 34)).drew).heap.size := by simp
              generalize hgen_wd79 : (wG.alloc (.cells #[.int .i64 a3, .slice ag l3.length cg] 34)).drew = wd79 at *
              have HG_wd79 := Lib.hid hgen_wd79
              clear hgen_wd79
              (repeat (first | (apply t4_skip rfl (by rfl); try simp only [Act.put, List.setIfInBounds_toArray, List.set_cons_zero, List.set_cons_succ]) | (apply t4_float rfl (by rfl); (· (intro w' hS; go_simp <;> with_reducible rfl)); (try simp only [Act.put, List.setIfInBounds_toArray, List.set_cons_zero, List.set_cons_succ]))))
              refine t4_hard rfl (by rfl) (fun K hK => ?_)
              have k0_0 := hs77.cellAt 0 rfl 0 rfl
              have k0_1 := hs77.cellAt 0 rfl 1 rfl
              have k1_0 := hs77.cellAt 1 rfl 0 rfl
              have k1_1 := hs77.cellAt 1 rfl 1 rfl
              have k2_0 := hs77.cellAt 2 rfl 0 rfl
              have k2_1 := hs77.cellAt 2 rfl 1 rfl
              have k3_0 := hs77.cellAt 3 rfl 0 rfl
              have k3_1 := hs77.cellAt 3 rfl 1 rfl
              have f1_0 := hs77.freeAt 1 rfl 0
              have f1_1 := hs77.freeAt 1 rfl 1
              go_wp2_with fail
              have hs80 := hs77.set (p := [_]) (by simp <;> omega) 0 (.int .i64 a3)
              have hs81 := hs80.set (p := [_]) (by simp <;> omega) 1 (.slice ag l3.length cg)
              have HFR_82 := Lib.hid (Ip.setCell (b := w.heap.size + 1) (o := 1) (Ip.setCell (b := w.heap.size + 1) (o := 0) HFR_78.out (.int .i64 a3) (by intro hA9; (try simp only at hA9); omega)) (.slice ag l3.length cg) (by intro hA9; (try simp only at hA9); omega))
              clear HFR_78
              clear k0_0 k0_1 k1_0 k1_1 k2_0 k2_1 k3_0 k3_1
              have hz_wP : wd79.heap.size ≤ (((wd79.setCell ⟨w.heap.size + 1, 0, none⟩ (.int .i64 a3)).setCell ⟨w.heap.size + 1, 1, none⟩ (.slice ag l3.length cg))).heap.size := by simp [World.setCell]
              generalize hgen_wP : ((wd79.setCell ⟨w.heap.size + 1, 0, none⟩ (.int .i64 a3)).setCell ⟨w.heap.size + 1, 1, none⟩ (.slice ag l3.length cg)) = wP at *
              clear hgen_wP
              have k0_0 := hs81.cellAt 0 rfl 0 rfl
              have k0_1 := hs81.cellAt 0 rfl 1 rfl
              have k1_0 := hs81.cellAt 1 rfl 0 rfl
              have k1_1 := hs81.cellAt 1 rfl 1 rfl
              have k2_0 := hs81.cellAt 2 rfl 0 rfl
              have k2_1 := hs81.cellAt 2 rfl 1 rfl
              have k3_0 := hs81.cellAt 3 rfl 0 rfl
              have k3_1 := hs81.cellAt 3 rfl 1 rfl
              refine ⟨⟨hs81.cellAt 0 rfl 0 rfl, hs81.cellAt 0 rfl 1 rfl, hs81.cellAt 2 rfl 0 rfl, hs81.cellAt 2 rfl 1 rfl, hs81.cellAt 3 rfl 0 rfl, hs81.cellAt 3 rfl 1 rfl⟩, ?_⟩
              (repeat (first | (apply t4_skip rfl (by rfl); try simp only [Act.put, List.setIfInBounds_toArray, List.set_cons_zero, List.set_cons_succ]) | (apply t4_float rfl (by rfl); (· (intro w' hS; go_simp <;> with_reducible rfl)); (try simp only [Act.put, List.setIfInBounds_toArray, List.set_cons_zero, List.set_cons_succ]))))
              clear k0_0 k0_1 k1_0 k1_1 k2_0 k2_1 k3_0 k3_1
              have k0_0 := hs81.cellAt 0 rfl 0 rfl
              have k0_1 := hs81.cellAt 0 rfl 1 rfl
              have k1_0 := hs81.cellAt 1 rfl 0 rfl
              have k1_1 := hs81.cellAt 1 rfl 1 rfl
              have k2_0 := hs81.cellAt 2 rfl 0 rfl
              have k2_1 := hs81.cellAt 2 rfl 1 rfl
              have k3_0 := hs81.cellAt 3 rfl 0 rfl
              have k3_1 := hs81.cellAt 3 rfl 1 rfl
              clear k0_0 k0_1 k1_0 k1_1 k2_0 k2_1 k3_0 k3_1
              have k0_0 := hs81.cellAt 0 rfl 0 rfl
              have k0_1 := hs81.cellAt 0 rfl 1 rfl
              have k1_0 := hs81.cellAt 1 rfl 0 rfl
              have k1_1 := hs81.cellAt 1 rfl 1 rfl
              have k2_0 := hs81.cellAt 2 rfl 0 rfl
              have k2_1 := hs81.cellAt 2 rfl 1 rfl
              have k3_0 := hs81.cellAt 3 rfl 0 rfl
              have k3_1 := hs81.cellAt 3 rfl 1 rfl
              refine t4_nil (NoPanic.normal ?_)
              have x0 := (hs81.cellAt 1 rfl 0 rfl)
              have x1 := (hs81.cellAt 1 rfl 1 rfl)
              go_wp2_with fail
              exact bodyPost_ret (v := .tuple #[.int .i64 3, .agg #[.int .i64 a3, .slice ag l3.length cg], .int .i64 0]) (by simp [results, Tryz.results20, go_sem, x0, x1]) rfl ⟨_, _, rfl, HFR_82.out.fresh (fun z hz => by (try simp only at hz); omega), hs81.bel⟩
            · have hcq3 : (c3 == 0) = false := by simpa using hc3
              have HW5 := Lib.hid (show FF = waysE ((k : Int), rs) from HW4.out.trans (if_neg hc3))
              clear HW4 hc3 HFR
              go_upto_region 15 with fail
              have hs83 := hs72.alloc #[.int .i64 a3, .slice ag l3.length cg] 34 (n := wG.heap.size) (by simp)
              have HT_84 := Lib.hid (Rd.mono HT_73.out (belowA _ (.cells #[.int .i64 a3, .slice ag l3.length cg] 34)))
              clear HT_73
              clear k0_0 k0_1 k1_0 k1_1 k2_0 k2_1
              have k0_0 := hs83.cellAt 0 rfl 0 rfl
              have k0_1 := hs83.cellAt 0 rfl 1 rfl
              have k1_0 := hs83.cellAt 1 rfl 0 rfl
              have k1_1 := hs83.cellAt 1 rfl 1 rfl
              have k2_0 := hs83.cellAt 2 rfl 0 rfl
              have k2_1 := hs83.cellAt 2 rfl 1 rfl
              have k3_0 := hs83.cellAt 3 rfl 0 rfl
              have k3_1 := hs83.cellAt 3 rfl 1 rfl
              go_wp2_with fail
              refine (isPrime_c (k : Int) _).mono ?_
              rintro e w85 ⟨rfl, rfl⟩
              cases hpr : isPr (k : Int) with
              | false =>
                obtain rfl : FF = ((0, []), 0, 6) := HW5.out.trans (by unfold waysE; rw [if_neg (by simp only; rw [hpr]; simp)])
                clear HW5 hpr
                have f1_0 := hs83.freeAt 1 rfl 0
                have f1_1 := hs83.freeAt 1 rfl 1
                go_wp2_with fail
                have hs86 := hs83.set (p := [_]) (by simp <;> omega) 0 (.int .i64 0)
                have hs87 := hs86.set (p := [_]) (by simp <;> omega) 1 (.slice none 0 0)
                have x0 := (hs87.cellAt 1 rfl 0 rfl)
                have x1 := (hs87.cellAt 1 rfl 1 rfl)
                exact bodyPost_ret (v := .tuple #[.int .i64 0, .agg #[.int .i64 0, .slice none 0 0], .int .i64 6]) (by simp [results, Tryz.results20, go_sem, x0, x1]) rfl ⟨_, _, rfl, fresh_intO2 ⟨by decide, by decide⟩ fresh_nil_list, hs87.bel⟩
              | true =>
                have HPR := Lib.hid hpr
                clear hpr
                have eg2 : ∀ args w, (callFunc 64 args).run Tryz.prog w = .ok (.enter 64 args) w := enters_of Tryz.func64 (by kernel_rfl) rfl
                go_wp2_with fail
                refine (containsRels_c rs _ 64 _ (fun r => !affIs (k : Int) r) _ (rd_cons rfl HT_84.out).2 eg2 (notAff_by (k : Int) rs (w.heap.size) _ (hs83.cellAt 0 rfl 0 rfl) HPR.out HRS.out)).mono ?_
                rintro e w5 ⟨rfl, hb5⟩
                rw [any_not_all]
                have hz_w5 : wG.heap.size + 1 ≤ w5.heap.size := by have h9 := hb5.size; (try simp at h9); omega
                have hs88 := hs83.step hb5
                have HT_89 := Lib.hid (Rd.mono HT_84.out hb5)
                clear HT_84
                clear k0_0 k0_1 k1_0 k1_1 k2_0 k2_1 k3_0 k3_1
                have k0_0 := hs88.cellAt 0 rfl 0 rfl
                have k0_1 := hs88.cellAt 0 rfl 1 rfl
                have k1_0 := hs88.cellAt 1 rfl 0 rfl
                have k1_1 := hs88.cellAt 1 rfl 1 rfl
                have k2_0 := hs88.cellAt 2 rfl 0 rfl
                have k2_1 := hs88.cellAt 2 rfl 1 rfl
                have k3_0 := hs88.cellAt 3 rfl 0 rfl
                have k3_1 := hs88.cellAt 3 rfl 1 rfl
                cases hall : rs.all (affIs (k : Int)) with
                | false =>
                  obtain rfl : FF = ((0, []), 0, 6) := HW5.out.trans (by unfold waysE; rw [if_neg (by simp only; rw [hall]; simp)])
                  clear HW5 hall
                  have f1_0 := hs88.freeAt 1 rfl 0
                  have f1_1 := hs88.freeAt 1 rfl 1
                  go_wp2_with fail
                  have hs90 := hs88.set (p := [_]) (by simp <;> omega) 0 (.int .i64 0)
                  have hs91 := hs90.set (p := [_]) (by simp <;> omega) 1 (.slice none 0 0)
                  have x0 := (hs91.cellAt 1 rfl 0 rfl)
                  have x1 := (hs91.cellAt 1 rfl 1 rfl)
                  exact bodyPost_ret (v := .tuple #[.int .i64 0, .agg #[.int .i64 0, .slice none 0 0], .int .i64 6]) (by simp [results, Tryz.results20, go_sem, x0, x1]) rfl ⟨_, _, rfl, fresh_intO2 ⟨by decide, by decide⟩ fresh_nil_list, hs91.bel⟩
                | true =>
                  obtain rfl : FF = (affOp (k : Int), 4, 0) := HW5.out.trans (by unfold waysE; rw [if_pos ⟨HPR.out, hall⟩])
                  clear HW5 hall
                  have hp23 := isPr_true HPR.out
                  go_wp2_with fail
                  refine (affineOp_c (k : Int) _ (by omega) (by omega)).mono ?_
                  rintro e w92 ⟨v9, rfl, fr9, hbw92⟩
                  have hz_w92 : w5.heap.size ≤ w92.heap.size := by have h9 := hbw92.size; (try simp at h9); omega
                  have hs93 := hs88.step hbw92
                  have HT_94 := Lib.hid (Rd.mono HT_89.out hbw92)
                  clear HT_89
                  clear k0_0 k0_1 k1_0 k1_1 k2_0 k2_1 k3_0 k3_1
                  have k0_0 := hs93.cellAt 0 rfl 0 rfl
                  have k0_1 := hs93.cellAt 0 rfl 1 rfl
                  have k1_0 := hs93.cellAt 1 rfl 0 rfl
                  have k1_1 := hs93.cellAt 1 rfl 1 rfl
                  have k2_0 := hs93.cellAt 2 rfl 0 rfl
                  have k2_1 := hs93.cellAt 2 rfl 1 rfl
                  have k3_0 := hs93.cellAt 3 rfl 0 rfl
                  have k3_1 := hs93.cellAt 3 rfl 1 rfl
                  obtain ⟨a9, c9, rfl, _⟩ := rd_list fr9.rd
                  have HFR := Lib.hid (show Fresh (w.heap.size + 1 + 1) _ [.int .i64 3, .slice a9 (tableTo (affF (k : Int)) (k : Int) 3 ((k : Int) ^ 3).toNat).length c9] (affOp (k : Int)) from fresh_intO2 ⟨by decide, by decide⟩ (fr9.lower (by omega)))
                  clear fr9
                  generalize hTT : tableTo (affF (k : Int)) (k : Int) 3 ((k : Int) ^ 3).toNat = TT at *
                  clear hTT
                  have f1_0 := hs93.freeAt 1 rfl 0
                  have f1_1 := hs93.freeAt 1 rfl 1
                  go_wp2_with fail
                  have HFX := Lib.hid (((HFR.out.setCell (a := ⟨w.heap.size + 1, 0, none⟩) (by (try simp only); omega) (.int .i64 3)).setCell (a := ⟨w.heap.size + 1, 1, none⟩) (by (try simp only); omega) (.slice a9 TT.length c9)).lower (lo' := w.heap.size) (by omega))
                  have hs95 := hs93.set (p := [_]) (by simp <;> omega) 0 (.int .i64 3)
                  have hs96 := hs95.set (p := [_]) (by simp <;> omega) 1 (.slice a9 TT.length c9)
                  have x0 := (hs96.cellAt 1 rfl 0 rfl)
                  have x1 := (hs96.cellAt 1 rfl 1 rfl)
                  exact bodyPost_ret (v := .tuple #[.int .i64 4, .agg #[.int .i64 3, .slice a9 TT.length c9], .int .i64 0]) (by simp [results, Tryz.results20, go_sem, x0, x1]) rfl ⟨_, _, rfl, HFX.out, hs96.bel⟩

end Go.Proofs.YtllenfkbfeanmaaGreat

