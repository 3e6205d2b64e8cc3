/-
  SEVERAL TEXTS IN ONE.
-/
import Derived.Test.YtllenfkbfeanmaaGreatTmplBFa
import Derived.Test.YtllenfkbfeanmaaGreatRowsBFa
import Derived.Lib.BufferMore
import Derived.Test.YtllenfkbfeanmaaGreatRowBFa
import Derived.Shelf.Abstract
import Derived.Deep.RegionHeld3
import Derived.Test.YtllenfkbfeanmaaGreatBaseFa

/-
  CONTRACTS: what an operation makes of tuples; whether it keeps a relation; the program's side.
-/
namespace Go.Proofs.YtllenfkbfeanmaaGreat
open Go.RowKit Go.Shelf Go.IntWalk
open Rep (Rd Own sz)
set_option linter.unusedSimpArgs false
set_option linter.unusedVariables false

/-- A bool of a slice that is the call's own. -/
theorem ownSl_bool {g : Nat} {w : World} {v : Value} {l : List Bool} (h : OwnSl [g] w v l) (i : Nat) (hi : i < l.length) :
    ∃ o c, v = .slice (some ⟨g, o, none⟩) l.length c ∧ w.cell? ⟨g, o + i, none⟩ = some (.bool l[i]) ∧ w.frozen? ⟨g, o + i, none⟩ = false ∧
      ∀ x, OwnSl [g] (w.setCell ⟨g, o + i, none⟩ (.bool x)) v (l.set i x) := by
  obtain ⟨g', o, c, cur, e, p, vs, hv, hg, hO, hc, hgp, hgn, hpn, hpp, hput⟩ := own_elem h (by simp) i hi
  obtain rfl : g' = g := by simpa using hgp
  obtain ⟨rfl, rfl⟩ := hO
  have hci := hc 0 (by simp)
  simp at hci
  refine ⟨o, c, hv, by rw [cell_at_block hg]; exact hci, free_at_block hg, fun x => ?_⟩
  refine hput _ [.bool x] x ?_ ⟨rfl, rfl⟩ (fun z hz _ hzg => ?_)
  · rw [heap_setCell_at _ _ _ _ _ _ _ hg]; simp [putArr, sz]
  · exact Below.heap_setCell _ _ _ _ hzg
end Go.Proofs.YtllenfkbfeanmaaGreat

/-
  CONTRACTS: what an operation makes of tuples; whether it keeps a relation; the reference's side.
-/
namespace Go.Proofs.YtllenfkbfeanmaaGreat
open Go.RowKit Go.Shelf Go.IntWalk
open Rep (Rd Own sz)
set_option linter.unusedSimpArgs false
set_option linter.unusedVariables false

set_option maxRecDepth 100000 in
set_option maxHeartbeats 2000000 in
theorem l01Empty_c (size ar : Int) (PN : Nat) (w : World) (hs : 1 ≤ size) (ha : 0 ≤ ar) (ha2 : ar ≤ 1000) (hp : size ^ ar.toNat = (PN : Int)) (hp2 : PN ≤ 1000000) :
    Calls Tryz.prog 138 #[.int .i64 size, .int .i64 ar] w fun e w' => e = .returned (.pointer (some ⟨w.heap.size + 1, 0, none⟩)) ∧ w'.heap[w.heap.size + 1]? = some (.cells #[.int .i64 size, .int .i64 ar, .slice (some ⟨w.heap.size, 0, none⟩) PN PN] 163 (0, 0)) ∧
      OwnSl [w.heap.size] w' (.slice (some ⟨w.heap.size, 0, none⟩) PN PN) (List.replicate PN false) ∧ w'.heap.size = w.heap.size + 2 ∧ Below w.heap.size w w' := by
  have HP := Lib.hid hp
  clear hp
  go_enter Tryz.func138, Tryz.ntmps138
  go_wp2_with fail
  refine (l01Power_c size ar _ (by omega) ha (by omega) (by rw [HP.out]; omega)).mono ?_
  rintro e w1 ⟨rfl, rfl⟩
  rw [HP.out]
  go_wp2_with (at_make; refine wpList_make_rep _ rfl _ _ 161 rfl E_bools false own0_bool PN (by omega) rfl rfl ?_; intro w1 hown hb1 hs1)
  go_ret
  refine ⟨rfl, ?_, ownSl_mono hown (belowA _ _), by simp; omega, hb1.trans ((belowA _ _).mono (by omega))⟩
  exact heap_alloc_at w1 _ hs1
set_option maxRecDepth 100000 in
set_option maxHeartbeats 8000000 in
theorem l01SetOf_c (size : Int) (r : RelT) (pb po : Nat) (r0 r1 : Value) (PN : Nat) (w : World) (hr : Rd w [r0, r1] r) (c0 : w.cell? ⟨pb, po, none⟩ = some r0) (c1 : w.cell? ⟨pb, po + 1, none⟩ = some r1) (hrk : relOk size r = true) (hp : size ^ r.1.toNat = (PN : Int)) :
    Calls Tryz.prog 76 #[.int .i64 size, .pointer (some ⟨pb, po, none⟩)] w fun e w' => e = .returned (.pointer (some ⟨w.heap.size + 1, 0, none⟩)) ∧ w'.heap[w.heap.size + 1]? = some (.cells #[.int .i64 size, .int .i64 r.1, .slice (some ⟨w.heap.size, 0, none⟩) PN PN] 163 (0, 0)) ∧
      OwnSl [w.heap.size] w' (.slice (some ⟨w.heap.size, 0, none⟩) PN PN) (setTo size PN r.2 r.2.length) ∧ w.heap.size + 2 ≤ w'.heap.size ∧ Below w.heap.size w w' := by
  obtain ⟨rar, ts⟩ := r
  have hs := (relOk_get hrk).1
  have hra := (relOk_get hrk).2.1
  have hp256 := pow256 hs hra
  simp only at hra hp256 hp
  rw [hp] at hp256
  have HPN := Lib.hid hp
  have HVAL := Lib.hid (relOk_val hrk)
  have zr := rd_cons rfl hr
  obtain ⟨rfl, _⟩ := rd_i1 zr.1
  obtain ⟨a, c, rfl, htr⟩ := rd_list zr.2
  have hb0 := (rdSl_len htr).2
  unfold maxLen at hb0
  have HTR := Lib.hid htr
  clear hr zr hrk htr hp
  obtain ⟨AR, rfl⟩ : ∃ x : Nat, rar = x := ⟨rar.toNat, by omega⟩
  have c0_ := cellL (St.start w).bel c0
  clear c0_
  have c0_ := cellL (St.start w).bel c0
  have c1_ := cellL (St.start w).bel c1
  go_enter Tryz.func76, Tryz.ntmps76
  go_wp2_with fail
  refine (l01Empty_c size AR PN _ hs.1 (by omega) (by omega) HPN.out (by omega)).mono ?_
  rintro e w1 ⟨rfl, hh1, hown, hsz, hb1⟩
  have HH := Lib.hid hh1
  have HO := Lib.hid hown
  have hsz1 : w.heap.size + 2 ≤ w1.heap.size := by omega
  have HB1 := Lib.hid hb1
  clear hh1 hown hsz hb1
  go_wp2_with fail
  go_loopw [6] (fun i wl => ∃ k : Nat, k ≤ ts.length ∧ i = .int .i64 k ∧ Hid (But [w.heap.size] w1 wl) ∧ Hid (OwnSl [w.heap.size] wl (.slice (some ⟨w.heap.size, 0, none⟩) PN PN) (setTo size PN ts k))) (fun i _ => ts.length - (intOf i).toNat)
  case atStart => exact ⟨0, Nat.zero_le _, rfl, But.refl _ _, HO.out⟩
  case round =>
    clear HO
    obtain ⟨k, hk, rfl, ho, hw⟩ := hrel
    have hszr := ho.out.size
    have HHR := Lib.hid (show wr.heap[w.heap.size + 1]? = _ from (ho.out.block _ (by omega) (by simp)).trans HH.out)
    have hsr := (St.start w).stepB (HB1.out.trans (ho.out.below (B := w.heap.size) (by simp) (by omega)))
    have s2 : wr.cell? ⟨w.heap.size + 1, 2, none⟩ = some (.slice (some ⟨w.heap.size, 0, none⟩) PN PN) := by rw [cell_at_block HHR.out]; rfl
    have HSL := Lib.hid (setTo_len size PN ts k)
    have c0_ := cellL hsr.bel c0
    have c1_ := cellL hsr.bel c1
    have HBW := Lib.hid (Below.refl wr.heap.size wr)
    have HOW := hw
    by_cases hlt : k < ts.length
    · have hltI : (k : Int) < ts.length := by omega
      obtain ⟨b, o, u0, rfl, q0, hx⟩ := rdSl_one rfl HTR.out k hlt
      have HX := Lib.hid hx
      obtain ⟨a0, cc0, rfl, _⟩ := rd_list hx
      have hvv := HVAL.out _ (List.getElem_mem hlt)
      have hcb := codeL_bd hs.1 ts[k] hvv.2
      rw [hvv.1] at hcb
      simp only [Int.toNat_natCast] at hcb
      have HPN2 := Lib.hid (show size ^ AR = (PN : Int) from by simpa using HPN.out)
      rw [HPN2.out] at hcb
      have HVV := Lib.hid (show ∀ x, x ∈ ts[k] → 0 ≤ x ∧ x ≤ size - 1 from hvv.2)
      have HLN := Lib.hid (show ts[k].length = AR by have := hvv.1; simpa using this)
      obtain ⟨C, hC⟩ : ∃ C : Nat, codeL size ts[k] = C := ⟨(codeL size ts[k]).toNat, by omega⟩
      have HC := Lib.hid hC
      rw [hC] at hcb
      have HSS := Lib.hid (show (setTo size PN ts k).set C true = setTo size PN ts (k + 1) by
        rw [setTo, show ts.getD k [] = ts[k] by simp [List.getD, hlt], HC.out, Int.toNat_natCast])
      have hCl : (C : Int) < PN := by omega
      have ejw : IntKind.i64.wrap (C : Int) = (C : Int) := i64_in _ (by omega)
      clear hx hvv hC
      clear c0_ c1_
      have c0_ := cellL hsr.bel c0
      have c1_ := cellL hsr.bel c1
      have q0_ := cellL hsr.bel q0
      clear c0_ c1_ q0_
      have c0_ := cellL hsr.bel c0
      have c1_ := cellL hsr.bel c1
      have q0_ := cellL hsr.bel q0
      go_upto_region 5 with fail
      refine wp_region_noPanic (wp_region_tree4 (fun w' => w'.cell? ⟨pb, po, none⟩ = some (.int .i64 AR) ∧ w'.cell? ⟨pb, po + 1, none⟩ = some (.slice (some ⟨b, o, none⟩) ts.length c) ∧ w'.cell? ⟨w.heap.size + 1, 2, none⟩ = some (.slice (some ⟨w.heap.size, 0, none⟩) PN PN) ∧ w'.cell? ⟨b, o + k, none⟩ = some (.slice a0 ts[k].length cc0)) (.float 0 (.float 1 (.float 2 (.float 3 (.float 4 (.float 5 (.float 6 (.float 7 (.float 8 (.float 9 (.float 10 (.float 11 (.hard 12 (.float 13 (.last 14 .nil))))))))))))))) (by kernel_rfl) (by kernel_rfl) (by kernel_rfl) rfl ?_ (fun _ _ _ _ _ h => h) ?_)
      · exact ⟨cellL (hsr.drew).bel c0, cellL (hsr.drew).bel c1, cellL (belowD _) s2, cellL (hsr.drew).bel q0⟩
      have hs12 := hsr.drew
      have s2_13 := cellL (belowD _) s2
      clear s2
      have HBW_14 := Lib.hid (HBW.out.trans (((belowD _)).mono HBW.out.size))
      clear HBW
      have HOW_15 := Lib.hid (ownSl_mono HOW.out (belowD _))
      clear HOW
      clear c0_ c1_ q0_
      have hz_wd16 : wr.heap.size ≤ (wr.drew).heap.size := by simp
      generalize hgen_wd16 : wr.drew = wd16 at *
      have HG_wd16 := Lib.hid hgen_wd16
      clear hgen_wd16
      (repeat (first | (apply t4_skip rfl (by rfl); try simp only [Act.put, List.setIfInBounds_toArray, List.set_cons_zero, List.set_cons_succ]) | (apply t4_float rfl (by rfl); (· (intro w' hS; go_simp <;> with_reducible rfl)); (try simp only [Act.put, List.setIfInBounds_toArray, List.set_cons_zero, List.set_cons_succ]))))
      refine t4_hard rfl (by rfl) (fun K hK => ?_)
      go_wp2_with (go_at_call 139; refine (l01Code_c size ts[k] _ _ (Rd.mono HX.out hs12.bel) hs.1 HVV.out (by rw [HLN.out, HPN2.out]; omega)).mono ?_; rintro e w17 ⟨rfl, rfl, rfl⟩)
      rw [HC.out]
      refine ⟨⟨cellL hs12.bel c0, cellL hs12.bel c1, s2_13, cellL hs12.bel q0⟩, ?_⟩
      (repeat (first | (apply t4_skip rfl (by rfl); try simp only [Act.put, List.setIfInBounds_toArray, List.set_cons_zero, List.set_cons_succ]) | (apply t4_float rfl (by rfl); (· (intro w' hS; go_simp <;> with_reducible rfl)); (try simp only [Act.put, List.setIfInBounds_toArray, List.set_cons_zero, List.set_cons_succ]))))
      refine t4_last rfl (by rfl) (fun K hK => ?_)
      have c0_ := cellL hs12.bel c0
      have c1_ := cellL hs12.bel c1
      have q0_ := cellL hs12.bel q0
      obtain ⟨o9, c9, hv9, hcd9, hf9, hset9⟩ := ownSl_bool HOW_15.out C (by rw [HSL.out]; omega)
      simp only [Value.slice.injEq, Option.some.injEq, Addr.mk.injEq] at hv9
      obtain ⟨⟨-, rfl, -⟩, -, rfl⟩ := hv9
      rw [Nat.zero_add] at hcd9 hf9
      have HS9 := Lib.hid (hset9 true)
      rw [Nat.zero_add, HSS.out] at HS9
      have HO9 := Lib.hid ((ho.out.trans (but_of HBW_14.out)).trans (OnlyAt.but ((OnlyAt.refl [w.heap.size] wd16).setCell (p := ⟨w.heap.size, C, none⟩) (by simp) (.bool true))))
      generalize (setTo size PN ts k)[C]'(by rw [HSL.out]; omega) = B9 at hcd9
      clear hset9
      go_wp2_with fail
      refine t4_nil (NoPanic.normal ?_)
      go_wp2_with fail
      go_roundw
      case rel => exact ⟨k + 1, by omega, by go_num, HO9.out, HS9.out⟩
      case measure => simp [intOf]; omega
    · obtain rfl : k = ts.length := by omega
      have hnl : ¬ ((ts.length : Int) < ts.length) := by omega
      go_wp2_with fail
      go_ret
      exact ⟨rfl, HHR.out, hw.out, by omega, hsr.bel⟩
end Go.Proofs.YtllenfkbfeanmaaGreat

/-
  CONTRACTS: operations made of a function.
-/
namespace Go.Proofs.YtllenfkbfeanmaaGreat
open Go.RowKit Go.Shelf
open Rep (Rd Own sz)
set_option linter.unusedSimpArgs false
set_option linter.unusedVariables false

/-- The table of a function of lists. -/
def tableTo (f : List Int → Int) (size : Int) (m : Nat) (k : Nat) : List Int := (List.range k).map fun (i : Nat) => f (digs size m (i : Int))
@[simp] theorem tableTo_length (f : List Int → Int) (size : Int) (m k : Nat) : (tableTo f size m k).length = k := by simp [tableTo]
end Go.Proofs.YtllenfkbfeanmaaGreat

/-
  CONTRACTS: the operation x - y + z.
-/
namespace Go.Proofs.YtllenfkbfeanmaaGreat
open Go.RowKit Go.Shelf
open Rep (Rd Own sz)
set_option linter.unusedSimpArgs false
set_option linter.unusedVariables false

end Go.Proofs.YtllenfkbfeanmaaGreat

/-
  CONTRACTS: is a relation affine?
-/
namespace Go.Proofs.YtllenfkbfeanmaaGreat
open Go.RowKit Go.Shelf Go.IntWalk
open Rep (Rd Own sz)
set_option linter.unusedSimpArgs false
set_option linter.unusedVariables false

end Go.Proofs.YtllenfkbfeanmaaGreat

