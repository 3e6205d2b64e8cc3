/-
  SEVERAL TEXTS IN ONE.
-/
import Derived.Test.YtamkfnkikiekaaaGreatKindRa
import Derived.Test.YtamkfnkikiekaaaGreatFailBRa
import Derived.Test.YtamkfnkikiekaaaGreatArcFBRa
import Derived.Test.YtamkfnkikiekaaaGreatPairsRa
import Derived.Test.YtamkfnkikiekaaaGreatKindSRa
import Derived.Test.YtamkfnkikiekaaaGreatArcsSRa
import Derived.Test.YtamkfnkikiekaaaGreatMakeArcsSRa

/-
  CONTRACTS: solving by a semilattice: the code of its arguments, domains with all values; the program's side.
-/
namespace Go.Proofs.YtamkfnkikiekaaaGreat
open Go.RowKit Go.Shelf Go.IntWalk
open Rep (Rd Own sz)
set_option linter.unusedSimpArgs false
set_option linter.unusedVariables false

def fullD (size V : Nat) : List (List Int) := List.replicate V (upL 0 size)
theorem upL_rises (size : Nat) (h : 1 ≤ size) : risesB 0 ((size : Int) - 1) (upL 0 size) = true := by
  unfold risesB
  rw [List.all_eq_true]
  intro i hi
  rw [List.mem_range, upL_len] at hi
  unfold risAt
  have hg : ∀ k, k < size → (upL 0 size).getD k 0 = (k : Int) := fun k hk => by
    rw [List.getD, List.getElem?_eq_getElem (by rw [upL_len]; exact hk)]
    simp [upL]
  rw [hg i hi, Bool.and_eq_true, Bool.or_eq_true]
  refine ⟨inB_mk (by omega), ?_⟩
  by_cases h0 : i = 0
  · exact .inl (decide_eq_true h0)
  · right
    rw [hg (i - 1) (by omega)]
    exact decide_eq_true (by omega)
theorem fullD_ok {t : Tmpl} {x : Inst} {sn V : Nat} (h : instOk t x = true) (hs : t.1 = (sn : Int)) (hV : x.1 = (V : Int)) : domsOk t x (fullD sn V) = true := by
  have h1 := (tmplOk_get (instOk_get h).1).1
  unfold domsOk
  rw [h, Bool.true_and, Bool.and_eq_true]
  refine ⟨decide_eq_true (by simp [fullD, hV]), ?_⟩
  rw [List.all_eq_true]
  intro d hd
  obtain ⟨_, rfl⟩ := List.mem_replicate.1 hd
  rw [hs]
  exact upL_rises sn (by omega)
theorem fullD_succ (size V : Nat) : fullD size V ++ [upL 0 size] = fullD size (V + 1) := List.replicate_succ'.symm
set_option maxRecDepth 100000 in
set_option maxHeartbeats 4000000 in
theorem fullDomains_c (sn V : Nat) (rs : List RelT) (cs : List OpT) (t1 x1 : Value) (w : World) (ht : Rd w [t1] rs) (hx : Rd w [x1] cs) (hs : sn ≤ 4) (hV : V ≤ 10) :
    Calls Tryz.prog 21 #[.agg #[.int .i64 sn, t1], .agg #[.int .i64 V, x1]] w fun e w' => ∃ v, e = .returned v ∧ AccP (fun z => w.heap.size ≤ z) 47 w' v (fullD sn V) ∧ Below w.heap.size w w' := by
  obtain ⟨at0, ct0, rfl, _⟩ := rd_list ht
  obtain ⟨ax, cx, rfl, _⟩ := rd_list hx
  clear ht hx
  have hs1 := (St.start w).alloc #[.int .i64 sn, .slice at0 rs.length ct0] 26 (n := w.heap.size) (by simp)
  have k0_0 := hs1.cellAt 0 rfl 0 rfl
  have k0_1 := hs1.cellAt 0 rfl 1 rfl
  have hs2 := hs1.alloc #[.int .i64 V, .slice ax cs.length cx] 29 (n := w.heap.size + 1) (by simp)
  clear k0_0 k0_1
  have k0_0 := hs2.cellAt 0 rfl 0 rfl
  have k0_1 := hs2.cellAt 0 rfl 1 rfl
  have k1_0 := hs2.cellAt 1 rfl 0 rfl
  have k1_1 := hs2.cellAt 1 rfl 1 rfl
  have HS0 := Lib.hid (show St w (w.heap.size + 1 + 1) (((w.alloc (.cells #[.int .i64 sn, .slice at0 rs.length ct0] 26)).alloc (.cells #[.int .i64 V, .slice ax cs.length cx] 29)).alloc (.cells #[] 47)) [(w.heap.size, #[.int .i64 sn, .slice at0 rs.length ct0], 26), (w.heap.size + 1, #[.int .i64 V, .slice ax cs.length cx], 29)] from hs2.step (belowA ((w.alloc (.cells #[.int .i64 sn, .slice at0 rs.length ct0] 26)).alloc (.cells #[.int .i64 V, .slice ax cs.length cx] 29)) (.cells #[] 47)))
  have HA0 := Lib.hid (show AccP (fun z => w.heap.size + 1 + 1 ≤ z ∧ z < (((w.alloc (.cells #[.int .i64 sn, .slice at0 rs.length ct0] 26)).alloc (.cells #[.int .i64 V, .slice ax cs.length cx] 29)).alloc (.cells #[] 47)).heap.size) 47 (((w.alloc (.cells #[.int .i64 sn, .slice at0 rs.length ct0] 26)).alloc (.cells #[.int .i64 V, .slice ax cs.length cx] 29)).alloc (.cells #[] 47)) (.slice (some ⟨w.heap.size + 1 + 1, 0, none⟩) 0 0) (fullD sn 0) from by
    have h := accP_made (α := List Int) ((w.alloc (.cells #[.int .i64 sn, .slice at0 rs.length ct0] 26)).alloc (.cells #[.int .i64 V, .slice ax cs.length cx] 29)) 47
    have e9 : (((w.alloc (.cells #[.int .i64 sn, .slice at0 rs.length ct0] 26)).alloc (.cells #[.int .i64 V, .slice ax cs.length cx] 29))).heap.size = w.heap.size + 1 + 1 := by simp
    rw [e9] at h
    exact h.wk (fun z hz => by subst hz; simp))
  go_enter Tryz.func21, Tryz.ntmps21
  go_wp2_with fail
  go_loopw [5, 9] (fun oo kv wl => ∃ (k c : Nat) (ao : Option Addr), k ≤ V ∧ kv = .int .i64 k ∧ oo = .slice ao k c ∧ Hid (St w (w.heap.size + 1 + 1) wl [(w.heap.size, #[.int .i64 sn, .slice at0 rs.length ct0], 26), (w.heap.size + 1, #[.int .i64 V, .slice ax cs.length cx], 29)]) ∧ Hid (AccP (fun z => w.heap.size + 1 + 1 ≤ z ∧ z < wl.heap.size) 47 wl (.slice ao k c) (fullD sn k))) (fun _ kv _ => V - (intOf kv).toNat)
  case atStart => exact ⟨0, 0, _, Nat.zero_le _, rfl, rfl, HS0.out, HA0.out⟩
  case round =>
    clear HS0 HA0
    obtain ⟨k, c, ao, hk, rfl, rfl, hst, hac⟩ := hrel
    have hs2 := hst.out
    have hlo := hs2.hi
    have k0_0 := hs2.cellAt 0 rfl 0 rfl
    have k0_1 := hs2.cellAt 0 rfl 1 rfl
    have k1_0 := hs2.cellAt 1 rfl 0 rfl
    have k1_1 := hs2.cellAt 1 rfl 1 rfl
    by_cases hlt : k < V
    · have hkI : (k : Int) < V := by omega
      have HFS := Lib.hid (fullD_succ sn k)
      have HFN := Lib.hid (show (fullD sn k).length = k by simp [fullD])
      go_wp2_with fail
      refine (upTo_c 0 sn _ (by omega) (by omega) (by omega)).mono ?_
      rintro e w5 ⟨v5, rfl, hA5, hb5⟩
      obtain ⟨a5, c5, rfl, _⟩ := hA5.len
      have HI6 := Lib.hid (((hA5.accP (Nat.le_refl _)).ip).mono (belowA w5 (.cells #[.slice a5 (upL 0 sn).length c5] 47)))
      have HA6 := Lib.hid ((hac.out.mono hb5).mono (belowA w5 (.cells #[.slice a5 (upL 0 sn).length c5] 47)))
      have HS6 := Lib.hid ((hs2.step hb5).step (belowA w5 (.cells #[.slice a5 (upL 0 sn).length c5] 47)))
      have hz5 := hb5.size
      clear hA5 hb5
      go_wp2_with (at_builtin; refine wpList_append_accP _ rfl _ _ _ rfl E_lists rfl HA6.out HI6.out (fun z h1 h2 => by have h3 := h1.2; have h4 := h2.1; omega) ⟨w5.heap.size, 0, none⟩ 1 rfl (news1 (cell_at_block (heap_alloc_new _ _))) (by rw [HFN.out]; omega) ?_; simp only [HFN.out, HFS.out]; intro a9 c9 w9 hA9 hB9)
      have hz9 := hB9.size
      have HS9 := Lib.hid (HS6.out.butP hB9 (fun z hz => by have := hz.1; omega) (fun x hx hA => by have h1 := hA.1; simp at hx; rcases hx with rfl | rfl <;> (simp only at h1; omega)))
      have HA9 := Lib.hid (hA9.tight.wk (C := fun z => w.heap.size + 1 + 1 ≤ z ∧ z < w9.heap.size) (fun z hz => ⟨by
        rcases hz.1 with h | h | h
        · exact h.1
        · have := h.1; omega
        · rw [h]; simp; omega, hz.2⟩))
      clear hA9 hB9 hz9
      go_wp2_with fail
      go_roundw
      case rel => exact ⟨k + 1, c9, a9, by omega, by go_num, rfl, HS9.out, HA9.out⟩
      case measure => simp [intOf]; omega
    · obtain rfl : k = V := by omega
      have hnl : ¬ ((k : Int) < k) := by omega
      have HAF := Lib.hid (hac.out.wk (C := fun z => w.heap.size ≤ z) (fun z hz => by have := hz.1; omega))
      have HBF := Lib.hid hs2.bel
      go_wp2_with fail
      go_ret
      exact ⟨_, rfl, HAF.out, HBF.out⟩

end Go.Proofs.YtamkfnkikiekaaaGreat

/-
  CONTRACT: solving by a semilattice: the program's side. (Printed by wip/gensemi.py.)
-/
namespace Go.Proofs.YtamkfnkikiekaaaGreat
open Go.RowKit Go.Shelf Go.IntWalk
open Rep (Rd Own sz)
set_option linter.unusedSimpArgs false
set_option linter.unusedVariables false

/-- Facts of a run that begins with all values. -/
structure FullFacts (t : Tmpl) (x : Inst) (sn V : Nat) : Prop where
  f : DomFacts t x (fullD sn V)
  len : (fullD sn V).length = V
  i64 : ∀ e, e ∈ (arcsF t x (fullD sn V)).2 → I64 e.1 ∧ I64 e.2.1 ∧ I64 e.2.2
  inn : InA (fun a => 0 ≤ a ∧ a ≤ t.1 - 1) V x.2.length (arcsF t x (fullD sn V))
end Go.Proofs.YtamkfnkikiekaaaGreat

/-
  CONTRACTS: solving by a semilattice: the code of its arguments, domains with all values; the reference's side.
-/
namespace Go.Proofs.YtamkfnkikiekaaaGreat
open Go.RowKit Go.Shelf Go.IntWalk
open Rep (Rd Own sz)
set_option linter.unusedSimpArgs false
set_option linter.unusedVariables false

end Go.Proofs.YtamkfnkikiekaaaGreat

/-
  CONTRACT: solving by a semilattice: the reference's side. (Printed by wip/gensemi.py.)
-/
namespace Go.Proofs.YtamkfnkikiekaaaGreat
open Go.RowKit Go.Shelf Go.IntWalk
open Rep (Rd Own sz)
set_option linter.unusedSimpArgs false
set_option linter.unusedVariables false


end Go.Proofs.YtamkfnkikiekaaaGreat

