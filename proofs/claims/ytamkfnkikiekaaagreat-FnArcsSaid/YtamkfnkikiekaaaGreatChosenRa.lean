/-
  CONTRACTS: values at places, both sides.
-/
import Derived.Test.YtamkfnkikiekaaaGreatRowsBRa
namespace Go.Proofs.YtamkfnkikiekaaaGreat
open Go.RowKit Go.Shelf Go.IntWalk
open Rep (Rd Own sz)
set_option linter.unusedSimpArgs false
set_option linter.unusedVariables false

def chosenL (vals places : List Int) : List Int := places.map (fun v => vals.getD v.toNat 0)
set_option maxHeartbeats 2000000 in
set_option maxRecDepth 100000 in
theorem l01At_c (vals places : List Int) (vv vp : Value) (w : World) (hv : Rd w [vv] vals) (hp : Rd w [vp] places) (hn : places.length ≤ 1000000) (hi : ∀ v, v ∈ places → 0 ≤ v ∧ v < vals.length) :
    Calls Tryz.prog 121 #[vv, vp] w fun e w' => ∃ v', e = .returned v' ∧ Fresh w.heap.size w' [v'] (chosenL vals places) ∧ Below w.heap.size w w' := by
  obtain ⟨av, cv, rfl, _⟩ := rd_list hv
  obtain ⟨ap, cp, rfl, _⟩ := rd_list hp
  have HV := Lib.hid hv
  have HP := Lib.hid hp
  have HI := Lib.hid hi
  clear hv hp hi
  have HM := Lib.hid (acc_made (α := Int) w 2)
  go_enter Tryz.func121, Tryz.ntmps121
  go_wp2_with fail
  go_loopw [5, 6] (fun oo i wl => ∃ (k : Nat) (ao : Option Addr) (co : Nat), k ≤ places.length ∧ i = .int .i64 k ∧ oo = .slice ao k co ∧ Hid (Below w.heap.size w wl) ∧ Hid (Acc w.heap.size wl.heap.size 2 wl (.slice ao k co) ((chosenL vals places).take k))) (fun _ i _ => places.length - (intOf i).toNat)
  case atStart => exact ⟨0, _, _, Nat.zero_le _, rfl, rfl, belowA _ _, by simpa [Hid] using HM.out⟩
  case round =>
    clear HM
    obtain ⟨k, ao, co, hk, rfl, rfl, hbl, hac⟩ := hrel
    have hsr := (St.start w).step hbl.out
    have HAC := hac
    have hb0 := hbl.out.size
    by_cases hlt : k < places.length
    · have hkl : (k : Int) < places.length := by omega
      obtain ⟨b, o, rfl, qk, _⟩ := rd_int_at (Rd.mono HP.out hsr.bel) k hlt
      have hvr := HI.out _ (List.getElem_mem hlt)
      obtain ⟨m, hm⟩ : ∃ m : Nat, places[k] = (m : Int) := ⟨(places[k]).toNat, by omega⟩
      have hml : m < vals.length := by omega
      have hmlI : (m : Int) < vals.length := by omega
      obtain ⟨b2, o2, rfl, qm, hI⟩ := rd_int_at (Rd.mono HV.out hsr.bel) m hml
      have hcl : k < (chosenL vals places).length := by simpa [chosenL] using hlt
      have HTK := Lib.hid (show (chosenL vals places).take (k + 1) = (chosenL vals places).take k ++ [vals[m]] by
        rw [List.take_succ_eq_append_getElem hcl]
        congr 2
        simp only [chosenL, List.getElem_map]
        rw [hm, Int.toNat_natCast, List.getD, List.getElem?_eq_getElem hml]
        rfl)
      have HLK := Lib.hid (show ((chosenL vals places).take k).length = k by rw [List.length_take]; omega)
      have HI2 := Lib.hid hI
      have HBL := Lib.hid hbl.out
      rw [hm] at qk
      clear hm hvr hI
      generalize vals[m] = X at *
      go_wp2_with (at_builtin; go_loud (refine wpList_append_ints _ rfl _ _ _ rfl E_ints rfl (Acc.mono HAC.out (belowA _ (.cells #[.int .i64 X] 2))) (by omega) (by simp) ⟨wr.heap.size, 0, none⟩ 1 rfl (ns := [X]) (news1 (cell_at_block (heap_alloc_new _ _))) (fun b hb => by simp at hb; subst hb; exact HI2.out) (by rw [HLK.out]; simp; omega) ?_); simp only [HLK.out, ← HTK.out]; intro a9 c9 w9 hA9 hB9 hK9)
      have HA9 := Lib.hid hA9
      have HB9 := Lib.hid (HBL.out.trans ((belowA wr (.cells #[.int .i64 X] 2)).mono HBL.out.size) |>.trans hB9)
      clear hA9 hB9 hK9
      go_wp2_with fail
      go_roundw
      case rel => exact ⟨k + 1, a9, c9, hlt, by go_num, rfl, HB9.out, HA9.out⟩
      case measure => simp [intOf]; omega
    · obtain rfl : k = places.length := by omega
      have hnl : ¬ ((places.length : Int) < places.length) := by omega
      have HBF := Lib.hid hbl.out
      have HAF := Lib.hid (show Fresh w.heap.size wr [.slice ao places.length co] (chosenL vals places) by
        have h := hac.out
        rw [List.take_of_length_le (by simp [chosenL])] at h
        exact h.fresh)
      go_wp2_with fail
      go_ret
      exact ⟨_, rfl, HAF.out, HBF.out⟩

end Go.Proofs.YtamkfnkikiekaaaGreat

