/-
  CONTRACT: (*l07Row).scale of the reference. (Printed by wip/genrow.py.)
-/
import Derived.Test.YtoblfnoaepbhfaaSRow
namespace Go.Proofs.Ytoblfnoaepbhfaa
open Go.RowKit Go.Shelf Go.IntWalk
open Rep (Rd Own sz)
set_option linter.unusedSimpArgs false
set_option linter.unusedVariables false


set_option maxRecDepth 100000 in
set_option maxHeartbeats 4000000 in
theorem scale_c (p k : Int) (r : SRow) (b o : Nat) (cur : Array Value) (e : TypeId) (p0 p2 : List Nat) (v0 v2 : Value) (w : World) (hr : RowIn w b o cur e p0 p2 v0 v2 r)
    (hp0 : 2 ≤ p) (hp : p ≤ 3) (hk0 : 0 ≤ k) (hk : k ≤ 100) (gr : Res p r.1) (gr1 : 0 ≤ r.2.1 ∧ r.2.1 < p) (gr2 : Res p r.2.2) :
    Calls Try.prog 126 #[.pointer (some ⟨b, o, none⟩), .int .i64 k, .int .i64 p] w fun en w' => en = .returned (.tuple #[]) ∧ RowIn w' b o (cur.setIfInBounds (o + 1) (.int .i64 (scaleS p k r).2.1)) e p0 p2 v0 v2 (scaleS p k r) ∧ OnlyAt (b :: (p0 ++ p2)) w w' := by
  obtain ⟨rl, rr, rb⟩ := r
  have hrow := hr
  obtain ⟨hblk, hc0, hc1, hc2, ho0, ho2, hn0, hn2, hd⟩ := hr
  obtain ⟨a0, c0, rfl, hm0⟩ := ownSl_len ho0
  obtain ⟨a2, c2, rfl, hm2⟩ := ownSl_len ho2
  unfold maxLen at hm0 hm2
  simp only at gr gr1 gr2  hm0 hm2 hc1
  have BLK := Lib.hid hblk
  have HC0 := Lib.hid hc0
  have HC1 := Lib.hid hc1
  have HC2 := Lib.hid hc2
  have O0 := Lib.hid ho0
  have O2 := Lib.hid ho2
  have GR := Lib.hid gr
  have GR2 := Lib.hid gr2
  have ob : o + 1 < cur.size := (Array.getElem?_eq_some_iff.1 hc1).1
  clear hblk hc0 hc1 hc2 ho0 ho2 gr gr2 hrow
  have hp1 : p ≠ 0 := by omega
  have hp2 : (p == 0) = false := by simpa using hp1
  go_enter Try.func126, Try.ntmps126
  go_wp2_with fail
  go_loopw [6] (fun i wr => ∃ j : Nat, j ≤ rl.length ∧ i = .int .i64 j ∧ Hid (OnlyAt (b :: (p0 ++ p2)) w wr) ∧ Hid (wr.heap[b]? = some (.cells (cur) e (0, 0))) ∧ Hid (OwnSl p0 wr (.slice a0 rl.length c0) (zipTo (fun a _ => a * k % p) rl rl j)) ∧ Hid (OwnSl p2 wr (.slice a2 rb.length c2) (rb))) (fun i _ => rl.length - (intOf i).toNat)
  case atStart => exact ⟨0, Nat.zero_le _, rfl, OnlyAt.refl _ _, BLK.out, by simpa [Hid, zipTo_zero] using O0.out, O2.out⟩
  case round =>
    obtain ⟨j, hj, rfl, hon, hbk, hme, hot⟩ := hrel
    have q0 : wr.cell? ⟨b, o, none⟩ = some (.slice a0 rl.length c0) := by rw [cell_at_block hbk.out]; exact HC0.out
    by_cases hlt : j < rl.length
    · have hlq : j < rl.length := hlt
      obtain ⟨g', o', c', hv, hps, hc, hf, hI, hset⟩ := own_int_set hme.out j (by rw [zipTo_length _ _ _ _ (by omega) (by omega)]; omega)
      rw [zipTo_length _ _ _ _ (by omega) (by omega)] at hv
      simp only [Value.slice.injEq] at hv
      obtain ⟨rfl, -, rfl⟩ := hv
      rw [zipTo_get _ _ _ _ hlt (by omega)] at hc hI
      have gA := GR.out.get j hlt
      have hz := Lib.hid (zipTo_succ (fun a _ => a * k % p) rl rl j hlt hlq)
      have HSET := Lib.hid hset
      have HPS := Lib.hid hps
      clear hset hps
      generalize hA : rl[j] = A at *
      clear hA
      have hm := small_mul gA gA hp hk0 hk
      rw [Int.mul_comm] at hm
      have hw1 : IntKind.i64.wrap (A * k) = A * k := i64_in _ (by omega)
      have hT : (A * k).tmod p = A * k % p := Int.tmod_eq_emod_of_nonneg (by omega)
      have hE0 := Int.emod_nonneg (A * k) hp1
      have hE1 := Int.emod_lt_of_pos (A * k) (show 0 < p by omega)
      have hw2 : IntKind.i64.wrap (A * k % p) = A * k % p := i64_in _ (by omega)
      have hN := HSET.out (A * k % p) ⟨by omega, by omega⟩
      rw [hz.out] at hN
      have HN := Lib.hid hN
      clear hN
      have hjr : (j : Int) < rl.length := by omega
      go_wp2_with fail
      refine wp_region_noPanic (wp_region_el (fun w' => w'.cell? ⟨b, o, none⟩ = some (.slice (some ⟨g', o', none⟩) rl.length c0) ∧ w'.cell? ⟨g', o' + j, none⟩ = some (.int .i64 A)) [(0, 0), (1, 0), (2, 0), (3, 0), (4, 0), (5, 0), (6, 0), (7, 0), (8, 0), (9, 0), (10, 0), (11, 0), (12, 0), (13, 0), (14, 0), (15, 0), (16, 0), (17, 2)] (by kernel_rfl) (by kernel_rfl) (by kernel_rfl) rfl ?_ (fun _ _ _ _ _ h => h) ?_)
      · exact ⟨q0, hc⟩
      (repeat (first | (apply el_skip rfl (by rfl); try simp only [Act.put, List.setIfInBounds_toArray, List.set_cons_zero, List.set_cons_succ]) | (apply el_float rfl (by rfl); (· (intro w' hS; go_simp <;> with_reducible rfl)); (try simp only [Act.put, List.setIfInBounds_toArray, List.set_cons_zero, List.set_cons_succ]))))
      refine el_last rfl (by rfl) (fun K hK => ?_)
      go_wp2_with fail
      refine el_nil (NoPanic.normal ?_)
      go_wp2_with fail
      go_roundw
      case rel =>
        have hg : g' ∈ p0 := by rw [HPS.out]; simp
        have hgb : g' ≠ b := fun h => hn0 (h ▸ hg)
        have hgo : ∀ z, z ∈ p2 → z ∉ [g'] := fun z hz hz2 => by obtain rfl : z = g' := (by simpa using hz2); exact hd z hg hz
        have hst := (OnlyAt.refl [g'] wr.drew).setCell (p := ⟨g', o' + j, none⟩) (by simp) (.int .i64 (A * k % p))
        refine ⟨j + 1, by omega, by go_num, ?_, ?_, ?_, ?_⟩
        · exact (hon.out.drewN 1).trans (hst.mono (fun z hz => by obtain rfl : z = g' := (by simpa using hz); simp [hg]))
        · exact (hst.block b (by simp; exact fun h => hgb h.symm)).trans hbk.out
        · exact ownSl_heap HN.out rfl
        · exact ownSl_only (ownSl_heap (w' := wr.drew) hot.out rfl) hst hgo
      case measure => simp [intOf]; omega
    · obtain rfl : j = rl.length := by omega
      have ON := hon
      have BK := hbk
      have K0 := hme
      have K2 := hot
      clear hon hbk hme hot
      have q2 : wr.cell? ⟨b, o + 1, none⟩ = some (.int .i64 rr) := by rw [cell_at_block BK.out]; exact HC1.out
      have f2 : wr.frozen? ⟨b, o + 1, none⟩ = false := free_at_block BK.out
      have hm := small_mul gr1 gr1 hp hk0 hk
      rw [Int.mul_comm] at hm
      have hw1 : IntKind.i64.wrap (rr * k) = rr * k := i64_in _ (by omega)
      have hT : (rr * k).tmod p = rr * k % p := Int.tmod_eq_emod_of_nonneg (by omega)
      have hE0 := Int.emod_nonneg (rr * k) hp1
      have hE1 := Int.emod_lt_of_pos (rr * k) (show 0 < p by omega)
      have hw2 : IntKind.i64.wrap (rr * k % p) = rr * k % p := i64_in _ (by omega)
      go_wp2_with fail
      have hst : OnlyAt [b] wr (wr.setCell ⟨b, o + 1, none⟩ (.int .i64 (rr * k % p))) := ((OnlyAt.refl [b] wr).setCell (p := ⟨b, o + 1, none⟩) (by simp) (.int .i64 (rr * k % p)))
      have BK' : Hid ((wr.setCell ⟨b, o + 1, none⟩ (.int .i64 (rr * k % p))).heap[b]? = some (.cells (cur.setIfInBounds (o + 1) (.int .i64 (rr * k % p))) e (0, 0))) := heap_setCell_at _ _ _ _ _ _ _ BK.out
      have ON' : Hid (OnlyAt (b :: (p0 ++ p2)) w (wr.setCell ⟨b, o + 1, none⟩ (.int .i64 (rr * k % p)))) := ON.out.trans (hst.mono (fun z hz => by obtain rfl : z = b := (by simpa using hz); simp))
      have K0' := Lib.hid (ownSl_only K0.out hst (fun z hz hz2 => by obtain rfl : z = b := (by simpa using hz2); exact hn0 hz))
      have K2' := Lib.hid (ownSl_only K2.out hst (fun z hz hz2 => by obtain rfl : z = b := (by simpa using hz2); exact hn2 hz))
      clear BK ON K0 K2 hst q2 f2
      have BK := BK'
      have ON := ON'
      have K0 := K0'
      have K2 := K2'
      clear BK' ON' K0' K2'
      generalize hWR : (wr.setCell ⟨b, o + 1, none⟩ (.int .i64 (rr * k % p))) = WR at *
      clear hWR
      go_wp2_with fail
      go_loopw [7] (fun i wr => ∃ j : Nat, j ≤ rb.length ∧ i = .int .i64 j ∧ Hid (OnlyAt (b :: (p0 ++ p2)) w wr) ∧ Hid (wr.heap[b]? = some (.cells (cur.setIfInBounds (o + 1) (.int .i64 (rr * k % p))) e (0, 0))) ∧ Hid (OwnSl p2 wr (.slice a2 rb.length c2) (zipTo (fun a _ => a * k % p) rb rb j)) ∧ Hid (OwnSl p0 wr (.slice a0 rl.length c0) (zipTo (fun a _ => a * k % p) rl rl rl.length))) (fun i _ => rb.length - (intOf i).toNat)
      case atStart => exact ⟨0, Nat.zero_le _, rfl, ON.out, BK.out, by simpa [Hid, zipTo_zero] using K2.out, K0.out⟩
      case round =>
        obtain ⟨j, hj, rfl, hon, hbk, hme, hot⟩ := hrel
        have q0 : wr.cell? ⟨b, o + 2, none⟩ = some (.slice a2 rb.length c2) := by rw [cell_at_block hbk.out]; rw [Array.getElem?_setIfInBounds_ne (by omega)]; exact HC2.out
        by_cases hlt : j < rb.length
        · have hlq : j < rb.length := hlt
          obtain ⟨g', o', c', hv, hps, hc, hf, hI, hset⟩ := own_int_set hme.out j (by rw [zipTo_length _ _ _ _ (by omega) (by omega)]; omega)
          rw [zipTo_length _ _ _ _ (by omega) (by omega)] at hv
          simp only [Value.slice.injEq] at hv
          obtain ⟨rfl, -, rfl⟩ := hv
          rw [zipTo_get _ _ _ _ hlt (by omega)] at hc hI
          have gA := GR2.out.get j hlt
          have hz := Lib.hid (zipTo_succ (fun a _ => a * k % p) rb rb j hlt hlq)
          have HSET := Lib.hid hset
          have HPS := Lib.hid hps
          clear hset hps
          generalize hA : rb[j] = A at *
          clear hA
          have hm := small_mul gA gA hp hk0 hk
          rw [Int.mul_comm] at hm
          have hw1 : IntKind.i64.wrap (A * k) = A * k := i64_in _ (by omega)
          have hT : (A * k).tmod p = A * k % p := Int.tmod_eq_emod_of_nonneg (by omega)
          have hE0 := Int.emod_nonneg (A * k) hp1
          have hE1 := Int.emod_lt_of_pos (A * k) (show 0 < p by omega)
          have hw2 : IntKind.i64.wrap (A * k % p) = A * k % p := i64_in _ (by omega)
          have hN := HSET.out (A * k % p) ⟨by omega, by omega⟩
          rw [hz.out] at hN
          have HN := Lib.hid hN
          clear hN
          have hjr : (j : Int) < rb.length := by omega
          go_wp2_with fail
          refine wp_region_noPanic (wp_region_el (fun w' => w'.cell? ⟨b, o + 2, none⟩ = some (.slice (some ⟨g', o', none⟩) rb.length c2) ∧ w'.cell? ⟨g', o' + j, none⟩ = some (.int .i64 A)) [(0, 0), (1, 0), (2, 0), (3, 0), (4, 0), (5, 0), (6, 0), (7, 0), (8, 0), (9, 0), (10, 0), (11, 0), (12, 0), (13, 0), (14, 0), (15, 0), (16, 0), (17, 2)] (by kernel_rfl) (by kernel_rfl) (by kernel_rfl) rfl ?_ (fun _ _ _ _ _ h => h) ?_)
          · exact ⟨q0, hc⟩
          (repeat (first | (apply el_skip rfl (by rfl); try simp only [Act.put, List.setIfInBounds_toArray, List.set_cons_zero, List.set_cons_succ]) | (apply el_float rfl (by rfl); (· (intro w' hS; go_simp <;> with_reducible rfl)); (try simp only [Act.put, List.setIfInBounds_toArray, List.set_cons_zero, List.set_cons_succ]))))
          refine el_last rfl (by rfl) (fun K hK => ?_)
          go_wp2_with fail
          refine el_nil (NoPanic.normal ?_)
          go_wp2_with fail
          go_roundw
          case rel =>
            have hg : g' ∈ p2 := by rw [HPS.out]; simp
            have hgb : g' ≠ b := fun h => hn2 (h ▸ hg)
            have hgo : ∀ z, z ∈ p0 → z ∉ [g'] := fun z hz hz2 => by obtain rfl : z = g' := (by simpa using hz2); exact hd z hz hg
            have hst := (OnlyAt.refl [g'] wr.drew).setCell (p := ⟨g', o' + j, none⟩) (by simp) (.int .i64 (A * k % p))
            refine ⟨j + 1, by omega, by go_num, ?_, ?_, ?_, ?_⟩
            · exact (hon.out.drewN 1).trans (hst.mono (fun z hz => by obtain rfl : z = g' := (by simpa using hz); simp [hg]))
            · exact (hst.block b (by simp; exact fun h => hgb h.symm)).trans hbk.out
            · exact ownSl_heap HN.out rfl
            · exact ownSl_only (ownSl_heap (w' := wr.drew) hot.out rfl) hst hgo
          case measure => simp [intOf]; omega
        · obtain rfl : j = rb.length := by omega
          go_wp2_with fail
          refine bodyPost_end (v := .tuple #[]) (by simp [results, Try.results126, go_sem]) rfl ⟨rfl, ⟨hbk.out, ?_, ?_, ?_, ?_, ?_, hn0, hn2, hd⟩, hon.out⟩
          · rw [Array.getElem?_setIfInBounds_ne (by omega)]; exact HC0.out
          · rw [Array.getElem?_setIfInBounds_self_of_lt ob]
          · rw [Array.getElem?_setIfInBounds_ne (by omega)]; exact HC2.out
          · have h := hot.out
            rw [zipTo_all _ _ _ (Nat.le_refl _)] at h
            exact h
          · have h := hme.out
            rw [zipTo_all _ _ _ (Nat.le_refl _)] at h
            exact h

end Go.Proofs.Ytoblfnoaepbhfaa
