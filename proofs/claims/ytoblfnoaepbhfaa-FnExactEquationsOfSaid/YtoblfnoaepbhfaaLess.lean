/-
  CONTRACT: (*l07Row).less of the reference. (Printed by wip/genrow.py.)
-/
import Derived.Test.YtoblfnoaepbhfaaSRow
namespace Go.Proofs.Ytoblfnoaepbhfaa
open Go.RowKit Go.Shelf Go.IntWalk
open Rep (Rd Own sz)
set_option linter.unusedSimpArgs false
set_option linter.unusedVariables false


set_option maxRecDepth 100000 in
set_option maxHeartbeats 4000000 in
theorem less_c (p k : Int) (r q : SRow) (b o b2 o2 : Nat) (cur : Array Value) (e : TypeId) (p0 p2 : List Nat) (v0 v2 u0 u2 : Value) (w : World) (hr : RowIn w b o cur e p0 p2 v0 v2 r)
    (hoth : ∀ w' x, OnlyAt (b :: (p0 ++ p2)) w w' → w'.heap[b]? = some (.cells (cur.setIfInBounds (o + 1) (.int .i64 x)) e (0, 0)) → OthIn w' b2 o2 u0 u2 q)
    (hp0 : 2 ≤ p) (hp : p ≤ 3) (hk0 : 0 ≤ k) (hk : k ≤ 100) (gr : Res p r.1) (gr1 : 0 ≤ r.2.1 ∧ r.2.1 < p) (gr2 : Res p r.2.2) (gq : Res p q.1) (gq1 : 0 ≤ q.2.1 ∧ q.2.1 < p) (gq2 : Res p q.2.2) (l1 : r.1.length = q.1.length) (l2 : r.2.2.length = q.2.2.length) :
    Calls Try.prog 127 #[.pointer (some ⟨b, o, none⟩), .pointer (some ⟨b2, o2, none⟩), .int .i64 k, .int .i64 p] w fun en w' => en = .returned (.tuple #[]) ∧ RowIn w' b o (cur.setIfInBounds (o + 1) (.int .i64 (lessS p k r q).2.1)) e p0 p2 v0 v2 (lessS p k r q) ∧ OnlyAt (b :: (p0 ++ p2)) w w' := by
  obtain ⟨rl, rr, rb⟩ := r
  obtain ⟨ql, qr, qb⟩ := q
  have hrow := hr
  obtain ⟨hblk, hc0, hc1, hc2, ho0, ho2, hn0, hn2, hd⟩ := hr
  obtain ⟨a0, c0, rfl, hm0⟩ := ownSl_len ho0
  obtain ⟨a2, c2, rfl, hm2⟩ := ownSl_len ho2
  unfold maxLen at hm0 hm2
  simp only at gr gr1 gr2 gq gq1 gq2 l1 l2 hm0 hm2 hc1
  have BLK := Lib.hid hblk
  have HC0 := Lib.hid hc0
  have HC1 := Lib.hid hc1
  have HC2 := Lib.hid hc2
  have O0 := Lib.hid ho0
  have O2 := Lib.hid ho2
  have GR := Lib.hid gr
  have GR2 := Lib.hid gr2
  have ob : o + 1 < cur.size := (Array.getElem?_eq_some_iff.1 hc1).1
  have GQ := Lib.hid gq
  have GQ2 := Lib.hid gq2
  have L1 := Lib.hid l1
  have L2 := Lib.hid l2
  have HO := Lib.hid hoth
  clear gq gq2 hoth l1 l2
  clear hblk hc0 hc1 hc2 ho0 ho2 gr gr2 hrow
  have hp1 : p ≠ 0 := by omega
  have hp2 : (p == 0) = false := by simpa using hp1
  go_enter Try.func127, Try.ntmps127
  go_wp2_with fail
  go_loopw [8] (fun i wr => ∃ j : Nat, j ≤ rl.length ∧ i = .int .i64 j ∧ Hid (OnlyAt (b :: (p0 ++ p2)) w wr) ∧ Hid (wr.heap[b]? = some (.cells (cur) e (0, 0))) ∧ Hid (OwnSl p0 wr (.slice a0 rl.length c0) (zipTo (fun a b => (a - k * b) % p) rl ql j)) ∧ Hid (OwnSl p2 wr (.slice a2 rb.length c2) (rb))) (fun i _ => rl.length - (intOf i).toNat)
  case atStart => exact ⟨0, Nat.zero_le _, rfl, OnlyAt.refl _ _, BLK.out, by simpa [Hid, zipTo_zero] using O0.out, O2.out⟩
  case round =>
    obtain ⟨j, hj, rfl, hon, hbk, hme, hot⟩ := hrel
    have q0 : wr.cell? ⟨b, o, none⟩ = some (.slice a0 rl.length c0) := by rw [cell_at_block hbk.out]; exact HC0.out
    by_cases hlt : j < rl.length
    · have hlq : j < ql.length := by rw [← L1.out]; exact hlt
      obtain ⟨q1, q2, q3, rd0, rd2⟩ := HO.out wr rr hon.out (by rw [hbk.out]; rw [set_same cur (o + 1) _ HC1.out])
      have RD := Lib.hid rd0
      obtain ⟨a3, c3, rfl, _⟩ := rd_list RD.out
      obtain ⟨b3, o3, rfl, q4, hIq⟩ := rd_int_at RD.out j hlq
      clear rd0 rd2
      obtain ⟨g', o', c', hv, hps, hc, hf, hI, hset⟩ := own_int_set hme.out j (by rw [zipTo_length _ _ _ _ (by omega) (by omega)]; omega)
      rw [zipTo_length _ _ _ _ (by omega) (by omega)] at hv
      simp only [Value.slice.injEq] at hv
      obtain ⟨rfl, -, rfl⟩ := hv
      rw [zipTo_get _ _ _ _ hlt (by omega)] at hc hI
      have gA := GR.out.get j hlt
      have gB := GQ.out.get j hlq
      have hz := Lib.hid (zipTo_succ (fun a b => (a - k * b) % p) rl ql j hlt hlq)
      have HSET := Lib.hid hset
      have HPS := Lib.hid hps
      clear hset hps
      generalize hA : rl[j] = A at *
      generalize hB : ql[j] = B at *
      clear hA hB
      have hm := small_mul gA gB hp hk0 hk
      have hw1 : IntKind.i64.wrap (k * B) = k * B := i64_in _ (by omega)
      have hw2 : IntKind.i64.wrap (A - k * B) = A - k * B := i64_in _ (by omega)
      have hE0 := Int.emod_nonneg (A - k * B) hp1
      have hE1 := Int.emod_lt_of_pos (A - k * B) (show 0 < p by omega)
      have hN := HSET.out ((A - k * B) % p) ⟨by omega, by omega⟩
      rw [hz.out] at hN
      have HN := Lib.hid hN
      clear hN
      have hjr : (j : Int) < rl.length := by omega
      have hjq : (j : Int) < ql.length := by omega
      go_wp2_with fail
      refine wp_region_noPanic (wp_region_el (fun w' => w'.cell? ⟨b, o, none⟩ = some (.slice (some ⟨g', o', none⟩) rl.length c0) ∧ w'.cell? ⟨g', o' + j, none⟩ = some (.int .i64 A) ∧ w'.cell? ⟨b2, o2, none⟩ = some (.slice (some ⟨b3, o3, none⟩) ql.length c3) ∧ w'.cell? ⟨b3, o3 + j, none⟩ = some (.int .i64 B)) [(0, 0), (1, 0), (2, 0), (3, 0), (4, 0), (5, 0), (6, 0), (7, 0), (8, 0), (9, 0), (10, 0), (11, 0), (12, 0), (13, 0), (14, 0), (15, 0), (16, 0), (17, 0), (18, 0), (19, 0), (20, 0), (21, 0), (22, 0), (23, 1), (24, 0), (25, 2)] (by kernel_rfl) (by kernel_rfl) (by kernel_rfl) rfl ?_ (fun _ _ _ _ _ h => h) ?_)
      · exact ⟨q0, hc, q1, q4⟩
      (repeat (first | (apply el_skip rfl (by rfl); try simp only [Act.put, List.setIfInBounds_toArray, List.set_cons_zero, List.set_cons_succ]) | (apply el_float rfl (by rfl); (· (intro w' hS; go_simp <;> with_reducible rfl)); (try simp only [Act.put, List.setIfInBounds_toArray, List.set_cons_zero, List.set_cons_succ]))))
      refine el_hard rfl (by rfl) (fun K hK => ?_)
      go_wp2_with (go_at_call 56; refine (l07Mod_c _ p _ (by omega) (by omega)).mono ?_; rintro e1 w1 ⟨rfl, rfl⟩)
      refine ⟨⟨q0, hc, q1, q4⟩, ?_⟩
      (repeat (first | (apply el_skip rfl (by rfl); try simp only [Act.put, List.setIfInBounds_toArray, List.set_cons_zero, List.set_cons_succ]) | (apply el_float rfl (by rfl); (· (intro w' hS; go_simp <;> with_reducible rfl)); (try simp only [Act.put, List.setIfInBounds_toArray, List.set_cons_zero, List.set_cons_succ]))))
      refine el_last rfl (by rfl) (fun K hK => ?_)
      go_wp2_with fail
      refine el_nil (NoPanic.normal ?_)
      go_wp2_with fail
      go_roundw
      case rel =>
        have hg : g' ∈ p0 := by rw [HPS.out]; simp
        have hgb : g' ≠ b := fun h => hn0 (h ▸ hg)
        have hgo : ∀ z, z ∈ p2 → z ∉ [g'] := fun z hz hz2 => by obtain rfl : z = g' := (by simpa using hz2); exact hd z hg hz
        have hst := (OnlyAt.refl [g'] wr.drew).setCell (p := ⟨g', o' + j, none⟩) (by simp) (.int .i64 ((A - k * B) % p))
        refine ⟨j + 1, by omega, by go_num, ?_, ?_, ?_, ?_⟩
        · exact (hon.out.drewN 1).trans (hst.mono (fun z hz => by obtain rfl : z = g' := (by simpa using hz); simp [hg]))
        · exact (hst.block b (by simp; exact fun h => hgb h.symm)).trans hbk.out
        · exact ownSl_heap HN.out rfl
        · exact ownSl_only (ownSl_heap (w' := wr.drew) hot.out rfl) hst hgo
      case measure => simp [intOf]; omega
    · obtain rfl : j = rl.length := by omega
      have ON := hon
      have BK := hbk
      have K0 := hme
      have K2 := hot
      clear hon hbk hme hot
      have q2 : wr.cell? ⟨b, o + 1, none⟩ = some (.int .i64 rr) := by rw [cell_at_block BK.out]; exact HC1.out
      have f2 : wr.frozen? ⟨b, o + 1, none⟩ = false := free_at_block BK.out
      obtain ⟨s1, s2, s3, -, -⟩ := HO.out wr rr ON.out (by rw [BK.out]; rw [set_same cur (o + 1) _ HC1.out])
      clear s1 s3
      have hm := small_mul gr1 gq1 hp hk0 hk
      have hw1 : IntKind.i64.wrap (k * qr) = k * qr := i64_in _ (by omega)
      have hw2 : IntKind.i64.wrap (rr - k * qr) = rr - k * qr := i64_in _ (by omega)
      have hE0 := Int.emod_nonneg (rr - k * qr) hp1
      have hE1 := Int.emod_lt_of_pos (rr - k * qr) (show 0 < p by omega)
      go_wp2_with fail
      refine wp_region_noPanic (wp_region_el (fun w' => w'.cell? ⟨b, o + 1, none⟩ = some (.int .i64 rr) ∧ w'.cell? ⟨b2, o2 + 1, none⟩ = some (.int .i64 qr)) [(0, 0), (1, 0), (2, 0), (3, 0), (4, 0), (5, 0), (6, 0), (7, 0), (8, 0), (9, 0), (10, 0), (11, 0), (12, 0), (13, 1), (14, 0), (15, 0), (16, 2)] (by kernel_rfl) (by kernel_rfl) (by kernel_rfl) rfl ?_ (fun _ _ _ _ _ h => h) ?_)
      · exact ⟨q2, s2⟩
      (repeat (first | (apply el_skip rfl (by rfl); try simp only [Act.put, List.setIfInBounds_toArray, List.set_cons_zero, List.set_cons_succ]) | (apply el_float rfl (by rfl); (· (intro w' hS; go_simp <;> with_reducible rfl)); (try simp only [Act.put, List.setIfInBounds_toArray, List.set_cons_zero, List.set_cons_succ]))))
      refine el_hard rfl (by rfl) (fun K hK => ?_)
      go_wp2_with (go_at_call 56; refine (l07Mod_c _ p _ (by omega) (by omega)).mono ?_; rintro e1 w1 ⟨rfl, rfl⟩)
      refine ⟨⟨q2, s2⟩, ?_⟩
      (repeat (first | (apply el_skip rfl (by rfl); try simp only [Act.put, List.setIfInBounds_toArray, List.set_cons_zero, List.set_cons_succ]) | (apply el_float rfl (by rfl); (· (intro w' hS; go_simp <;> with_reducible rfl)); (try simp only [Act.put, List.setIfInBounds_toArray, List.set_cons_zero, List.set_cons_succ]))))
      refine el_last rfl (by rfl) (fun K hK => ?_)
      go_wp2_with fail
      refine el_nil (NoPanic.normal ?_)
      have hst : OnlyAt [b] wr (wr.setCell ⟨b, o + 1, none⟩ (.int .i64 ((rr - k * qr) % p))).drew := ((OnlyAt.refl [b] wr).setCell (p := ⟨b, o + 1, none⟩) (by simp) (.int .i64 ((rr - k * qr) % p))).drewN 1
      have BK' : Hid ((wr.setCell ⟨b, o + 1, none⟩ (.int .i64 ((rr - k * qr) % p))).drew.heap[b]? = some (.cells (cur.setIfInBounds (o + 1) (.int .i64 ((rr - k * qr) % p))) e (0, 0))) := heap_setCell_at _ _ _ _ _ _ _ BK.out
      have ON' : Hid (OnlyAt (b :: (p0 ++ p2)) w (wr.setCell ⟨b, o + 1, none⟩ (.int .i64 ((rr - k * qr) % p))).drew) := ON.out.trans (hst.mono (fun z hz => by obtain rfl : z = b := (by simpa using hz); simp))
      have K0' := Lib.hid (ownSl_only K0.out hst (fun z hz hz2 => by obtain rfl : z = b := (by simpa using hz2); exact hn0 hz))
      have K2' := Lib.hid (ownSl_only K2.out hst (fun z hz hz2 => by obtain rfl : z = b := (by simpa using hz2); exact hn2 hz))
      clear BK ON K0 K2 hst q2 f2
      have BK := BK'
      have ON := ON'
      have K0 := K0'
      have K2 := K2'
      clear BK' ON' K0' K2'
      generalize hWR : (wr.setCell ⟨b, o + 1, none⟩ (.int .i64 ((rr - k * qr) % p))).drew = WR at *
      clear hWR
      go_wp2_with fail
      go_loopw [9] (fun i wr => ∃ j : Nat, j ≤ rb.length ∧ i = .int .i64 j ∧ Hid (OnlyAt (b :: (p0 ++ p2)) w wr) ∧ Hid (wr.heap[b]? = some (.cells (cur.setIfInBounds (o + 1) (.int .i64 ((rr - k * qr) % p))) e (0, 0))) ∧ Hid (OwnSl p2 wr (.slice a2 rb.length c2) (zipTo (fun a b => (a - k * b) % p) rb qb j)) ∧ Hid (OwnSl p0 wr (.slice a0 rl.length c0) (zipTo (fun a b => (a - k * b) % p) rl ql rl.length))) (fun i _ => rb.length - (intOf i).toNat)
      case atStart => exact ⟨0, Nat.zero_le _, rfl, ON.out, BK.out, by simpa [Hid, zipTo_zero] using K2.out, K0.out⟩
      case round =>
        obtain ⟨j, hj, rfl, hon, hbk, hme, hot⟩ := hrel
        have q0 : wr.cell? ⟨b, o + 2, none⟩ = some (.slice a2 rb.length c2) := by rw [cell_at_block hbk.out]; rw [Array.getElem?_setIfInBounds_ne (by omega)]; exact HC2.out
        by_cases hlt : j < rb.length
        · have hlq : j < qb.length := by rw [← L2.out]; exact hlt
          obtain ⟨q1, q2, q3, rd0, rd2⟩ := HO.out wr _ hon.out (by rw [hbk.out])
          have RD := Lib.hid rd2
          obtain ⟨a3, c3, rfl, _⟩ := rd_list RD.out
          obtain ⟨b3, o3, rfl, q4, hIq⟩ := rd_int_at RD.out j hlq
          clear rd0 rd2
          obtain ⟨g', o', c', hv, hps, hc, hf, hI, hset⟩ := own_int_set hme.out j (by rw [zipTo_length _ _ _ _ (by omega) (by omega)]; omega)
          rw [zipTo_length _ _ _ _ (by omega) (by omega)] at hv
          simp only [Value.slice.injEq] at hv
          obtain ⟨rfl, -, rfl⟩ := hv
          rw [zipTo_get _ _ _ _ hlt (by omega)] at hc hI
          have gA := GR2.out.get j hlt
          have gB := GQ2.out.get j hlq
          have hz := Lib.hid (zipTo_succ (fun a b => (a - k * b) % p) rb qb j hlt hlq)
          have HSET := Lib.hid hset
          have HPS := Lib.hid hps
          clear hset hps
          generalize hA : rb[j] = A at *
          generalize hB : qb[j] = B at *
          clear hA hB
          have hm := small_mul gA gB hp hk0 hk
          have hw1 : IntKind.i64.wrap (k * B) = k * B := i64_in _ (by omega)
          have hw2 : IntKind.i64.wrap (A - k * B) = A - k * B := i64_in _ (by omega)
          have hE0 := Int.emod_nonneg (A - k * B) hp1
          have hE1 := Int.emod_lt_of_pos (A - k * B) (show 0 < p by omega)
          have hN := HSET.out ((A - k * B) % p) ⟨by omega, by omega⟩
          rw [hz.out] at hN
          have HN := Lib.hid hN
          clear hN
          have hjr : (j : Int) < rb.length := by omega
          have hjq : (j : Int) < qb.length := by omega
          go_wp2_with fail
          refine wp_region_noPanic (wp_region_el (fun w' => w'.cell? ⟨b, o + 2, none⟩ = some (.slice (some ⟨g', o', none⟩) rb.length c2) ∧ w'.cell? ⟨g', o' + j, none⟩ = some (.int .i64 A) ∧ w'.cell? ⟨b2, o2 + 2, none⟩ = some (.slice (some ⟨b3, o3, none⟩) qb.length c3) ∧ w'.cell? ⟨b3, o3 + j, none⟩ = some (.int .i64 B)) [(0, 0), (1, 0), (2, 0), (3, 0), (4, 0), (5, 0), (6, 0), (7, 0), (8, 0), (9, 0), (10, 0), (11, 0), (12, 0), (13, 0), (14, 0), (15, 0), (16, 0), (17, 0), (18, 0), (19, 0), (20, 0), (21, 0), (22, 0), (23, 1), (24, 0), (25, 2)] (by kernel_rfl) (by kernel_rfl) (by kernel_rfl) rfl ?_ (fun _ _ _ _ _ h => h) ?_)
          · exact ⟨q0, hc, q3, q4⟩
          (repeat (first | (apply el_skip rfl (by rfl); try simp only [Act.put, List.setIfInBounds_toArray, List.set_cons_zero, List.set_cons_succ]) | (apply el_float rfl (by rfl); (· (intro w' hS; go_simp <;> with_reducible rfl)); (try simp only [Act.put, List.setIfInBounds_toArray, List.set_cons_zero, List.set_cons_succ]))))
          refine el_hard rfl (by rfl) (fun K hK => ?_)
          go_wp2_with (go_at_call 56; refine (l07Mod_c _ p _ (by omega) (by omega)).mono ?_; rintro e1 w1 ⟨rfl, rfl⟩)
          refine ⟨⟨q0, hc, q3, q4⟩, ?_⟩
          (repeat (first | (apply el_skip rfl (by rfl); try simp only [Act.put, List.setIfInBounds_toArray, List.set_cons_zero, List.set_cons_succ]) | (apply el_float rfl (by rfl); (· (intro w' hS; go_simp <;> with_reducible rfl)); (try simp only [Act.put, List.setIfInBounds_toArray, List.set_cons_zero, List.set_cons_succ]))))
          refine el_last rfl (by rfl) (fun K hK => ?_)
          go_wp2_with fail
          refine el_nil (NoPanic.normal ?_)
          go_wp2_with fail
          go_roundw
          case rel =>
            have hg : g' ∈ p2 := by rw [HPS.out]; simp
            have hgb : g' ≠ b := fun h => hn2 (h ▸ hg)
            have hgo : ∀ z, z ∈ p0 → z ∉ [g'] := fun z hz hz2 => by obtain rfl : z = g' := (by simpa using hz2); exact hd z hz hg
            have hst := (OnlyAt.refl [g'] wr.drew).setCell (p := ⟨g', o' + j, none⟩) (by simp) (.int .i64 ((A - k * B) % p))
            refine ⟨j + 1, by omega, by go_num, ?_, ?_, ?_, ?_⟩
            · exact (hon.out.drewN 1).trans (hst.mono (fun z hz => by obtain rfl : z = g' := (by simpa using hz); simp [hg]))
            · exact (hst.block b (by simp; exact fun h => hgb h.symm)).trans hbk.out
            · exact ownSl_heap HN.out rfl
            · exact ownSl_only (ownSl_heap (w' := wr.drew) hot.out rfl) hst hgo
          case measure => simp [intOf]; omega
        · obtain rfl : j = rb.length := by omega
          go_wp2_with fail
          refine bodyPost_end (v := .tuple #[]) (by simp [results, Try.results127, go_sem]) rfl ⟨rfl, ⟨hbk.out, ?_, ?_, ?_, ?_, ?_, hn0, hn2, hd⟩, hon.out⟩
          · rw [Array.getElem?_setIfInBounds_ne (by omega)]; exact HC0.out
          · rw [Array.getElem?_setIfInBounds_self_of_lt ob]
          · rw [Array.getElem?_setIfInBounds_ne (by omega)]; exact HC2.out
          · have h := hot.out
            rw [zipTo_all _ _ _ (Nat.le_of_eq L1.out)] at h
            exact h
          · have h := hme.out
            rw [zipTo_all _ _ _ (Nat.le_of_eq L2.out)] at h
            exact h

end Go.Proofs.Ytoblfnoaepbhfaa
