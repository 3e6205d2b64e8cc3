/-
  CONTRACT: (row).addTimes of the program.
-/
import Derived.Test.YtoblfnoaepbhfaaRowD
import Derived.Test.YtoblfnoaepbhfaaClone
import Derived.Test.YtoblfnoaepbhfaaBase
import Derived.Deep.RegionHeld3
import Derived.Deep.DeepCutAuto
namespace Go.Proofs.Ytoblfnoaepbhfaa
open Go.RowKit Go.Shelf Go.IntWalk
open Rep (Rd Own sz)
set_option linter.unusedSimpArgs false
set_option linter.unusedVariables false

set_option maxRecDepth 100000 in
set_option maxHeartbeats 2000000 in
theorem addTimes_c (p k : Int) (r s : RowT) (v0 v1 u0 u1 : Value) (w : World) (hr : Rd w [v0, v1] r) (hs' : Rd w [u0, u1] s) (h1 : r.1.length ≤ 1000000) (h2 : r.2.length ≤ 1000000)
    (hp0 : 2 ≤ p) (hp : p ≤ 3) (hk0 : 0 ≤ k) (hk : k ≤ 100) (rr1 : Res p r.1) (rr2 : Res p r.2) (rs1 : Res p s.1) (rs2 : Res p s.2) (hl1 : s.1.length ≤ r.1.length) (hl2 : s.2.length ≤ r.2.length) :
    Calls Try.prog 138 #[.agg #[v0, v1], .int .i64 p, .agg #[u0, u1], .int .i64 k] w fun e w' => ∃ o0 o1, e = .returned (.agg #[o0, o1]) ∧ Fresh w.heap.size w' [o0, o1] (addR p k r s) ∧ Below w.heap.size w w' := by
  obtain ⟨r0, r1⟩ := r
  obtain ⟨s0, s1⟩ := s
  have z := rd_cons rfl hr
  have R0 := Lib.hid z.1
  have R1 := Lib.hid z.2
  obtain ⟨a0, c0, rfl, _⟩ := rd_list R0.out
  obtain ⟨a1, c1, rfl, _⟩ := rd_list R1.out
  have z' := rd_cons rfl hs'
  have S0 := Lib.hid z'.1
  have S1 := Lib.hid z'.2
  obtain ⟨b0, d0x, rfl, _⟩ := rd_list S0.out
  obtain ⟨b1, d1x, rfl, _⟩ := rd_list S1.out
  clear hr hs' z z'
  simp only at h1 h2 R0 R1 S0 S1 rr1 rr2 rs1 rs2 hl1 hl2
  have RR1 := Lib.hid rr1
  have RR2 := Lib.hid rr2
  have RS1 := Lib.hid rs1
  have RS2 := Lib.hid rs2
  clear rr1 rr2 rs1 rs2
  have hs := (((St.start w).alloc #[.slice a0 r0.length c0, .slice a1 r1.length c1] 160 rfl).alloc #[.slice b0 s0.length d0x, .slice b1 s1.length d1x] 160 (n := w.heap.size + 1) (by simp)).alloc #[.slice none 0 0, .slice none 0 0] 160 (n := w.heap.size + 1 + 1) (by simp)
  go_enter Try.func138, Try.ntmps138
  go_wp2_with fail
  go_cut [9] (fun bx wx => ∃ g d0 e0 d1 e1 l0 t0 l1 t1, bx = .pointer (some ⟨g, 0, none⟩) ∧ Hid (St w wx.heap.size wx [(w.heap.size, #[.slice a0 r0.length c0, .slice a1 r1.length c1], 160), (w.heap.size + 1, #[.slice b0 s0.length d0x, .slice b1 s1.length d1x], 160), (w.heap.size + 1 + 1, #[.slice none 0 0, .slice none 0 0], 160), (g, #[.slice d0 r0.length e0, .slice d1 r1.length e1], 160)]) ∧ Hid (Iv l0 t0 wx [.slice d0 r0.length e0] r0) ∧ Hid (Iv l1 t1 wx [.slice d1 r1.length e1] r1) ∧ Hid (w.heap.size + 3 ≤ l0 ∧ t0 ≤ l1 ∧ (g < l0 ∨ t0 ≤ g) ∧ (g < l1 ∨ t1 ≤ g) ∧ w.heap.size + 3 ≤ g ∧ l0 ≤ t0 ∧ l1 ≤ t1 ∧ t1 ≤ wx.heap.size))
  case first =>
    refine wp_region_noPanic (wp_region_tree (fun w' => w'.cell? ⟨w.heap.size, 0, none⟩ = some (.slice a0 r0.length c0) ∧ w'.cell? ⟨w.heap.size, 1, none⟩ = some (.slice a1 r1.length c1)) (.float 0 (.float 1 (.float 3 (.float 4 (.fork2 2 (.fork2 5 (.float 6 (.hard 7 (.last 8 .nil))) 7 (.hard 5 (.float 6 (.last 8 .nil)))) 7 (.hard 2 (.hard 5 (.float 6 (.last 8 .nil))))))))) (by kernel_rfl) (by kernel_rfl) (by kernel_rfl) rfl ?_ (fun _ _ _ _ _ h => h) ?_)
    · exact ⟨(hs.drew).cellAt 0 rfl 0 rfl, (hs.drew).cellAt 0 rfl 1 rfl⟩
    have hsd := hs.drew
    (repeat (first | (apply tr_skip rfl (by rfl); try simp only [Act.put, List.setIfInBounds_toArray, List.set_cons_zero, List.set_cons_succ]) | (apply tr_float rfl (by rfl); (· (intro w' hS; go_simp <;> with_reducible rfl)); (try simp only [Act.put, List.setIfInBounds_toArray, List.set_cons_zero, List.set_cons_succ]))))
    refine tr_fork2 ?_ ?_
    · refine tr_hard rfl (by rfl) (fun K hK => ?_)
      go_wp2_with (go_at_call 100; refine (cloneInts_c r0 _ _ (Rd.mono R0.out hsd.bel) (by omega)).mono ?_; rintro e w4 ⟨b4, rfl, fr4, hb4⟩)
      have hs4 := hsd.step hb4
      obtain ⟨m4, n4, rfl, _⟩ := rd_list fr4.rd
      refine ⟨⟨hs4.cellAt 0 rfl 0 rfl, hs4.cellAt 0 rfl 1 rfl⟩, ?_⟩
      (repeat (first | (apply tr_skip rfl (by rfl); try simp only [Act.put, List.setIfInBounds_toArray, List.set_cons_zero, List.set_cons_succ]) | (apply tr_float rfl (by rfl); (· (intro w' hS; go_simp <;> with_reducible rfl)); (try simp only [Act.put, List.setIfInBounds_toArray, List.set_cons_zero, List.set_cons_succ]))))
      refine tr_fork2 ?_ ?_
      · refine tr_hard rfl (by rfl) (fun K hK => ?_)
        go_wp2_with (go_at_call 100; refine (cloneInts_c r1 _ _ (Rd.mono R1.out hs4.bel) (by omega)).mono ?_; rintro e w5 ⟨b5, rfl, fr5, hb5⟩)
        have hs5 := hs4.step hb5
        obtain ⟨m5, n5, rfl, _⟩ := rd_list fr5.rd
        refine ⟨⟨hs5.cellAt 0 rfl 0 rfl, hs5.cellAt 0 rfl 1 rfl⟩, ?_⟩
        (repeat (first | (apply tr_skip rfl (by rfl); try simp only [Act.put, List.setIfInBounds_toArray, List.set_cons_zero, List.set_cons_succ]) | (apply tr_float rfl (by rfl); (· (intro w' hS; go_simp <;> with_reducible rfl)); (try simp only [Act.put, List.setIfInBounds_toArray, List.set_cons_zero, List.set_cons_succ]))))
        refine tr_hard rfl (by rfl) (fun K hK => ?_)
        go_wp2_with fail
        refine ⟨⟨cellL (belowA _ _) (hs5.cellAt 0 rfl 0 rfl), cellL (belowA _ _) (hs5.cellAt 0 rfl 1 rfl)⟩, ?_⟩
        refine tr_last rfl (by rfl) (fun K hK => ?_)
        go_wp2
        refine tr_nil (NoPanic.normal ?_)
        go_wp2_with fail
        go_meet
        case rel =>
          have z4 := hb4.size
          have z5 := hb5.size
          have e4 : w.heap.size + 3 ≤ w4.heap.size := hs4.hi
          have hs6 := (hs5.up (B' := w5.heap.size) hs5.hi (Nat.le_refl _)).alloc #[.slice m4 r0.length n4, .slice m5 r1.length n5] 160 rfl
          exact ⟨w5.heap.size, m4, n4, m5, n5, _, _, _, _, rfl, by simpa [Hid] using hs6, ((Fresh.iv fr4).mono hb5).mono (belowA _ _), (Fresh.iv fr5).mono (belowA _ _), by simp [Hid]; omega⟩
      · refine tr_hard rfl (by rfl) (fun K hK => ?_)
        go_wp2_with fail
        have hs6 := (hs4.up (B' := _) hs4.hi (Nat.le_refl _)).alloc #[.slice none 0 0, .slice none 0 0] 160 rfl
        refine ⟨⟨hs6.cellAt 0 rfl 0 rfl, hs6.cellAt 0 rfl 1 rfl⟩, ?_⟩
        (repeat (first | (apply tr_skip rfl (by rfl); try simp only [Act.put, List.setIfInBounds_toArray, List.set_cons_zero, List.set_cons_succ]) | (apply tr_float rfl (by rfl); (· (intro w' hS; go_simp <;> with_reducible rfl)); (try simp only [Act.put, List.setIfInBounds_toArray, List.set_cons_zero, List.set_cons_succ]))))
        refine tr_hard rfl (by rfl) (fun K hK => ?_)
        go_wp2_with (go_at_call 100; refine (cloneInts_c r1 _ _ (Rd.mono R1.out hs6.bel) (by omega)).mono ?_; rintro e w5 ⟨b5, rfl, fr5, hb5⟩)
        have hs7 := hs6.step hb5
        obtain ⟨m5, n5, rfl, _⟩ := rd_list fr5.rd
        refine ⟨⟨hs7.cellAt 0 rfl 0 rfl, hs7.cellAt 0 rfl 1 rfl⟩, ?_⟩
        (repeat (first | (apply tr_skip rfl (by rfl); try simp only [Act.put, List.setIfInBounds_toArray, List.set_cons_zero, List.set_cons_succ]) | (apply tr_float rfl (by rfl); (· (intro w' hS; go_simp <;> with_reducible rfl)); (try simp only [Act.put, List.setIfInBounds_toArray, List.set_cons_zero, List.set_cons_succ]))))
        have f0 := hs7.freeAt 3 rfl 0
        have f1 := hs7.freeAt 3 rfl 1
        have k0 := hs7.cellAt 3 rfl 0 rfl
        have k1 := hs7.cellAt 3 rfl 1 rfl
        refine tr_last rfl (by rfl) (fun K hK => ?_)
        go_wp2
        refine tr_nil (NoPanic.normal ?_)
        go_wp2_with fail
        go_meet
        case rel =>
          have z4 := hb4.size
          have z5 := hb5.size
          have e4 : w.heap.size + 3 ≤ w4.heap.size := hs4.hi
          have x1 := hs7.set (p := [_, _, _]) (by simp <;> omega) 0 (.slice m4 r0.length n4)
          have x2 := x1.set (p := [_, _, _]) (by simp <;> omega) 1 (.slice m5 r1.length n5)
          have i4 := ((Fresh.iv fr4).mono (belowA _ _)).mono hb5
          have i5 := Fresh.iv fr5
          have j4 := (i4.setOut (a := ⟨w4.heap.size, 0, none⟩) (.inr (Nat.le_refl _)) (.slice m4 r0.length n4)).setOut (a := ⟨w4.heap.size, 1, none⟩) (.inr (Nat.le_refl _)) (.slice m5 r1.length n5)
          have j5 := (i5.setOut (a := ⟨w4.heap.size, 0, none⟩) (.inl (by simp)) (.slice m4 r0.length n4)).setOut (a := ⟨w4.heap.size, 1, none⟩) (.inl (by simp)) (.slice m5 r1.length n5)
          exact ⟨w4.heap.size, m4, n4, m5, n5, _, _, _, _, rfl, x2.up (B' := _) x2.hi (Nat.le_refl _), j4, j5, by simp [Hid, World.setCell] at z4 z5 ⊢; omega⟩
    · refine tr_hard rfl (by rfl) (fun K hK => ?_)
      go_wp2_with fail
      have hs3 := hsd.alloc #[.slice none 0 0, .slice none 0 0] 160 (n := w.heap.size + 1 + 1 + 1) (by simp)
      refine ⟨⟨hs3.cellAt 0 rfl 0 rfl, hs3.cellAt 0 rfl 1 rfl⟩, ?_⟩
      (repeat (first | (apply tr_skip rfl (by rfl); try simp only [Act.put, List.setIfInBounds_toArray, List.set_cons_zero, List.set_cons_succ]) | (apply tr_float rfl (by rfl); (· (intro w' hS; go_simp <;> with_reducible rfl)); (try simp only [Act.put, List.setIfInBounds_toArray, List.set_cons_zero, List.set_cons_succ]))))
      refine tr_hard rfl (by rfl) (fun K hK => ?_)
      go_wp2_with (go_at_call 100; refine (cloneInts_c r0 _ _ (Rd.mono R0.out hs3.bel) (by omega)).mono ?_; rintro e w4 ⟨b4, rfl, fr4, hb4⟩)
      have hs4 := hs3.step hb4
      obtain ⟨m4, n4, rfl, _⟩ := rd_list fr4.rd
      refine ⟨⟨hs4.cellAt 0 rfl 0 rfl, hs4.cellAt 0 rfl 1 rfl⟩, ?_⟩
      (repeat (first | (apply tr_skip rfl (by rfl); try simp only [Act.put, List.setIfInBounds_toArray, List.set_cons_zero, List.set_cons_succ]) | (apply tr_float rfl (by rfl); (· (intro w' hS; go_simp <;> with_reducible rfl)); (try simp only [Act.put, List.setIfInBounds_toArray, List.set_cons_zero, List.set_cons_succ]))))
      refine tr_hard rfl (by rfl) (fun K hK => ?_)
      go_wp2_with (go_at_call 100; refine (cloneInts_c r1 _ _ (Rd.mono R1.out hs4.bel) (by omega)).mono ?_; rintro e w5 ⟨b5, rfl, fr5, hb5⟩)
      have hs5 := hs4.step hb5
      obtain ⟨m5, n5, rfl, _⟩ := rd_list fr5.rd
      refine ⟨⟨hs5.cellAt 0 rfl 0 rfl, hs5.cellAt 0 rfl 1 rfl⟩, ?_⟩
      (repeat (first | (apply tr_skip rfl (by rfl); try simp only [Act.put, List.setIfInBounds_toArray, List.set_cons_zero, List.set_cons_succ]) | (apply tr_float rfl (by rfl); (· (intro w' hS; go_simp <;> with_reducible rfl)); (try simp only [Act.put, List.setIfInBounds_toArray, List.set_cons_zero, List.set_cons_succ]))))
      have f0 := hs5.freeAt 3 rfl 0
      have f1 := hs5.freeAt 3 rfl 1
      have k0 := hs5.cellAt 3 rfl 0 rfl
      have k1 := hs5.cellAt 3 rfl 1 rfl
      refine tr_last rfl (by rfl) (fun K hK => ?_)
      go_wp2
      refine tr_nil (NoPanic.normal ?_)
      go_wp2_with fail
      go_meet
      case rel =>
        have z4 := hb4.size
        have z5 := hb5.size
        have x1 := hs5.set (p := [_, _, _]) (by simp <;> omega) 0 (.slice m4 r0.length n4)
        have x2 := x1.set (p := [_, _, _]) (by simp <;> omega) 1 (.slice m5 r1.length n5)
        have i4 := (Fresh.iv fr4).mono hb5
        have i5 := Fresh.iv fr5
        have j4 := (i4.setOut (a := ⟨w.heap.size + 1 + 1 + 1, 0, none⟩) (.inl (by simp)) (.slice m4 r0.length n4)).setOut (a := ⟨w.heap.size + 1 + 1 + 1, 1, none⟩) (.inl (by simp)) (.slice m5 r1.length n5)
        have j5 := (i5.setOut (a := ⟨w.heap.size + 1 + 1 + 1, 0, none⟩) (.inl (by simp at z4 ⊢; omega)) (.slice m4 r0.length n4)).setOut (a := ⟨w.heap.size + 1 + 1 + 1, 1, none⟩) (.inl (by simp at z4 ⊢; omega)) (.slice m5 r1.length n5)
        exact ⟨w.heap.size + 1 + 1 + 1, m4, n4, m5, n5, _, _, _, _, rfl, x2.up (B' := _) x2.hi (Nat.le_refl _), j4, j5, by simp [Hid, World.setCell] at z4 z5 ⊢; omega⟩
  case rest =>
    obtain ⟨g, d0, e0, d1, e1, l0, t0, l1, t1, rfl, hst, hi0, hi1, hbd⟩ := hcut
    have q1 := hst.out.cellAt 1 rfl 0 rfl
    go_wp2_with fail
    go_loopw [24] (fun i wr => ∃ j : Nat, j ≤ s0.length ∧ i = .int .i64 j ∧ Hid (wr.heap.size = wc.heap.size) ∧ Hid (St w wc.heap.size wr [(w.heap.size, #[.slice a0 r0.length c0, .slice a1 r1.length c1], 160), (w.heap.size + 1, #[.slice b0 s0.length d0x, .slice b1 s1.length d1x], 160), (w.heap.size + 1 + 1, #[.slice none 0 0, .slice none 0 0], 160), (g, #[.slice d0 r0.length e0, .slice d1 r1.length e1], 160)]) ∧ Hid (Iv l0 t0 wr [.slice d0 r0.length e0] (zipTo (fun a b => (a + k * b) % p) r0 s0 j)) ∧ Hid (Iv l1 t1 wr [.slice d1 r1.length e1] (r1))) (fun i _ => s0.length - (intOf i).toNat)
    case atStart => exact ⟨0, Nat.zero_le _, rfl, rfl, hst.out, by simpa [Hid, zipTo_zero] using hi0.out, hi1.out⟩
    case round =>
      obtain ⟨j, hj, rfl, hsz, hst2, hj0, hj1⟩ := hrel
      by_cases hlt : j < s0.length
      · have hlr : j < r0.length := by omega
        obtain ⟨g', o', c', hv, hgl, hgh, hc, hf, hI, hset⟩ := iv_int_set hj0.out j (by rw [zipTo_length _ _ _ _ (by omega) (by omega)]; omega)
        rw [zipTo_length _ _ _ _ (by omega) (by omega)] at hv
        simp only [Value.slice.injEq] at hv
        obtain ⟨rfl, -, rfl⟩ := hv
        rw [zipTo_get _ _ _ _ hlr (by omega)] at hc hI
        obtain ⟨b', o2, rfl, hcs, hIs⟩ := rd_int_at (Rd.mono S0.out hst2.out.bel) j hlt
        have gA := RR1.out.get j hlr
        have gB := RS1.out.get j hlt
        have hm := small_mul gA gB hp hk0 hk
        have hz := Lib.hid (zipTo_succ (fun a b => (a + k * b) % p) r0 s0 j hlr hlt)
        have HSET := Lib.hid hset
        clear hset
        have q0 := hst2.out.cellAt 3 rfl 0 rfl
        generalize r0[j] = A at *
        generalize s0[j] = B at *
        have hT : (A + k * B).tmod p = (A + k * B) % p := Int.tmod_eq_emod_of_nonneg (by omega)
        have hE0 := Int.emod_nonneg (A + k * B) (show p ≠ 0 by omega)
        have hE1 := Int.emod_lt_of_pos (A + k * B) (show 0 < p by omega)
        have hN := HSET.out ((A + k * B) % p) ⟨by omega, by omega⟩
        rw [hz.out] at hN
        have HN := Lib.hid hN
        clear hN
        have hjr : (j : Int) < r0.length := by omega
        have hw1 : IntKind.i64.wrap (k * B) = k * B := i64_in _ (by omega)
        have hw2 : IntKind.i64.wrap (A + k * B) = A + k * B := i64_in _ (by omega)
        have hw3 : IntKind.i64.wrap ((A + k * B) % p) = (A + k * B) % p := i64_in _ (by omega)
        have hp1 : p ≠ 0 := by omega
        have hp2 : (p == 0) = false := by simpa using hp1
        go_wp2_with fail
        refine wp_region_noPanic (wp_region_el (fun w' => w'.cell? ⟨g, 0, none⟩ = some (.slice (some ⟨g', o', none⟩) r0.length e0) ∧ w'.cell? ⟨g', o' + j, none⟩ = some (.int .i64 A)) [(0, 0), (1, 0), (2, 0), (3, 0), (4, 0), (5, 0), (6, 0), (7, 0), (8, 0), (9, 0), (10, 0), (11, 0), (12, 0), (13, 0), (14, 0), (15, 2)] (by kernel_rfl) (by kernel_rfl) (by kernel_rfl) rfl ?_ (fun _ _ _ _ _ h => h) ?_)
        · exact ⟨q0, hc⟩
        (repeat (first | (apply el_skip rfl (by rfl); try simp only [Act.put, List.setIfInBounds_toArray, List.set_cons_zero, List.set_cons_succ]) | (apply el_float rfl (by rfl); (· (intro w' hS; go_simp <;> with_reducible rfl)); (try simp only [Act.put, List.setIfInBounds_toArray, List.set_cons_zero, List.set_cons_succ]))))
        refine el_last rfl (by rfl) (fun K hK => ?_)
        go_wp2_with fail
        refine el_nil (NoPanic.normal ?_)
        go_wp2_with fail
        go_roundw
        case rel =>
          have B' := hbd.out
          refine ⟨j + 1, by omega, by go_num, by simpa [Hid, World.setCell] using hsz.out, ?_, ?_, ?_⟩
          · exact hst2.out.drew.butIv (OnlyAt.but ((OnlyAt.refl [g'] wr.drew).setCell (p := ⟨g', o' + j, none⟩) (by simp) _)) (fun z hz => by simp at hz; omega) (fun x hx hp => by simp at hx hp; rcases hx with rfl | rfl | rfl | rfl <;> simp at hp <;> omega)
          · exact HN.out.frame (fun _ _ _ => rfl)
          · exact (hj1.out.frame (w' := wr.drew) (fun _ _ _ => rfl)).setOut (a := ⟨g', o' + j, none⟩) (by simp; omega) _
        case measure => simp [intOf]; omega
      · obtain rfl : j = s0.length := by omega
        clear q1
        have q1 := hst2.out.cellAt 1 rfl 1 rfl
        go_wp2_with fail
        go_loopw [48] (fun i wr => ∃ j : Nat, j ≤ s1.length ∧ i = .int .i64 j ∧ Hid (wr.heap.size = wc.heap.size) ∧ Hid (St w wc.heap.size wr [(w.heap.size, #[.slice a0 r0.length c0, .slice a1 r1.length c1], 160), (w.heap.size + 1, #[.slice b0 s0.length d0x, .slice b1 s1.length d1x], 160), (w.heap.size + 1 + 1, #[.slice none 0 0, .slice none 0 0], 160), (g, #[.slice d0 r0.length e0, .slice d1 r1.length e1], 160)]) ∧ Hid (Iv l0 t0 wr [.slice d0 r0.length e0] (zipTo (fun a b => (a + k * b) % p) r0 s0 s0.length)) ∧ Hid (Iv l1 t1 wr [.slice d1 r1.length e1] (zipTo (fun a b => (a + k * b) % p) r1 s1 j))) (fun i _ => s1.length - (intOf i).toNat)
        case atStart => exact ⟨0, Nat.zero_le _, rfl, hsz.out, hst2.out, hj0.out, by simpa [Hid, zipTo_zero] using hj1.out⟩
        case round =>
          obtain ⟨j, hj, rfl, hsz, hst2, hj0, hj1⟩ := hrel
          by_cases hlt : j < s1.length
          · have hlr : j < r1.length := by omega
            obtain ⟨g', o', c', hv, hgl, hgh, hc, hf, hI, hset⟩ := iv_int_set hj1.out j (by rw [zipTo_length _ _ _ _ (by omega) (by omega)]; omega)
            rw [zipTo_length _ _ _ _ (by omega) (by omega)] at hv
            simp only [Value.slice.injEq] at hv
            obtain ⟨rfl, -, rfl⟩ := hv
            rw [zipTo_get _ _ _ _ hlr (by omega)] at hc hI
            obtain ⟨b', o2, rfl, hcs, hIs⟩ := rd_int_at (Rd.mono S1.out hst2.out.bel) j hlt
            have gA := RR2.out.get j hlr
            have gB := RS2.out.get j hlt
            have hm := small_mul gA gB hp hk0 hk
            have hz := Lib.hid (zipTo_succ (fun a b => (a + k * b) % p) r1 s1 j hlr hlt)
            have HSET := Lib.hid hset
            clear hset
            have q0 := hst2.out.cellAt 3 rfl 1 rfl
            generalize r1[j] = A at *
            generalize s1[j] = B at *
            have hT : (A + k * B).tmod p = (A + k * B) % p := Int.tmod_eq_emod_of_nonneg (by omega)
            have hE0 := Int.emod_nonneg (A + k * B) (show p ≠ 0 by omega)
            have hE1 := Int.emod_lt_of_pos (A + k * B) (show 0 < p by omega)
            have hN := HSET.out ((A + k * B) % p) ⟨by omega, by omega⟩
            rw [hz.out] at hN
            have HN := Lib.hid hN
            clear hN
            have hjr : (j : Int) < r1.length := by omega
            have hw1 : IntKind.i64.wrap (k * B) = k * B := i64_in _ (by omega)
            have hw2 : IntKind.i64.wrap (A + k * B) = A + k * B := i64_in _ (by omega)
            have hw3 : IntKind.i64.wrap ((A + k * B) % p) = (A + k * B) % p := i64_in _ (by omega)
            have hp1 : p ≠ 0 := by omega
            have hp2 : (p == 0) = false := by simpa using hp1
            go_wp2_with fail
            refine wp_region_noPanic (wp_region_el (fun w' => w'.cell? ⟨g, 1, none⟩ = some (.slice (some ⟨g', o', none⟩) r1.length e1) ∧ w'.cell? ⟨g', o' + j, none⟩ = some (.int .i64 A)) [(0, 0), (1, 0), (2, 0), (3, 0), (4, 0), (5, 0), (6, 0), (7, 0), (8, 0), (9, 0), (10, 0), (11, 0), (12, 0), (13, 0), (14, 0), (15, 2)] (by kernel_rfl) (by kernel_rfl) (by kernel_rfl) rfl ?_ (fun _ _ _ _ _ h => h) ?_)
            · exact ⟨q0, hc⟩
            (repeat (first | (apply el_skip rfl (by rfl); try simp only [Act.put, List.setIfInBounds_toArray, List.set_cons_zero, List.set_cons_succ]) | (apply el_float rfl (by rfl); (· (intro w' hS; go_simp <;> with_reducible rfl)); (try simp only [Act.put, List.setIfInBounds_toArray, List.set_cons_zero, List.set_cons_succ]))))
            refine el_last rfl (by rfl) (fun K hK => ?_)
            go_wp2_with fail
            refine el_nil (NoPanic.normal ?_)
            go_wp2_with fail
            go_roundw
            case rel =>
              have B' := hbd.out
              refine ⟨j + 1, by omega, by go_num, by simpa [Hid, World.setCell] using hsz.out, ?_, ?_, ?_⟩
              · exact hst2.out.drew.butIv (OnlyAt.but ((OnlyAt.refl [g'] wr.drew).setCell (p := ⟨g', o' + j, none⟩) (by simp) _)) (fun z hz => by simp at hz; omega) (fun x hx hp => by simp at hx hp; rcases hx with rfl | rfl | rfl | rfl <;> simp at hp <;> omega)
              · exact (hj0.out.frame (w' := wr.drew) (fun _ _ _ => rfl)).setOut (a := ⟨g', o' + j, none⟩) (by simp; omega) _
              · exact HN.out.frame (fun _ _ _ => rfl)
            case measure => simp [intOf]; omega
          · obtain rfl : j = s1.length := by omega
            have q0 := hst2.out.cellAt 3 rfl 0 rfl
            have q2 := hst2.out.cellAt 3 rfl 1 rfl
            have f0 := hst2.out.freeAt 2 rfl 0
            have f1 := hst2.out.freeAt 2 rfl 1
            have k0 := hst2.out.cellAt 2 rfl 0 rfl
            have k1 := hst2.out.cellAt 2 rfl 1 rfl
            go_wp2_with fail
            have B' := hbd.out
            have iA := iv_cons hj0.out hj1.out (by omega) (by omega) (by omega)
            rw [zipTo_all', zipTo_all'] at iA
            refine bodyPost_ret (v := .agg #[.slice d0 r0.length e0, .slice d1 r1.length e1]) (by simp [results, Try.results138, go_sem, k0, k1, f0, f1]) rfl ⟨_, _, rfl, ?_⟩
            exact hst2.out.finI iA (g := w.heap.size + 1 + 1) (by omega) (by omega) [.slice d0 r0.length e0, .slice d1 r1.length e1]

end Go.Proofs.Ytoblfnoaepbhfaa
