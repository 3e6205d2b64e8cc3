/-
  CONTRACTS: the operation x - y + z.
-/
import Derived.Test.YtoblfnoaepbhfaaOp
namespace Go.Proofs.Ytoblfnoaepbhfaa
open Go.RowKit Go.Shelf
open Rep (Rd Own sz)
set_option linter.unusedSimpArgs false
set_option linter.unusedVariables false

def affF (p : Int) (l : List Int) : Int := (l.getD 0 0 - l.getD 1 0 + l.getD 2 0) % p
theorem affF_bd (p : Int) (hp : 0 < p) (l : List Int) : 0 ≤ affF p l ∧ affF p l < p := ⟨Int.emod_nonneg _ (by omega), Int.emod_lt_of_pos _ hp⟩
theorem getD_mem {l : List Int} {i : Nat} (h : i < l.length) : l.getD i 0 ∈ l := by simp [List.getD, h]
/-- The table of x - y + z. -/
def affOp (p : Int) : OpT := (3, tableTo (affF p) p 3 (p ^ 3).toNat)

set_option maxHeartbeats 400000 in
theorem affineOp1_by (p : Int) (w : World) (b : Nat) (hb : w.cell? ⟨b, 0, none⟩ = some (.int .i64 p)) (hp : 0 < p) (hp2 : p ≤ 1000) : ByC 96 #[.pointer (some ⟨b, 0, none⟩)] w p 3 (affF p) := by
  intro W l v hbl r hl hm
  have hc := cellL hbl hb
  obtain ⟨a, c, rfl, h⟩ := rd_list r
  obtain ⟨b0, o0, rfl, c0, _⟩ := rdSl_int h 0 (by omega)
  obtain ⟨b1, o1, e1, c1, _⟩ := rdSl_int h 1 (by omega)
  obtain ⟨b2, o2, e2, c2, _⟩ := rdSl_int h 2 (by omega)
  simp only [Option.some.injEq, Addr.mk.injEq, and_true] at e1 e2
  obtain ⟨rfl, rfl⟩ := e1
  obtain ⟨rfl, rfl⟩ := e2
  have m0 := hm _ (getD_mem (by omega : 0 < l.length))
  have m1 := hm _ (getD_mem (by omega : 1 < l.length))
  have m2 := hm _ (getD_mem (by omega : 2 < l.length))
  rw [hl]
  rw [Nat.add_zero] at c0
  clear r h hb hm
  generalize hx : l.getD 0 0 = x at *
  generalize hy : l.getD 1 0 = y at *
  generalize hz : l.getD 2 0 = z at *
  have HX := Lib.hid hx
  have HY := Lib.hid hy
  have HZ := Lib.hid hz
  clear hx hy hz hl
  show Calls _ _ #[_, _] _ _
  go_enter Try.func96, Try.ntmps96
  go_wp2
  go_quiet (fail)
  go_wp2
  go_ret
  refine ⟨ret_int ?_, ?_, drewN_below _ _⟩
  · unfold affF
    rw [HX.out, HY.out, HZ.out, Int.add_emod_right]
  · exact i64_of _ (affF_bd p hp l).1 (by have := (affF_bd p hp l).2; omega)
set_option maxHeartbeats 400000 in
theorem affineOp_c (p : Int) (w : World) (hp : 1 < p) (hp2 : p ≤ 4) :
    Calls Try.prog 63 #[.int .i64 p] w fun e w' => ∃ v, e = .returned (.agg #[.int .i64 3, v]) ∧ Fresh w.heap.size w' [v] (tableTo (affF p) p 3 (p ^ 3).toNat) ∧ Below w.heap.size w w' := by
  have hq : p ^ 3 ≤ 1000000 := by
    have : p = 2 ∨ p = 3 ∨ p = 4 := by omega
    rcases this with rfl | rfl | rfl <;> decide
  have eg : ∀ args w, (callFunc 96 args).run Try.prog w = .ok (.enter 96 args) w := enters_of Try.func96 (by kernel_rfl) rfl
  have hs : St w (w.heap.size + 1 + 1) ((w.alloc (.cells #[.int .i64 p] 2)).alloc (.cells #[.int .i64 0, .slice none 0 0] 107)) [(w.heap.size, #[.int .i64 p], 2), (w.heap.size + 1, #[.int .i64 0, .slice none 0 0], 107)] :=
    ((St.start w).alloc _ _ rfl).alloc _ _ (by simp)
  go_enter Try.func63, Try.ntmps63
  go_wp2_with fail
  refine (opOf_c p 3 96 _ (affF p) _ (by omega) (by omega) (by omega) (by omega) hq eg (affineOp1_by p _ w.heap.size (hs.cellAt 0 rfl 0 rfl) (by omega) (by omega))).mono ?_
  rintro e w1 ⟨v, rfl, fr, hb1⟩
  have hs1 := hs.step hb1
  obtain ⟨a, c, rfl, _⟩ := rd_list fr.rd
  have r0 := hs1.cellAt 1 rfl 0 rfl
  have r1 := hs1.cellAt 1 rfl 1 rfl
  have f0 := hs1.freeAt 1 rfl 0
  have f1 := hs1.freeAt 1 rfl 1
  go_wp2
  refine bodyPost_ret (v := .agg #[.int .i64 3, .slice a _ c]) (by simp [results, Try.results63, go_sem, r0, r1, f0, f1]) rfl ⟨_, rfl, hs1.fin2 (by simp) (by simp) (by simp) fr _ _ _ _⟩
/-- What AffineOp hands back. -/
def affRes (p : Int) : OpT × Int := if isPr p then (affOp p, 0) else ((0, []), 2)
set_option maxRecDepth 100000 in
set_option maxHeartbeats 1000000 in
theorem l07Affine_c (p : Int) (w : World) (hp : 1 < p) (hp2 : p ≤ 4) :
    Calls Try.prog 52 #[.int .i64 p] w fun e w' => ∃ v, e = .returned (.agg #[.int .i64 3, v]) ∧ Fresh w.heap.size w' [v] (tableTo (affF p) p 3 (p ^ 3).toNat) ∧ Below w.heap.size w w' := by
  obtain ⟨N, hN, hN2, hpp, hpp0⟩ : ∃ N : Nat, p * p * p = N ∧ (p ^ 3).toNat = N ∧ p * p ≤ 16 ∧ 0 ≤ p * p := by
    have : p = 2 ∨ p = 3 ∨ p = 4 := by omega
    rcases this with rfl | rfl | rfl
    · exact ⟨8, by decide, by decide, by decide, by decide⟩
    · exact ⟨27, by decide, by decide, by decide, by decide⟩
    · exact ⟨64, by decide, by decide, by decide, by decide⟩
  have hN3 : N ≤ 1000 := by
    have : p = 2 ∨ p = 3 ∨ p = 4 := by omega
    rcases this with rfl | rfl | rfl <;> omega
  rw [hN2]
  clear hN2
  have hs0 : St w (w.heap.size + 1 + 1) ((w.alloc (.cells #[.int .i64 0, .slice none 0 0] 107)).alloc (.cells #[.int .i64 3, .slice none 0 0] 107)) [(w.heap.size, #[.int .i64 0, .slice none 0 0], 107), (w.heap.size + 1, #[.int .i64 3, .slice none 0 0], 107)] :=
    ((St.start w).alloc _ _ rfl).alloc _ _ (by simp)
  go_enter Try.func52, Try.ntmps52
  go_wp2_with fail
  go_loopw [4, 5] (fun i _ wr => ∃ (k c : Nat) (a : Option Addr), k ≤ N ∧ i = .int .i64 k ∧ Hid (St w (w.heap.size + 2) wr [(w.heap.size, #[.int .i64 0, .slice none 0 0], 107), (w.heap.size + 1, #[.int .i64 3, .slice a k c], 107)]) ∧
      Hid (Acc (w.heap.size + 2) wr.heap.size 2 wr (.slice a k c) (tableTo (affF p) p 3 k))) (fun i _ _ => N - (intOf i).toNat)
  case atStart =>
    refine ⟨0, 0, none, Nat.zero_le _, rfl, hs0, ?_⟩
    simpa [Hid, tableTo] using Acc.nil (α := Int) _ _ _ _
  case round =>
    obtain ⟨k, c, a, hk, rfl, hst, hacc⟩ := hrel
    have hS := hst.out.hi
    by_cases hlt : k < N
    · go_wp2_with (go_at_call 55; refine (l01Digits_c p 3 k _ (by omega) (by omega) (by omega) (by omega) (by omega) (by omega)).mono ?_; rintro e w1 ⟨v1, rfl, fr1, hb1⟩)
      have hst1 := hst.out.step hb1
      have hacc1 := hacc.out.mono hb1
      obtain ⟨a1, c1, rfl, h1⟩ := rd_list fr1.rd
      have fr1' := Lib.hid fr1
      have hl1 : (digs p 3 (k : Int)).length = 3 := digs_length _ _ _
      rw [show Int.toNat 3 = 3 from rfl] at *
      obtain ⟨b0, o0, rfl, q0, _⟩ := rdSl_int h1 0 (by omega)
      obtain ⟨b1, o1, e1, q1, _⟩ := rdSl_int h1 1 (by omega)
      obtain ⟨b2, o2, e2, q2, _⟩ := rdSl_int h1 2 (by omega)
      simp only [Option.some.injEq, Addr.mk.injEq, and_true] at e1 e2
      obtain ⟨rfl, rfl⟩ := e1
      obtain ⟨rfl, rfl⟩ := e2
      rw [Nat.add_zero] at q0
      have hb0 := fr1.block (by intro h; rw [h] at hl1; cases hl1)
      have m0 := digs_mem p (by omega) 3 k _ (getD_mem (by omega : 0 < _))
      have m1 := digs_mem p (by omega) 3 k _ (getD_mem (by omega : 1 < _))
      have m2 := digs_mem p (by omega) 3 k _ (getD_mem (by omega : 2 < _))
      have hF := affF_bd p (by omega) (digs p 3 k)
      have HA : Hid (affF p (digs p 3 k) = ((digs p 3 (k : Int)).getD 0 0 - (digs p 3 (k : Int)).getD 1 0 + (digs p 3 (k : Int)).getD 2 0) % p) := rfl
      rw [hl1]
      generalize hx : (digs p 3 (k : Int)).getD 0 0 = x at *
      generalize hy : (digs p 3 (k : Int)).getD 1 0 = y at *
      generalize hz : (digs p 3 (k : Int)).getD 2 0 = z at *
      generalize ht : affF p (digs p 3 (k : Int)) = t at *
      have HX := Lib.hid ht
      clear hx hy hz h1 ht hl1
      have q3 := hst1.cellAt 1 rfl 1 rfl
      have HW := Lib.hid hst1
      have HQ := Lib.hid hacc1
      clear hst1 hacc1
      go_wp2
      refine wp_region_noPanic (wp_region_el (fun w' => w'.cell? ⟨w.heap.size + 1, 1, none⟩ = some (.slice a k c) ∧ w'.cell? ⟨b0, o0, none⟩ = some (.int .i64 x) ∧ w'.cell? ⟨b0, o0 + 1, none⟩ = some (.int .i64 y) ∧ w'.cell? ⟨b0, o0 + 2, none⟩ = some (.int .i64 z)) [(0, 0), (1, 0), (2, 0), (3, 0), (4, 0), (5, 0), (6, 0), (7, 0), (8, 0), (9, 0), (10, 0), (11, 0), (12, 0), (13, 0), (14, 1), (15, 1), (16, 1), (17, 0), (18, 2)] (by kernel_rfl) (by kernel_rfl) (by kernel_rfl) rfl ?_ (fun _ _ _ _ _ h => h) ?_)
      · exact ⟨q3, q0, q1, q2⟩
      (repeat (first | (apply el_skip rfl (by rfl); try simp only [Act.put, List.setIfInBounds_toArray, List.set_cons_zero, List.set_cons_succ]) | (apply el_float rfl (by rfl); (· (intro w' hS; go_simp <;> with_reducible rfl)); (try simp only [Act.put, List.setIfInBounds_toArray, List.set_cons_zero, List.set_cons_succ]))))
      refine el_hard rfl (by rfl) (fun K hK => ?_)
      go_wp2_with (go_at_call 56; refine (l07Mod_c _ _ _ (by omega) (by omega)).mono ?_; rintro e w2 ⟨rfl, rfl⟩)
      refine ⟨⟨q3, q0, q1, q2⟩, ?_⟩
      (repeat (first | (apply el_skip rfl (by rfl); try simp only [Act.put, List.setIfInBounds_toArray, List.set_cons_zero, List.set_cons_succ]) | (apply el_float rfl (by rfl); (· (intro w' hS; go_simp <;> with_reducible rfl)); (try simp only [Act.put, List.setIfInBounds_toArray, List.set_cons_zero, List.set_cons_succ]))))
      refine el_hard rfl (by rfl) (fun K hK => ?_)
      go_wp2_with fail
      have hbA := (belowD w1).trans (belowA w1.drew (.cells #[.int .i64 ((x - y + z) % p)] 2))
      have hst2 := HW.out.step hbA
      have hacc2 := HQ.out.mono hbA
      refine ⟨⟨cellL hbA q3, cellL hbA q0, cellL hbA q1, cellL hbA q2⟩, ?_⟩
      refine el_hard rfl (by rfl) (fun K hK => ?_)
      refine wp_append_acc _ _ _ _ rfl E_ints rfl hacc2 (fresh_int (n := (x - y + z) % p) (i64_of _ (by rw [← HA.out]; omega) (by rw [← HA.out]; omega))) hS (Nat.le_trans hb1.size hbA.size) ⟨w1.heap.size, 0, none⟩ 1 rfl (World.news_of_block (cs := #[.int .i64 ((x - y + z) % p)]) (heap_alloc_new w1 _)) (by simp; omega) ?_
      intro a3 c3 w3 hacc3 hb3 hkp
      simp only [tableTo_length] at hacc3 ⊢
      have hst3 := hst2.stepB hb3
      have q4 := hst3.cellAt 1 rfl 1 rfl
      have f4 := hst3.freeAt 1 rfl 1
      have hkb := hkp b0 hb0.1 (Nat.lt_of_lt_of_le hb0.2 hbA.size)
      refine hK _ _ ⟨⟨q4, cellK (cellL hbA q0) hkb, cellK (cellL hbA q1) hkb, cellK (cellL hbA q2) hkb⟩, ?_⟩
      clear hK
      (repeat (first | (apply el_skip rfl (by rfl); try simp only [Act.put, List.setIfInBounds_toArray, List.set_cons_zero, List.set_cons_succ]) | (apply el_float rfl (by rfl); (· (intro w' hS; go_simp <;> with_reducible rfl)); (try simp only [Act.put, List.setIfInBounds_toArray, List.set_cons_zero, List.set_cons_succ]))))
      refine el_last rfl (by rfl) (fun K hK => ?_)
      go_wp2
      refine el_nil (NoPanic.normal ?_)
      go_wp2
      go_roundw
      case rel =>
        refine ⟨k + 1, c3, a3, by omega, by go_num, (hst3.set (p := [_]) (by simp) 1 (.slice a3 (k + 1) c3)), ?_⟩
        have h6 := hacc3.setCell (a := ⟨w.heap.size + 1, 1, none⟩) (by simp) (.slice a3 (k + 1) c3)
        rw [← HA.out, ← HX.out, ← tableTo_succ] at h6
        exact h6.up (by simp [World.setCell])
      case measure => simp [intOf]; omega
    · obtain rfl : k = N := by omega
      have r0 := hst.out.cellAt 0 rfl 0 rfl
      have r1 := hst.out.cellAt 0 rfl 1 rfl
      have f0 := hst.out.freeAt 0 rfl 0
      have f1 := hst.out.freeAt 0 rfl 1
      have p0 := hst.out.cellAt 1 rfl 0 rfl
      have p1 := hst.out.cellAt 1 rfl 1 rfl
      go_wp2
      refine bodyPost_ret (v := .agg #[.int .i64 3, .slice a k c]) (by simp [results, Try.results52, go_sem, r0, r1, f0, f1]) rfl ⟨_, rfl, hst.out.fin2 (by simp) (by simp) (by simp) hacc.out.fresh _ _ _ _⟩


end Go.Proofs.Ytoblfnoaepbhfaa
