/-
  CONTRACTS of drawing (the reference's side): the relation of what is equal.
-/
import Derived.Test.YtamkfnkikiekaaaGreatDrawCRa
namespace Go.Proofs.YtamkfnkikiekaaaGreat
open Go.RowKit Go.Shelf Go.IntWalk
open Rep (Rd Own sz)
set_option linter.unusedSimpArgs false
set_option linter.unusedVariables false

def eqPairs (n : Nat) : List (List Int) := (List.range n).map fun (a : Nat) => [(a : Int), (a : Int)]
theorem eqPairs_length (n : Nat) : (eqPairs n).length = n := by simp [eqPairs]
theorem eqPairs_succ (n : Nat) : eqPairs n ++ [[(n : Int), (n : Int)]] = eqPairs (n + 1) := by simp [eqPairs, List.range_succ]
set_option maxRecDepth 100000 in
set_option maxHeartbeats 16000000 in
theorem l01Equal_c (N : Nat) (w : World) (hN : N ≤ 4) :
    Calls Tryz.prog 19 #[.int .i64 N] w fun e w' => ∃ v : Value, e = .returned (.agg #[.int .i64 2, v]) ∧ Fresh w.heap.size w' [.int .i64 2, v] (((2 : Int), eqPairs N) : RelT) ∧ Below w.heap.size w w' := by
  have hs1 := (St.start w).alloc #[.int .i64 0, .slice none 0 0] 57 (n := w.heap.size) (by simp)
  have k0_0 := hs1.cellAt 0 rfl 0 rfl
  have k0_1 := hs1.cellAt 0 rfl 1 rfl
  go_enter Tryz.func19, Tryz.ntmps19
  have hs2 := hs1.alloc #[.int .i64 2, .slice none 0 0] 57 (n := w.heap.size + 1) (by simp)
  clear k0_0 k0_1
  have k0_0 := hs2.cellAt 0 rfl 0 rfl
  have k0_1 := hs2.cellAt 0 rfl 1 rfl
  have k1_0 := hs2.cellAt 1 rfl 0 rfl
  have k1_1 := hs2.cellAt 1 rfl 1 rfl
  go_wp2_with fail
  have HST := Lib.hid hs2
  have hzz : w.heap.size + 1 ≤ w.heap.size + 1 := by omega
  go_loopw [4] (fun i wl => ∃ (j : Nat) (a : Option Addr) (c : Nat), j ≤ N ∧ i = .int .i64 j ∧ Hid (St w (w.heap.size + 1 + 1) wl [(w.heap.size, #[.int .i64 0, .slice none 0 0], 57), (w.heap.size + 1, #[.int .i64 2, .slice a j c], 57)]) ∧ Hid (AccP (fun z => w.heap.size + 1 + 1 ≤ z ∧ z < wl.heap.size) 47 wl (.slice a j c) (eqPairs j))) (fun i _ => N - (intOf i).toNat)
  case atStart => exact ⟨0, none, 0, Nat.zero_le _, rfl, HST.out, AccP.nil _ _ _⟩
  case round =>
    clear HST
    obtain ⟨j, a, c, hj, rfl, hst, hac⟩ := hrel
    have HAC := hac
    have hs0 := hst.out
    have hszr := hst.out.hi
    have hlo0 := hst.out.lo
    clear hac hst
    have k0_0 := hs0.cellAt 0 rfl 0 rfl
    have k0_1 := hs0.cellAt 0 rfl 1 rfl
    have k1_0 := hs0.cellAt 1 rfl 0 rfl
    have k1_1 := hs0.cellAt 1 rfl 1 rfl
    by_cases hlt : j < N
    · have hltI : (j : Int) < N := by omega
      have HLE := Lib.hid (eqPairs_length j)
      have q9 := (hs0.cellAt 1 rfl 1 rfl)
      have hs3 := hs0.alloc #[.int .i64 j, .int .i64 j] 2 (n := wr.heap.size) (by simp)
      have HAC_4 := Lib.hid (AccP.mono HAC.out (belowA _ (.cells #[.int .i64 j, .int .i64 j] 2)))
      clear HAC
      clear k0_0 k0_1 k1_0 k1_1
      have k0_0 := hs3.cellAt 0 rfl 0 rfl
      have k0_1 := hs3.cellAt 0 rfl 1 rfl
      have k1_0 := hs3.cellAt 1 rfl 0 rfl
      have k1_1 := hs3.cellAt 1 rfl 1 rfl
      have k2_0 := hs3.cellAt 2 rfl 0 rfl
      have k2_1 := hs3.cellAt 2 rfl 1 rfl
      have HL2 := Lib.hid (fresh_ilits [(j : Int), (j : Int)] (lo := wr.heap.size) (hs3.box (wr.heap.size, #[.int .i64 j, .int .i64 j], 2) (by simp)).2.2 (Nat.le_refl _) (fun a ha => by simp at ha; constructor <;> omega) (by simp))
      have HIP2 := Lib.hid (HL2.out.ip.wk (B := fun z => wr.heap.size ≤ z) (fun z hz => hz.1))
      have hb9 := belowA (wr.alloc (.cells #[.int .i64 j, .int .i64 j] 2)) (.cells #[.slice (some ⟨wr.heap.size, 0, none⟩) 2 2] 47)
      have HS9 := Lib.hid (hs3.step hb9)
      have HNB := Lib.hid (show ((wr.alloc (.cells #[.int .i64 j, .int .i64 j] 2)).alloc (.cells #[.slice (some ⟨wr.heap.size, 0, none⟩) 2 2] 47)).heap[wr.heap.size + 1]? = some (.cells #[.slice (some ⟨wr.heap.size, 0, none⟩) 2 2] 47 (0, 0)) from by simpa using heap_alloc_new (wr.alloc (.cells #[.int .i64 j, .int .i64 j] 2)) (.cells #[.slice (some ⟨wr.heap.size, 0, none⟩) 2 2] 47))
      have HSZ9 := Lib.hid (show ((wr.alloc (.cells #[.int .i64 j, .int .i64 j] 2)).alloc (.cells #[.slice (some ⟨wr.heap.size, 0, none⟩) 2 2] 47)).heap.size = wr.heap.size + 2 by simp)
      go_wp2_with (at_builtin; go_loud (refine wpList_append_accP _ rfl _ _ _ rfl E_lists rfl (by have h9 := AccP.mono HAC_4.out (belowA (wr.alloc (.cells #[.int .i64 j, .int .i64 j] 2)) (.cells #[.slice (some ⟨wr.heap.size, 0, none⟩) 2 2] 47)); exact h9) (Ip.mono HIP2.out (belowA _ _)) (fun z h1 h2 => by (try simp only at h1 h2); omega) ⟨wr.heap.size + 1, 0, none⟩ 1 rfl (news1 (cell_at_block HNB.out)) (by rw [HLE.out]; omega) ?_); simp only [HLE.out]; intro a8 c8 w8a hA8 hB8; have hs8 := HS9.out.butP hB8 (fun z hz => by have := hz.1; omega) (fun x hx hA => by have h1 := hA.1; have h2 := hA.2; simp at hx; rcases hx with rfl | rfl | rfl <;> (try simp only at h1 h2) <;> omega); have q2 := hs8.cellAt 1 rfl 1 rfl; have f2 := hs8.freeAt 1 rfl 1)
      have hz8 := hB8.size
      have HSZ := Lib.hid (show (w8a.setCell ⟨w.heap.size + 1, 1, none⟩ (.slice a8 (j + 1) c8)).heap.size = w8a.heap.size by simp [World.setCell])
      have hs7 := hs8.low (B' := w.heap.size + 1 + 1) (bx' := [(w.heap.size, #[.int .i64 0, .slice none 0 0], 57), (w.heap.size + 1, #[.int .i64 2, .slice a j c], 57)]) (by omega) (by omega) (fun x hx => ⟨by simp at hx ⊢; rcases hx with rfl | rfl <;> simp, by simp at hx; rcases hx with rfl | rfl <;> (try simp only) <;> omega⟩)
      have HQ8 := hs7.set (p := [_]) (by simp <;> omega) 1 (.slice a8 (j + 1) c8)
      have HAC9 := Lib.hid ((AccP.setCell (b := w.heap.size + 1) (o := 1) hA8.tight (.slice a8 (j + 1) c8) (by intro hA9; have h1 := hA9.1; (try simp at h1); omega)).wk (C := fun z => w.heap.size + 1 + 1 ≤ z ∧ z < w8a.heap.size) (fun z hz => by
        have h2 := hz.2
        have h3 := HSZ9.out
        rcases hz.1 with h | h | h
        · (try simp only at h); omega
        · (try simp only at h); omega
        · rw [h] at h2 ⊢; omega))
      go_wp2_with fail
      go_roundw
      case rel =>
        have h7 := HAC9.out
        rw [eqPairs_succ] at h7
        exact ⟨j + 1, a8, c8, by omega, by go_num, HQ8, h7.wk (fun z hz => by rw [HSZ.out]; exact hz)⟩
      case measure => simp [intOf]; omega
    · obtain rfl : j = N := by omega
      have hnl : ¬ ((j : Int) < j) := by omega
      have f0_0 := hs0.freeAt 0 rfl 0
      have f0_1 := hs0.freeAt 0 rfl 1
      go_wp2_with fail
      have HFR := Lib.hid (fresh_icD (p := 2) ⟨by omega, by omega⟩ (HAC.out.ip.fresh (lo := w.heap.size) (fun k hk => by have := hk.1; omega)))
      have hs5 := hs0.set (p := []) (by simp <;> omega) 0 (.int .i64 2)
      have hs6 := hs5.set (p := []) (by simp <;> omega) 1 (.slice a j c)
      have HAC_7 := Lib.hid (AccP.setCell (b := w.heap.size) (o := 1) (AccP.setCell (b := w.heap.size) (o := 0) HAC.out (.int .i64 2) (by intro hA9; (try simp only at hA9); omega)) (.slice a j c) (by intro hA9; (try simp only at hA9); omega))
      clear HAC
      clear k0_0 k0_1 k1_0 k1_1
      have hz_wQ : wr.heap.size ≤ (((wr.setCell ⟨w.heap.size, 0, none⟩ (.int .i64 2)).setCell ⟨w.heap.size, 1, none⟩ (.slice a j c))).heap.size := by simp [World.setCell]
      generalize hgen_wQ : ((wr.setCell ⟨w.heap.size, 0, none⟩ (.int .i64 2)).setCell ⟨w.heap.size, 1, none⟩ (.slice a j c)) = wQ at *
      clear hgen_wQ
      have k0_0 := hs6.cellAt 0 rfl 0 rfl
      have k0_1 := hs6.cellAt 0 rfl 1 rfl
      have k1_0 := hs6.cellAt 1 rfl 0 rfl
      have k1_1 := hs6.cellAt 1 rfl 1 rfl
      have x0 := (hs6.cellAt 0 rfl 0 rfl)
      have x1 := (hs6.cellAt 0 rfl 1 rfl)
      exact bodyPost_ret (v := .agg #[.int .i64 2, .slice a j c]) (by simp [results, Tryz.results19, go_sem, x0, x1]) rfl ⟨_, rfl, fresh_icD (p := 2) ⟨by omega, by omega⟩ (HAC_7.out.ip.fresh (lo := w.heap.size) (fun k hk => by have := hk.1; omega)), hs6.bel⟩

end Go.Proofs.YtamkfnkikiekaaaGreat

