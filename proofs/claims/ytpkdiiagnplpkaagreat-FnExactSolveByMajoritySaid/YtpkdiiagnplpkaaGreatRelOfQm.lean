import Derived.Test.YtpkdiiagnplpkaaGreatRowsBQm
import Derived.Test.YtpkdiiagnplpkaaGreatKeepBQm
set_option linter.unusedSimpArgs false
set_option linter.unusedVariables false
set_option maxHeartbeats 4000000
set_option maxRecDepth 100000
namespace Go.Proofs.YtpkdiiagnplpkaaGreat
open Go.RowKit Go.Shelf
open Rep (Rd Own sz)
def selT (q : List Int → Bool) (size : Int) (m k : Nat) : List (List Int) := ((List.range k).map (fun (i : Nat) => digs size m (i : Int))).filter q
theorem selT_succ (q : List Int → Bool) (size : Int) (m k : Nat) : selT q size m (k + 1) = selT q size m k ++ (if q (digs size m (k : Int)) then [digs size m (k : Int)] else []) := by
 unfold selT
 rw [List.range_succ, List.map_append, List.filter_append]
 congr 1
 simp only [List.map_cons, List.map_nil, List.filter_cons, List.filter_nil]
theorem selT_len (q : List Int → Bool) (size : Int) (m k : Nat) : (selT q size m k).length ≤ k := by
 refine Nat.le_trans (List.length_filter_le _ _) ?_
 simp
def RelC (g : Nat) (cb : Array Value) (w : World) (size : Int) (m : Nat) (q : List Int → Bool) : Prop :=
 ∀ (W : World) (l : List Int) (v : Value), Below w.heap.size w W → Rd W [v] l → l.length = m → (∀ a, a ∈ l → 0 ≤ a ∧ a < size) → Calls Tryz.prog g (#[v] ++ cb) W fun e w' => e = .returned (.bool (q l)) ∧ Below W.heap.size W w'
theorem relOf_c (size : Int) (m : Nat) (g : Nat) (cb : Array Value) (q : List Int → Bool) (N : Nat) (w : World) (hs : 1 ≤ size) (hs2 : size ≤ 1000000) (hm2 : m ≤ 1000) (hN : size ^ m = (N : Int)) (hN2 : N ≤ 1000000)
 (eg : ∀ args w, (callFunc g args).run Tryz.prog w = .ok (.enter g args) w) (hby : RelC g cb w size m q) :
 Calls Tryz.prog 142 #[.int .i64 size, .int .i64 m, .func (.func g) #[] cb] w fun e w' => ∃ v, e = .returned (.agg #[.int .i64 m, v]) ∧ Fresh w.heap.size w' [v] (selT q size m N) ∧ Below w.heap.size w w' := by
 have HBY := qH hby
 have HN := qH hN
 clear hby hN
 go_enter Tryz.func142, Tryz.ntmps142
 go_wp2_with fail
 refine (power_c size m _ (by omega) (by omega) (by omega) (by rw [Int.toNat_natCast, HN.out]; omega)).mono ?_
 rintro e w0 ⟨rfl, rfl⟩
 rw [Int.toNat_natCast, HN.out]
 go_wp2_with fail
 go_loopw [15] (fun i wr => ∃ (k n c : Nat) (ao : Option Addr), k ≤ N ∧ i = .int .i64 k ∧ Hid ((selT q size m k).length = n) ∧ Hid (Below w.heap.size w wr) ∧ Hid (w.heap.size + 2 ≤ wr.heap.size) ∧ Hid (wr.heap[w.heap.size]? = some (.cells #[.int .i64 0, .slice none 0 0] 87 (0, 0))) ∧ Hid (wr.heap[w.heap.size + 1]? = some (.cells #[.int .i64 m, .slice ao n c] 87 (0, 0))) ∧
  Hid (AccP (fun z => w.heap.size + 2 ≤ z ∧ z < wr.heap.size) 28 wr (.slice ao n c) (selT q size m k))) (fun i _ => N - (intOf i).toNat)
 case atStart =>
  refine ⟨0, 0, 0, none, Nat.zero_le _, rfl, rfl, ((Below.refl _ _).alloc (Nat.le_refl _) _).alloc (by simp) _, by simp [Hid], ?_, heap_alloc_at _ _ (by simp), AccP.nil _ _ _⟩
  show (World.alloc _ _).heap[_]? = _
  rw [Below.heap_alloc _ _ _ (by simp)]
  exact heap_alloc_at _ _ rfl
 case round =>
  obtain ⟨k, n, c, ao, hk, rfl, hn, hbl, hsz, hres, hbox, hacc⟩ := hrel
  by_cases hlt : k < N
  · have hkI : (k : Int) < N := by omega
    have hnk : n ≤ k := by rw [← hn.out]; exact selT_len _ _ _ _
    go_wp2_with fail
    refine (listOf_c size m k _ (by omega) (by omega) (by omega) (by omega) (by omega) (by omega)).mono ?_
    rintro e w1 ⟨v1, rfl, fr1, hb1⟩
    rw [Int.toNat_natCast] at fr1
    obtain ⟨a1, c1, e1, _⟩ := rd_list fr1.rd
    rw [digs_length] at e1
    subst e1
    have HFR := qH fr1
    have HB1 := qH hb1
    clear fr1 hb1
    go_wp2_with fail
    go_at_fn g
    refine (HBY.out _ (digs size m k) _ (hbl.out.trans (HB1.out.mono hbl.out.size)) HFR.out.rd (digs_length _ _ _) (digs_mem _ (by omega) _ _)).mono ?_
    rintro e w2 ⟨rfl, hb2⟩
    have HB2 := qH (HB1.out.trans (hb2.mono HB1.out.size))
    have HF2 := qH (HFR.out.mono hb2)
    have hz1 := HB1.out.size
    have hz2 := hb2.size
    have hk2 : ∀ b, b < wr.heap.size → w2.heap[b]? = wr.heap[b]? := fun b hb => HB2.out.block b hb
    have hsz2 := hsz.out
    have HR2 := qH ((hk2 w.heap.size (by omega)).trans hres.out)
    have HX2 := qH ((hk2 (w.heap.size + 1) (by omega)).trans hbox.out)
    clear hb2 hk2
    cases hq : q (digs size m k) with
    | false =>
     have HS := qH (show selT q size m (k + 1) = selT q size m k by rw [selT_succ, hq]; simp)
     have HA := qH (show AccP (fun z => w.heap.size + 2 ≤ z ∧ z < w2.heap.size) 28 w2 (.slice ao n c) (selT q size m (k + 1)) by
      rw [HS.out]
      exact (hacc.out.mono HB2.out).wk (fun z hz => ⟨hz.1, by have := hz.2; omega⟩))
     have HN2 := qH (show (selT q size m (k + 1)).length = n by rw [HS.out]; exact hn.out)
     have HBW := qH (hbl.out.trans (HB2.out.mono hbl.out.size))
     clear hq
     go_wp2_with fail
     go_roundw
     case rel => exact ⟨k + 1, n, c, ao, by omega, by go_num, HN2.out, HBW.out, (by simp only [Hid]; omega), HR2.out, HX2.out, HA.out⟩
     case measure => simp [intOf]; omega
    | true =>
     have HS := qH (show selT q size m k ++ [digs size m k] = selT q size m (k + 1) by rw [selT_succ, hq]; simp)
     clear hq
     have hc1 : w2.cell? ⟨w.heap.size + 1, 1, none⟩ = some (.slice ao n c) := (cell_at_block HX2.out).trans rfl
     have HAC4 := qH ((hacc.out.mono HB2.out).mono (belowA w2 (.cells #[.slice a1 m c1] 28)))
     have HI4 := qH (HF2.out.ip.mono (belowA w2 (.cells #[.slice a1 m c1] 28)))
     have hc1a := qC (belowA w2 (.cells #[.slice a1 m c1] 28)) hc1
     go_wp2_with (at_builtin; refine wpList_append_accP _ rfl _ _ _ rfl E_lists rfl HAC4.out HI4.out (fun z h1 h2 => by have h3 := h1.2; have h4 := h2.1; omega) ⟨w2.heap.size, 0, none⟩ 1 rfl (news1 (cell_at_block (heap_alloc_new _ _))) (by rw [hn.out]; omega) ?_; simp only [hn.out, HS.out]; intro a9 c9 w9 hA9 hB9; have hbx9 := (hB9.block (w.heap.size + 1) (by simp; omega) (fun h => by have := h.1; omega)).trans ((Below.heap_alloc w2 (.cells #[.slice a1 m c1] 28) (w.heap.size + 1) (by omega)).trans HX2.out); have hf9 : w9.frozen? ⟨w.heap.size + 1, 1, none⟩ = false := free_at_block hbx9; have hc9 : w9.cell? ⟨w.heap.size + 1, 1, none⟩ = some (.slice ao n c) := (cell_at_block hbx9).trans rfl)
     have hz9 := hB9.size
     have HR9 := qH ((hB9.block w.heap.size (by simp; omega) (fun h => by have := h.1; omega)).trans ((Below.heap_alloc w2 (.cells #[.slice a1 m c1] 28) w.heap.size (by omega)).trans HR2.out))
     have HX9 := qH hbx9
     have HBW := qH (show Below w.heap.size w w9 from (hbl.out.trans ((HB2.out.trans ((belowA w2 (.cells #[.slice a1 m c1] 28)).mono HB2.out.size)).mono hbl.out.size)).trans (hB9.below (B := w.heap.size) (fun z hz => by have := hz.1; omega) (by simp; omega)))
     have HA9 := qH (hA9.tight.wk (C := fun z => w.heap.size + 2 ≤ z ∧ z < w9.heap.size) (fun z hz => ⟨by
      rcases hz.1 with h | h | h
      · exact h.1
      · have := h.1; omega
      · rw [h]; simp; omega, hz.2⟩))
     have hzz : wr.heap.size + 1 ≤ w9.heap.size := by simp at hz9; omega
     clear hA9 hB9 hbx9 hz9
     go_wp2_with fail
     go_roundw
     case rel =>
      refine ⟨k + 1, n + 1, c9, a9, by omega, by go_num, (by rw [← HS.out, List.length_append, hn.out]; rfl), HBW.out.setCell (by simp) _, (by simp [Hid, World.setCell]; omega), ?_, ?_, ?_⟩
      · show (World.setCell _ _ _).heap[_]? = _
        rw [Below.heap_setCell _ _ _ _ (by simp)]
        exact HR9.out
      · exact heap_setCell_at w9 (w.heap.size + 1) 1 (.slice a9 (n + 1) c9) _ _ _ HX9.out
      · exact (HA9.out.frame (w' := w9.setCell ⟨w.heap.size + 1, 1, none⟩ (.slice a9 (n + 1) c9)) (by simp [World.setCell]) (fun z hz _ => Below.heap_setCell _ _ _ _ (by have := hz.1; simp; omega))).wk (fun z hz => by simpa [World.setCell] using hz)
     case measure => simp [intOf]; omega
  · obtain rfl : k = N := by omega
    have hnl : ¬ ((k : Int) < k) := by omega
    have r0 : wr.cell? ⟨w.heap.size, 0, none⟩ = some (.int .i64 0) := by rw [cell_at_block hres.out]; rfl
    have r1 : wr.cell? ⟨w.heap.size, 1, none⟩ = some (.slice none 0 0) := by rw [cell_at_block hres.out]; rfl
    have f0 : wr.frozen? ⟨w.heap.size, 0, none⟩ = false := free_at_block hres.out
    have f1 : wr.frozen? ⟨w.heap.size, 1, none⟩ = false := free_at_block hres.out
    have b0 : wr.cell? ⟨w.heap.size + 1, 0, none⟩ = some (.int .i64 m) := by rw [cell_at_block hbox.out]; rfl
    have b1 : wr.cell? ⟨w.heap.size + 1, 1, none⟩ = some (.slice ao n c) := by rw [cell_at_block hbox.out]; rfl
    have HFR := qH ((((show Fresh (w.heap.size + 2) wr [.slice ao n c] (selT q size m k) from hacc.out.ip.fresh (fun z hz => hz.1)).setCell (a := ⟨w.heap.size, 0, none⟩) (by simp) (.int .i64 m)).setCell (a := ⟨w.heap.size, 1, none⟩) (by simp) (.slice ao n c)).lower (show w.heap.size ≤ w.heap.size + 2 by omega))
    have HBF := qH ((hbl.out.setCell (by simp) (.int .i64 m) (p := ⟨w.heap.size, 0, none⟩)).setCell (p := ⟨w.heap.size, 1, none⟩) (by simp) (.slice ao n c))
    go_wp2_with fail
    refine bodyPost_ret (v := .agg #[.int .i64 m, .slice ao n c]) (by simp [results, Tryz.results142, go_sem, r0, r1, f0, f1]) rfl ⟨_, rfl, HFR.out, HBF.out⟩
end Go.Proofs.YtpkdiiagnplpkaaGreat
