/-
  CONTRACTS: operations made of a function.
-/
import Derived.Test.YtoblfnoaepbhfaaDig
import Derived.Shelf.Abstract
import Derived.Deep.RegionHeld3
import Derived.Test.YtoblfnoaepbhfaaBase
namespace Go.Proofs.Ytoblfnoaepbhfaa
open Go.RowKit Go.Shelf
open Rep (Rd Own sz)
set_option linter.unusedSimpArgs false
set_option linter.unusedVariables false

/-- The table of a function of lists. -/
def tableTo (f : List Int → Int) (size : Int) (m : Nat) (k : Nat) : List Int := (List.range k).map fun (i : Nat) => f (digs size m (i : Int))
@[simp] theorem tableTo_length (f : List Int → Int) (size : Int) (m k : Nat) : (tableTo f size m k).length = k := by simp [tableTo]
theorem tableTo_succ (f : List Int → Int) (size : Int) (m k : Nat) : tableTo f size m (k + 1) = tableTo f size m k ++ [f (digs size m k)] := by simp [tableTo, List.range_succ]
theorem fresh_int {H : Nat} {w : World} {n : Int} (h : I64 n) : Fresh H w [.int .i64 n] n := ⟨[], ⟨rfl, rfl, h⟩, by simp, by simp⟩
theorem fresh_cons {α β : Type} [Rep α] [Rep β] {H : Nat} {w : World} {v : Value} {vs : List Value} {x : α} {y : β} {p q : List Nat} (h1 : Own p w [v] x) (h2 : Own q w vs y) (hn : (p ++ q).Nodup) (hH : ∀ k, k ∈ p ++ q → H ≤ k) : Fresh H w (v :: vs) (x, y) :=
  ⟨p ++ q, ⟨p, q, [v], vs, rfl, rfl, h1, h2⟩, hn, hH⟩
theorem fresh_int_cons {β : Type} [Rep β] {H : Nat} {w : World} {n : Int} {vs : List Value} {y : β} (h : I64 n) (h2 : Fresh H w vs y) : Fresh H w (.int .i64 n :: vs) (n, y) := by
  obtain ⟨ps, ho, hn, hH⟩ := h2
  exact ⟨ps, ⟨[], ps, [_], vs, rfl, rfl, ⟨rfl, rfl, h⟩, ho⟩, hn, hH⟩
theorem fresh_cons_int {α : Type} [Rep α] {H : Nat} {w : World} {n : Int} {v : Value} {y : α} (h : I64 n) (h2 : Fresh H w [v] y) : Fresh H w [v, .int .i64 n] (y, n) := by
  obtain ⟨ps, ho, hn, hH⟩ := h2
  exact ⟨ps, ⟨ps, [], [v], [_], by simp, rfl, ho, ⟨rfl, rfl, h⟩⟩, hn, hH⟩

/-- What opOf asks of the function that it is handed. -/
def ByC (g : Nat) (cb : Array Value) (w : World) (size : Int) (m : Nat) (f : List Int → Int) : Prop :=
  ∀ (W : World) (l : List Int) (v : Value), Below w.heap.size w W → Rd W [v] l → l.length = m → (∀ a, a ∈ l → 0 ≤ a ∧ a < size) → Calls Try.prog g (#[v] ++ cb) W fun e w' => e = .returned (.int .i64 (f l)) ∧ I64 (f l) ∧ Below W.heap.size W w'

set_option maxRecDepth 100000 in
set_option maxHeartbeats 1000000 in
theorem opOf_c (size arity : Int) (g : Nat) (cb : Array Value) (f : List Int → Int) (w : World) (hs : 1 ≤ size) (hs2 : size ≤ 1000000) (hm : 0 ≤ arity) (hm2 : arity ≤ 1000) (hp : size ^ arity.toNat ≤ 1000000)
    (eg : ∀ args w, (callFunc g args).run Try.prog w = .ok (.enter g args) w) (hby : ByC g cb w size arity.toNat f) :
    Calls Try.prog 95 #[.int .i64 size, .int .i64 arity, .func (.func g) #[] cb] w fun e w' => ∃ v, e = .returned (.agg #[.int .i64 arity, v]) ∧ Fresh w.heap.size w' [v] (tableTo f size arity.toNat (size ^ arity.toNat).toNat) ∧ Below w.heap.size w w' := by
  obtain ⟨m, rfl⟩ := Int.eq_ofNat_of_zero_le hm
  rw [Int.toNat_natCast] at hp hby ⊢
  have HBY := Lib.hid hby
  clear hby
  have hpos : 0 ≤ size ^ m := Int.pow_nonneg (by omega)
  obtain ⟨N, hN⟩ := Int.eq_ofNat_of_zero_le hpos
  have HN := Lib.hid hN
  have hN2 : N ≤ 1000000 := by omega
  rw [hN, Int.toNat_natCast]
  go_enter Try.func95, Try.ntmps95
  go_wp2_with (go_at_call 64; refine (power_c size m _ (by omega) (by omega) (by omega) (by rw [Int.toNat_natCast]; omega)).mono ?_; rintro e w' ⟨rfl, rfl⟩)
  clear hN hpos hp
  go_loopw [8, 14] (fun _ i wr => ∃ (k c : Nat) (a : Option Addr), k ≤ N ∧ i = .int .i64 k ∧ Hid (Below w.heap.size w wr) ∧ Hid (w.heap.size + 2 ≤ wr.heap.size) ∧ Hid (wr.heap[w.heap.size]? = some (.cells #[.int .i64 0, .slice none 0 0] 107 (0, 0))) ∧ Hid (wr.heap[w.heap.size + 1]? = some (.cells #[.int .i64 m, .slice a k c] 107 (0, 0))) ∧
      Hid (Acc (w.heap.size + 2) wr.heap.size 2 wr (.slice a k c) (tableTo f size m k))) (fun _ i _ => N - (intOf i).toNat)
  case atStart =>
    refine ⟨0, 0, none, Nat.zero_le _, rfl, ((Below.refl _ _).alloc (Nat.le_refl _) _).alloc (by simp) _, by simp [Hid], ?_, heap_alloc_at _ _ (by simp), ?_⟩
    · show (World.alloc _ _).heap[_]? = _
      rw [Below.heap_alloc _ _ _ (by simp)]
      exact heap_alloc_at _ _ rfl
    simpa [Hid, tableTo] using Acc.nil (α := Int) _ _ _ _
  case round =>
    obtain ⟨k, c, a, hk, rfl, hbl, hsz, hres, hbox, hacc⟩ := hrel
    have hc1 : wr.cell? ⟨w.heap.size + 1, 1, none⟩ = some (.slice a k c) := by rw [cell_at_block hbox.out]; rfl
    have hc0 : wr.cell? ⟨w.heap.size + 1, 0, none⟩ = some (.int .i64 m) := by rw [cell_at_block hbox.out]; rfl
    have hf1 : wr.frozen? ⟨w.heap.size + 1, 1, none⟩ = false := free_at_block hbox.out
    by_cases hlt : k < N
    · have hb0 : w.heap.size + 1 < wr.heap.size := by have := hsz.out; omega
      have hbo : Hid (Below w.heap.size w wr) := hbl
      go_wp2
      have hk1 : Hid (KC wr ⟨w.heap.size + 1, 1, none⟩ (.slice a k c)) := ⟨hc1, hf1⟩
      refine wp_region_noPanic (wp_region_el (fun w' => w'.cell? ⟨w.heap.size + 1, 1, none⟩ = some (.slice a k c)) [(0, 0), (1, 0), (2, 0), (3, 0), (4, 0), (5, 0), (6, 1), (7, 1), (8, 1), (9, 1), (10, 0), (11, 2)] (by kernel_rfl) (by kernel_rfl) (by kernel_rfl) rfl ?_ (fun _ _ _ _ _ h => h) ?_)
      · exact (hk1.out.mono (belowD _)).1
      (repeat (first | (apply el_skip rfl (by rfl); try simp only [Act.put, List.setIfInBounds_toArray, List.set_cons_zero, List.set_cons_succ]) | (apply el_float rfl (by rfl); (· (intro w' hS; go_simp <;> with_reducible rfl)); (try simp only [Act.put, List.setIfInBounds_toArray, List.set_cons_zero, List.set_cons_succ]))))
      refine el_hard rfl (by rfl) (fun K hK => ?_)
      go_wp2_with (go_at_call 65; refine (listOf_c size m k _ (by omega) (by omega) (by omega) (by omega) (by omega) (by omega)).mono ?_; rintro e w1 ⟨v1, rfl, fr1, hb1⟩)
      refine ⟨((hk1.out.mono (belowD _)).mono hb1).1, ?_⟩
      (repeat (first | (apply el_skip rfl (by rfl); try simp only [Act.put, List.setIfInBounds_toArray, List.set_cons_zero, List.set_cons_succ]) | (apply el_float rfl (by rfl); (· (intro w' hS; go_simp <;> with_reducible rfl)); (try simp only [Act.put, List.setIfInBounds_toArray, List.set_cons_zero, List.set_cons_succ]))))
      refine el_hard rfl (by rfl) (fun K hK => ?_)
      go_wp2_with (go_at_fn g; refine (HBY.out _ (digs size m k) v1 (hbl.out.drew.trans (hb1.mono hbl.out.size)) fr1.rd (digs_length _ _ _) (digs_mem _ (by omega) _ _)).mono ?_; rintro e w2 ⟨rfl, i2, hb2⟩)
      refine ⟨(((hk1.out.mono (belowD _)).mono hb1).mono hb2).1, ?_⟩
      (repeat (first | (apply el_skip rfl (by rfl); try simp only [Act.put, List.setIfInBounds_toArray, List.set_cons_zero, List.set_cons_succ]) | (apply el_float rfl (by rfl); (· (intro w' hS; go_simp <;> with_reducible rfl)); (try simp only [Act.put, List.setIfInBounds_toArray, List.set_cons_zero, List.set_cons_succ]))))
      refine el_hard rfl (by rfl) (fun K hK => ?_)
      go_wp2_with fail
      have hk3 := (((hk1.out.mono (belowD _)).mono hb1).mono hb2).mono (belowA w2 (.cells #[.int .i64 (f (digs size m k))] 2))
      refine ⟨hk3.1, ?_⟩
      refine el_hard rfl (by rfl) (fun K hK => ?_)
      refine wp_append_acc _ _ _ _ rfl E_ints rfl (hacc.out.mono ((((belowD _).trans (hb1.mono (Nat.le_refl _))).trans (hb2.mono hb1.size)).trans ((belowA _ _).mono (Nat.le_trans hb1.size hb2.size)))) (fresh_int i2) hsz.out
              (by have h1 := hb1.size; have h2 := hb2.size; simp at h1 ⊢; omega) ⟨w2.heap.size, 0, none⟩ 1 rfl (World.news_of_block (cs := #[.int .i64 (f (digs size m k))]) (heap_alloc_new w2 _)) (by simp; omega) ?_
      intro a3 c3 w3 hacc3 hb3 _
      simp only [tableTo_length] at hacc3 ⊢
      have hk4 := hk3.below hb3 (Nat.lt_succ_self _)
      refine hK _ _ ⟨hk4.1, ?_⟩
      have hc3 := hk4.1
      have hf3 := hk4.2
      clear hK
      (repeat (first | (apply el_skip rfl (by rfl); try simp only [Act.put, List.setIfInBounds_toArray, List.set_cons_zero, List.set_cons_succ]) | (apply el_float rfl (by rfl); (· (intro w' hS; go_simp <;> with_reducible rfl)); (try simp only [Act.put, List.setIfInBounds_toArray, List.set_cons_zero, List.set_cons_succ]))))
      refine el_last rfl (by rfl) (fun K hK => ?_)
      go_wp2
      refine el_nil (NoPanic.normal ?_)
      go_wp2
      go_roundw
      case rel =>
        have hBW : Below w.heap.size w w3 := (((hbl.out.drew.trans (hb1.mono hbl.out.size)).trans (hb2.mono (Nat.le_trans hbl.out.size hb1.size))).alloc (Nat.le_trans (Nat.le_trans hbl.out.size hb1.size) hb2.size) _).trans (hb3.mono (by omega))
        have keep : ∀ b, b < w.heap.size + 2 → w3.heap[b]? = wr.heap[b]? := fun b hb => by
          have s1 := hb1.size
          have s2 := hb2.size
          have s0 := hsz.out
          simp at s1
          rw [hb3.block b hb, Below.heap_alloc _ _ _ (by omega), hb2.block b (by omega), hb1.block b (by simp; omega)]
          rfl
        refine ⟨k + 1, c3, a3, by omega, by go_num, hBW.setCell (by simp) _, ?_, ?_, ?_, ?_⟩
        · have s3 := hb3.size; have s1 := hb1.size; have s2 := hb2.size; have s0 := hsz.out; simp [Hid, World.setCell] at s1 s3 ⊢; omega
        · show (World.setCell _ _ _).heap[_]? = _
          rw [Below.heap_setCell _ _ _ _ (by simp), keep _ (by omega)]
          exact hres.out
        · have := heap_setCell_at w3 (w.heap.size + 1) 1 (.slice a3 (k + 1) c3) _ _ _ ((keep _ (by omega)).trans hbox.out)
          exact this
        · have h6 := hacc3.setCell (a := ⟨w.heap.size + 1, 1, none⟩) (by simp) (.slice a3 (k + 1) c3)
          rw [← tableTo_succ] at h6
          exact h6.up (by simp [World.setCell])
      case measure => simp [intOf]; omega
    · obtain rfl : k = N := by omega
      have r0 : wr.cell? ⟨w.heap.size, 0, none⟩ = some (.int .i64 0) := by rw [cell_at_block hres.out]; rfl
      have r1 : wr.cell? ⟨w.heap.size, 1, none⟩ = some (.slice none 0 0) := by rw [cell_at_block hres.out]; rfl
      have f0 : wr.frozen? ⟨w.heap.size, 0, none⟩ = false := free_at_block hres.out
      have f1 : wr.frozen? ⟨w.heap.size, 1, none⟩ = false := free_at_block hres.out
      go_wp2
      refine bodyPost_ret (v := .agg #[.int .i64 m, .slice a k c]) (by simp [results, Try.results95, go_sem, r0, r1, f0, f1]) rfl ⟨_, rfl, ?_, ?_⟩
      · have h6 := ((hacc.out.setCell (a := ⟨w.heap.size, 0, none⟩) (by simp) (.int .i64 m)).setCell (a := ⟨w.heap.size, 1, none⟩) (by simp) (.slice a k c)).fresh
        exact h6.lower (by omega)
      · exact (hbl.out.setCell (by simp) _).setCell (by simp) _

end Go.Proofs.Ytoblfnoaepbhfaa
