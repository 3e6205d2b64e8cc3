import Derived.Test.YtoblfnoaepbhfaaGreatTmplBQb
import Derived.Test.YtoblfnoaepbhfaaGreatArcMBQb
import Derived.Test.YtoblfnoaepbhfaaGreatKeepBQb
import Derived.Test.YtoblfnoaepbhfaaGreatRowBQb
import Derived.Laws.CopyOwn
set_option linter.unusedSimpArgs false
set_option linter.unusedVariables false
namespace Go.Proofs.YtoblfnoaepbhfaaGreat
open Go.RowKit Go.Shelf Go.IntWalk
open Rep (Rd Own sz)
end Go.Proofs.YtoblfnoaepbhfaaGreat
namespace Go.Proofs.YtoblfnoaepbhfaaGreat
open Go.RowKit Go.Shelf Go.IntWalk
open Rep (Rd Own sz)
structure ConF (t : Tmpl) (vars : Int) (c : OpT) (n : Nat) : Prop where
  rel : c.1 = (n : Int)
  lt : n < t.2.length
  inc : Inc (t.2.getD n (0, [])).2
  cnt : (t.2.getD n (0, [])).2.length ≤ 256
  sc : ∀ v, v ∈ c.2 → 0 ≤ v ∧ v < vars
  four : c.2.length ≤ 4
end Go.Proofs.YtoblfnoaepbhfaaGreat
namespace Go.Proofs.YtoblfnoaepbhfaaGreat
open Go.RowKit Go.Shelf Go.IntWalk
open Rep (Rd Own sz)
structure RepR (g n k : Nat) (a : Int) (w : World) : Prop where
  get : ∃ (cur : Array Value) (e : TypeId), w.heap[g]? = some (.cells cur e (0, 0)) ∧ n ≤ cur.size ∧ ∀ i, i < k → cur[i]? = some (.int .i64 a)
theorem RepR.mono {g n k : Nat} {a : Int} {w w' : World} (h : RepR g n k a w) (hb : Below w.heap.size w w') : RepR g n k a w' := by
  obtain ⟨cur, e, h1, h2⟩ := h.get
  exact ⟨cur, e, by rw [hb.block g (Array.getElem?_eq_some_iff.1 h1).1]; exact h1, h2⟩
theorem RepR.fresh {g n c : Nat} {a : Int} {w : World} (h : RepR g n n a w) (hI : I64 a) (hn : n ≤ c) (hc : c ≤ maxLen) {lo : Nat} (hg : lo ≤ g) : Fresh lo w [.slice (some ⟨g, 0, none⟩) n c] (List.replicate n a) := by
  obtain ⟨cur, e, h1, h2, h3⟩ := h.get
  refine ⟨[g], ⟨_, rfl, .inr ⟨g, 0, c, cur, e, List.replicate n [], by simp, by simpa using hn, hc, h1, by simp, by simp, fun i hi => ?_⟩⟩, by simp, fun k hk => by simp at hk; omega⟩
  have hin : i < n := by simpa using hi
  refine ⟨[], [.int .i64 a], by simp [hin], ⟨rfl, by simp, by simpa using hI⟩, fun k hk => ?_⟩
  obtain rfl : k = 0 := by simp at hk; omega
  simpa [sz] using h3 i hin
end Go.Proofs.YtoblfnoaepbhfaaGreat
namespace Go.Proofs.YtoblfnoaepbhfaaGreat
open Go.RowKit Go.Shelf Go.IntWalk
open Rep (Rd Own sz)
def vd0 : Vdct := (0, [], [], [], [])
theorem fresh_vd {lo : Nat} {w : World} {k : Int} {v : Value} {l : List Int} (hI : I64 k) (h : Fresh lo w [v] l) : Fresh lo w [.int .i64 k, v, .slice none 0 0, .slice none 0 0, .slice none 0 0] ((k, l, [], [], []) : Vdct) := by
  obtain ⟨ps, h1, h2, h3⟩ := h
  have e : ∀ {α : Type} [Rep α], Own [] w [.slice none 0 0] ([] : List α) := ⟨_, rfl, .inl ⟨rfl, rfl, none, 0, rfl, Nat.zero_le _⟩⟩
  exact ⟨[] ++ (ps ++ ([] ++ ([] ++ []))), mk_own ⟨rfl, rfl, hI⟩ (mk_own h1 (mk_own e (mk_own e e))), by simpa using h2, fun k hk => h3 k (by simpa using hk)⟩
set_option maxHeartbeats 2000000 in
theorem solution_c (ao : Option Addr) (n c : Nat) (w : World) : Calls Tryz.prog 61 #[.slice ao n c] w fun e w' => e = .returned (.agg #[.int .i64 0, .slice ao n c, .slice none 0 0, .slice none 0 0, .slice none 0 0]) ∧ Below w.heap.size w w' := by
  have hs36 := (St.start w).alloc #[.int .i64 0, .slice none 0 0, .slice none 0 0, .slice none 0 0, .slice none 0 0] 37 (n := w.heap.size) (by simp)
  have k0_0 := hs36.cellAt 0 rfl 0 rfl
  have k0_1 := hs36.cellAt 0 rfl 1 rfl
  have k0_2 := hs36.cellAt 0 rfl 2 rfl
  have k0_3 := hs36.cellAt 0 rfl 3 rfl
  have k0_4 := hs36.cellAt 0 rfl 4 rfl
  go_enter Tryz.func61, Tryz.ntmps61
  have g0 := (hs36.freeAt 0 rfl 0)
  have g1 := (hs36.freeAt 0 rfl 1)
  have g2 := (hs36.freeAt 0 rfl 2)
  have g3 := (hs36.freeAt 0 rfl 3)
  have g4 := (hs36.freeAt 0 rfl 4)
  have hs9 := (((((hs36.set (p := []) (by simp) 0 (.int .i64 0)).set (p := []) (by simp) 1 (.slice ao n c)).set (p := []) (by simp) 2 (.slice none 0 0)).set (p := []) (by simp) 3 (.slice none 0 0)).set (p := []) (by simp) 4 (.slice none 0 0))
  have HB9 := Lib.hid hs9.bel
  have y0 := hs9.cellAt 0 rfl 0 rfl
  have y1 := hs9.cellAt 0 rfl 1 rfl
  have y2 := hs9.cellAt 0 rfl 2 rfl
  have y3 := hs9.cellAt 0 rfl 3 rfl
  have y4 := hs9.cellAt 0 rfl 4 rfl
  clear hs9
  go_wp2_with fail
  refine bodyPost_ret (v := .agg #[.int .i64 0, .slice ao n c, .slice none 0 0, .slice none 0 0, .slice none 0 0]) (by simp [results, Tryz.results61, go_sem, y0, y1, y2, y3, y4]) rfl ⟨rfl, belowA _ _⟩
end Go.Proofs.YtoblfnoaepbhfaaGreat
namespace Go.Proofs.YtoblfnoaepbhfaaGreat
open Go.RowKit Go.Shelf Go.IntWalk
open Rep (Rd Own sz)
end Go.Proofs.YtoblfnoaepbhfaaGreat

