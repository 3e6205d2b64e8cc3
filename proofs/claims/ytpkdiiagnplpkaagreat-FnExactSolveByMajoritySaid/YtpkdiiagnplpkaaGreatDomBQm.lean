import Derived.Test.YtpkdiiagnplpkaaGreatTmplBQm
import Derived.Lib.SlicesCompact
import Derived.Lib.OwnBridge
import Derived.Test.YtpkdiiagnplpkaaGreatRowsBQm
import Derived.Test.YtpkdiiagnplpkaaGreatShelf
import Derived.Sort.OwnSortedInts
set_option linter.unusedSimpArgs false
set_option linter.unusedVariables false
namespace Go.Proofs.YtpkdiiagnplpkaaGreat
open Go.RowKit
def srtL (l : List Int) : List Int := l.mergeSort (fun x y => decide (x ≤ y))
def riseL (l : List Int) : List Int := Go.Lib.compactUpTo (srtL l).toArray (srtL l).toArray.size
theorem srt_pair (l : List Int) : (srtL l).Pairwise (fun a b => a ≤ b) := by
 have h := List.pairwise_mergeSort (le := fun x y : Int => decide (x ≤ y)) (fun a b c h1 h2 => by simp only [decide_eq_true_eq] at *; omega) (fun a b => by simp only [Bool.or_eq_true, decide_eq_true_eq]; omega) l
 exact h.imp (fun h => by simpa using h)
theorem cmpt_mem {d : Array Int} {x : Int} : ∀ m, x ∈ Go.Lib.compactUpTo d m → ∃ j, j < m ∧ x = d[j]!
 | 0, h => by simp [Go.Lib.compactUpTo] at h
 | m + 1, h => by
  rw [Go.Lib.compactUpTo_succ, List.mem_append] at h
  rcases h with h | h
  · obtain ⟨j, hj, e⟩ := cmpt_mem m h
    exact ⟨j, by omega, e⟩
  · split at h
    · simp only [List.mem_singleton] at h
      exact ⟨m, by omega, h⟩
    · cases h
theorem cmpt_pair {d : Array Int} (hd : ∀ i j, i ≤ j → j < d.size → d[i]! ≤ d[j]!) : ∀ m, m ≤ d.size → (Go.Lib.compactUpTo d m).Pairwise (fun a b => a < b)
 | 0, _ => by simp [Go.Lib.compactUpTo]
 | m + 1, hm => by
  rw [Go.Lib.compactUpTo_succ, List.pairwise_append]
  refine ⟨cmpt_pair hd m (by omega), ?_, fun a ha b hb => ?_⟩
  · split <;> simp
  · split at hb
    · rename_i hk
      simp only [List.mem_singleton] at hb
      subst hb
      obtain ⟨j, hj, rfl⟩ := cmpt_mem m ha
      have h2 : m = 0 ∨ d[m]! ≠ d[m - 1]! := by simpa [Go.Lib.keeps] using hk
      have h3 : d[m]! ≠ d[m - 1]! := by
       rcases h2 with h | h
       · omega
       · exact h
      have h4 := hd j (m - 1) (by omega) (by omega)
      have h5 := hd (m - 1) m (by omega) (by omega)
      omega
    · cases hb
theorem arr_get (l : List Int) (i : Nat) : l.toArray[i]! = l.getD i 0 := by
 by_cases h : i < l.length
 · simp [List.getD, h]
 · simp [List.getD, h]
theorem pair_getD {R : Int → Int → Prop} {l : List Int} (h : l.Pairwise R) {i j : Nat} (hij : i < j) (hj : j < l.length) : R (l.getD i 0) (l.getD j 0) := by
 have h1 := (List.pairwise_iff_getElem.1 h) i j (by omega) hj hij
 simpa [List.getD, hj, show i < l.length by omega] using h1
theorem rise_pair (l : List Int) : (riseL l).Pairwise (fun a b => a < b) := by
 refine cmpt_pair (fun i j hij hj => ?_) _ (Nat.le_refl _)
 rw [arr_get, arr_get]
 rcases Nat.lt_or_ge i j with h | h
 · exact pair_getD (srt_pair l) h (by simpa using hj)
 · obtain rfl : i = j := by omega
   exact Int.le_refl _
theorem rise_of {l : List Int} (h : l.Pairwise (fun a b => a < b)) : riseL l = l := by
 have h1 : srtL l = l := List.mergeSort_of_pairwise (h.imp (fun h => by simp only [decide_eq_true_eq]; omega))
 unfold riseL
 rw [h1, Go.Lib.compactUpTo_all]
 · apply List.ext_getElem (by simp)
   intro i h1 h2
   have h3 : i < l.length := by simpa using h2
   simp only [List.getElem_map, List.getElem_range]
   rw [arr_get]; simp [List.getD, h3]
 · intro j hj
   have hj' : j < l.length := by simpa using hj
   rcases Nat.eq_zero_or_pos j with h0 | h0
   · simp [Go.Lib.keeps, h0]
   · have h2 := pair_getD h (show j - 1 < j by omega) hj'
     simp only [Go.Lib.keeps, arr_get, decide_eq_true_eq]
     exact .inr (by omega)
theorem rise_iff (l : List Int) : l = riseL l ↔ l.Pairwise (fun a b => a < b) :=
 ⟨fun h => by rw [h]; exact rise_pair l, fun h => (rise_of h).symm⟩
def risAt (lo hi : Int) (l : List Int) (i : Nat) : Bool := inB (l.getD i 0) lo hi && (decide (i = 0) || decide (l.getD (i - 1) 0 < l.getD i 0))
def risesB (lo hi : Int) (l : List Int) : Bool := (List.range l.length).all (risAt lo hi l)
theorem adj_lt {f : Nat → Int} {n : Nat} (h : ∀ i, 0 < i → i < n → f (i - 1) < f i) (i : Nat) : ∀ j, i < j → j < n → f i < f j
 | 0, h1, _ => absurd h1 (Nat.not_lt_zero _)
 | j + 1, h1, h2 => by
  have h3 := h (j + 1) (by omega) h2
  simp only [Nat.add_sub_cancel] at h3
  rcases Nat.lt_or_ge i j with h4 | h4
  · have := adj_lt h i j h4 (by omega)
    omega
  · obtain rfl : i = j := by omega
    exact h3
theorem rises_eq (lo hi : Int) (l : List Int) : risesB lo hi l = (l.all (fun a => inB a lo hi) && decide (l = riseL l)) := by
 rw [Bool.eq_iff_iff]
 unfold risesB
 rw [List.all_eq_true, Bool.and_eq_true, decide_eq_true_eq, rise_iff, List.all_eq_true]
 constructor
 · intro h
   have h' : ∀ i, i < l.length → risAt lo hi l i = true := fun i hi => h i (List.mem_range.2 hi)
   refine ⟨fun a ha => ?_, ?_⟩
   · obtain ⟨i, hi, rfl⟩ := List.getElem_of_mem ha
     have := h' i hi
     simp only [risAt, Bool.and_eq_true] at this
     rw [show l.getD i 0 = l[i] by simp [List.getD, hi]] at this
     exact this.1
   · rw [List.pairwise_iff_getElem]
     intro i j hi hj hij
     have := adj_lt (f := fun i => l.getD i 0) (n := l.length) (fun i h0 hi => by
      have := h' i hi
      simp only [risAt, Bool.and_eq_true, Bool.or_eq_true, decide_eq_true_eq] at this
      rcases this.2 with h | h
      · omega
      · exact h) i j hij hj
     simpa [List.getD, hi, hj] using this
 · rintro ⟨h1, h2⟩ i hi
   have hi := List.mem_range.1 hi
   simp only [risAt, Bool.and_eq_true, Bool.or_eq_true, decide_eq_true_eq]
   refine ⟨?_, ?_⟩
   · rw [show l.getD i 0 = l[i] by simp [List.getD, hi]]; exact h1 _ (List.getElem_mem hi)
   · rcases Nat.eq_zero_or_pos i with h | h
     · exact .inl h
     · exact .inr (pair_getD h2 (by omega) hi)
end Go.Proofs.YtpkdiiagnplpkaaGreat
namespace Go.Proofs.YtpkdiiagnplpkaaGreat
open Go.RowKit Go.Shelf Go.IntWalk
open Rep (Rd Own sz)
def domsOk (t : Tmpl) (x : Inst) (ds : List (List Int)) : Bool := instOk t x && (decide ((ds.length : Int) = x.1) && ds.all (risesB 0 (t.1 - 1)))
end Go.Proofs.YtpkdiiagnplpkaaGreat
namespace Go.Proofs.YtpkdiiagnplpkaaGreat
open Go.RowKit Go.Shelf
open Rep (Rd Own sz)
end Go.Proofs.YtpkdiiagnplpkaaGreat
namespace Go.Proofs.YtpkdiiagnplpkaaGreat
open Go.RowKit Go.Shelf Go.IntWalk
open Rep (Rd Own sz)
end Go.Proofs.YtpkdiiagnplpkaaGreat
