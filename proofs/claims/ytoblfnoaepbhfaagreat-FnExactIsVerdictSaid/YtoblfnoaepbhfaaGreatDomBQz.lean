import Derived.Test.YtoblfnoaepbhfaaGreatTmplBQz
import Derived.Lib.SlicesCompact
import Derived.Lib.OwnBridge
import Derived.Test.YtoblfnoaepbhfaaGreatRowsBQz
import Derived.Test.YtoblfnoaepbhfaaGreatShelf
import Derived.Sort.OwnSortedInts
import Derived.Test.YtoblfnoaepbhfaaGreatKindsQz
import Derived.Laws.StructEq
set_option linter.unusedSimpArgs false
set_option linter.unusedVariables false
set_option maxHeartbeats 8000000
set_option maxRecDepth 100000
namespace Go.Proofs.YtoblfnoaepbhfaaGreat
open Go.Proofs.Tryz
open Go.RowKit
def sG (l : List Int) : List Int := l.mergeSort (fun x y => decide (x ≤ y))
def vY (l : List Int) : List Int := Go.Lib.compactUpTo (sG l).toArray (sG l).toArray.size
theorem abo (l : List Int) : (sG l).Pairwise (fun a b => a ≤ b) := by
 have h := List.pairwise_mergeSort (le := fun x y : Int => decide (x ≤ y)) (fun a b c h1 h2 => by simp only [decide_eq_true_eq] at *; omega) (fun a b => by simp only [Bool.or_eq_true, decide_eq_true_eq]; omega) l
 exact h.imp (fun h => by simpa using h)
theorem XD {l : List Int} {x : Int} : x ∈ sG l ↔ x ∈ l := List.mem_mergeSort
theorem Dx (l : List Int) : (sG l).length = l.length := (List.mergeSort_perm l _).length_eq
theorem Jq {d : Array Int} {x : Int} : ∀ m, x ∈ Go.Lib.compactUpTo d m → ∃ j, j < m ∧ x = d[j]!
 | 0, h => by simp [Go.Lib.compactUpTo] at h
 | m + 1, h => by
  rw [Go.Lib.compactUpTo_succ, List.mem_append] at h
  rcases h with h | h
  · obtain ⟨j, hj, e⟩ := Jq m h
    exact ⟨j, by omega, e⟩
  · split at h
    · simp only [List.mem_singleton] at h
      exact ⟨m, by omega, h⟩
    · cases h
theorem Jr {d : Array Int} : ∀ m j, j < m → d[j]! ∈ Go.Lib.compactUpTo d m
 | 0, _, h => absurd h (Nat.not_lt_zero _)
 | m + 1, j, h => by
  rw [Go.Lib.compactUpTo_succ, List.mem_append]
  rcases Nat.lt_or_ge j m with h1 | h1
  · exact .inl (Jr m j h1)
  · obtain rfl : j = m := by omega
    by_cases hk : Go.Lib.keeps d j = true
    · right; rw [if_pos hk]; simp
    · left
      have h2 : ¬ (j = 0 ∨ d[j]! ≠ d[j - 1]!) := by simpa [Go.Lib.keeps] using hk
      have h3 : j ≠ 0 ∧ d[j]! = d[j - 1]! := by
       constructor
       · exact fun h => h2 (.inl h)
       · exact Classical.byContradiction fun h => h2 (.inr h)
      rw [h3.2]
      exact Jr j (j - 1) (by omega)
theorem MP {d : Array Int} (hd : ∀ i j, i ≤ j → j < d.size → d[i]! ≤ d[j]!) : ∀ m, m ≤ d.size → (Go.Lib.compactUpTo d m).Pairwise (fun a b => a < b)
 | 0, _ => by simp [Go.Lib.compactUpTo]
 | m + 1, hm => by
  rw [Go.Lib.compactUpTo_succ, List.pairwise_append]
  refine ⟨MP hd m (by omega), ?_, fun a ha b hb => ?_⟩
  · split <;> simp
  · split at hb
    · rename_i hk
      simp only [List.mem_singleton] at hb
      subst hb
      obtain ⟨j, hj, rfl⟩ := Jq m ha
      have h2 : m = 0 ∨ d[m]! ≠ d[m - 1]! := by simpa [Go.Lib.keeps] using hk
      have h3 : d[m]! ≠ d[m - 1]! := by
       rcases h2 with h | h
       · omega
       · exact h
      have h4 := hd j (m - 1) (by omega) (by omega)
      have h5 := hd (m - 1) m (by omega) (by omega)
      omega
    · cases hb
theorem AP (l : List Int) (i : Nat) : l.toArray[i]! = l.getD i 0 := by
 by_cases h : i < l.length
 · simp [List.getD, h]
 simp [List.getD, h]
theorem EK {R : Int → Int → Prop} {l : List Int} (h : l.Pairwise R) {i j : Nat} (hij : i < j) (hj : j < l.length) : R (l.getD i 0) (l.getD j 0) := by
 have h1 := (List.pairwise_iff_getElem.1 h) i j (by omega) hj hij
 simpa [List.getD, hj, show i < l.length by omega] using h1
theorem YB (l : List Int) : (vY l).Pairwise (fun a b => a < b) := by
 refine MP (fun i j hij hj => ?_) _ (Nat.le_refl _)
 rw [AP, AP]
 rcases Nat.lt_or_ge i j with h | h
 · exact EK (abo l) h (by simpa using hj)
 obtain rfl : i = j := by omega
 exact Int.le_refl _
theorem abp {l : List Int} {x : Int} : x ∈ vY l ↔ x ∈ l := by
 constructor
 · intro h
   obtain ⟨j, hj, rfl⟩ := Jq _ h
   rw [AP]
   have hj' : j < (sG l).length := by simpa using hj
   rw [show (sG l).getD j 0 = (sG l)[j] by simp [List.getD, hj']]
   exact XD.1 (List.getElem_mem hj')
 intro h
 obtain ⟨j, hj, e⟩ := List.getElem_of_mem (XD.2 h)
 have := Jr (d := (sG l).toArray) (sG l).toArray.size j (by simpa using hj)
 rw [AP, show (sG l).getD j 0 = (sG l)[j] by simp [List.getD, hj], e] at this
 exact this
theorem XE {l : List Int} (h : l.Pairwise (fun a b => a < b)) : vY l = l := by
 have h1 : sG l = l := List.mergeSort_of_pairwise (h.imp (fun h => by simp only [decide_eq_true_eq]; omega))
 unfold vY
 rw [h1, Go.Lib.compactUpTo_all]
 · apply List.ext_getElem (by simp)
   intro i h1 h2
   have h3 : i < l.length := by simpa using h2
   simp only [List.getElem_map, List.getElem_range]
   rw [AP]; simp [List.getD, h3]
 intro j hj
 have hj' : j < l.length := by simpa using hj
 rcases Nat.eq_zero_or_pos j with h0 | h0
 · simp [Go.Lib.keeps, h0]
 have h2 := EK h (show j - 1 < j by omega) hj'
 simp only [Go.Lib.keeps, AP, decide_eq_true_eq]
 exact .inr (by omega)
theorem Q7 (l : List Int) : l = vY l ↔ l.Pairwise (fun a b => a < b) :=
 ⟨fun h => by rw [h]; exact YB l, fun h => (XE h).symm⟩
theorem abq (l : List Int) : (vY l).length ≤ l.length := by
 have : ∀ m, (Go.Lib.compactUpTo (sG l).toArray m).length ≤ m := by
  intro m
  unfold Go.Lib.compactUpTo
  rw [List.length_map]
  exact Nat.le_trans (List.length_filter_le _ _) (by simp)
 have h := this (sG l).toArray.size
 unfold vY
 simpa [Dx] using h
def uS (lo hi : Int) (l : List Int) (i : Nat) : Bool := inB (l.getD i 0) lo hi && (decide (i = 0) || decide (l.getD (i - 1) 0 < l.getD i 0))
def iE (lo hi : Int) (l : List Int) : Bool := (List.range l.length).all (uS lo hi l)
theorem abr {f : Nat → Int} {n : Nat} (h : ∀ i, 0 < i → i < n → f (i - 1) < f i) (i : Nat) : ∀ j, i < j → j < n → f i < f j
 | 0, h1, _ => absurd h1 (Nat.not_lt_zero _)
 | j + 1, h1, h2 => by
  have h3 := h (j + 1) (by omega) h2
  simp only [Nat.add_sub_cancel] at h3
  rcases Nat.lt_or_ge i j with h4 | h4
  · have := abr h i j h4 (by omega)
    omega
  · obtain rfl : i = j := by omega
    exact h3
theorem Q8 (lo hi : Int) (l : List Int) : iE lo hi l = (l.all (fun a => inB a lo hi) && decide (l = vY l)) := by
 rw [Bool.eq_iff_iff]
 unfold iE
 rw [List.all_eq_true, Bool.and_eq_true, decide_eq_true_eq, Q7, List.all_eq_true]
 constructor
 · intro h
   have h' : ∀ i, i < l.length → uS lo hi l i = true := fun i hi => h i (List.mem_range.2 hi)
   refine ⟨fun a ha => ?_, ?_⟩
   · obtain ⟨i, hi, rfl⟩ := List.getElem_of_mem ha
     have := h' i hi
     simp only [uS, Bool.and_eq_true] at this
     rw [show l.getD i 0 = l[i] by simp [List.getD, hi]] at this
     exact this.1
   rw [List.pairwise_iff_getElem]
   intro i j hi hj hij
   have := abr (f := fun i => l.getD i 0) (n := l.length) (fun i h0 hi => by
    have := h' i hi
    simp only [uS, Bool.and_eq_true, Bool.or_eq_true, decide_eq_true_eq] at this
    rcases this.2 with h | h
    · omega
    · exact h) i j hij hj
   simpa [List.getD, hi, hj] using this
 rintro ⟨h1, h2⟩ i hi
 have hi := List.mem_range.1 hi
 simp only [uS, Bool.and_eq_true, Bool.or_eq_true, decide_eq_true_eq]
 refine ⟨?_, ?_⟩
 · rw [show l.getD i 0 = l[i] by simp [List.getD, hi]]; exact h1 _ (List.getElem_mem hi)
 rcases Nat.eq_zero_or_pos i with h | h
 · exact .inl h
 exact .inr (EK h2 (by omega) hi)
open Go.Shelf Go.IntWalk
open Rep (Rd Own sz)
theorem MQ {size : Int} {rs : List bH} {vars ci : Int} {sc : List Int} (h : inB ci 0 (rs.length - 1) = false) : sV (size, rs) vars (ci, sc) = false := by unfold sV; simp only; rw [h]; rfl
theorem Js {size : Int} {rs : List bH} {vars : Int} {k : Nat} {sc : List Int} (hk : k < rs.length) : sV (size, rs) vars ((k : Int), sc) = bG vars sc rs[k].1 := by
 unfold sV
 simp only [Int.toNat_natCast]
 rw [show inB (k : Int) 0 ((rs.length : Int) - 1) = true by simp [inB]; omega, show rs.getD k (0, []) = rs[k] by simp [List.getD, hk]]
 rfl
theorem Dy (tb xb : Nat) (rs : List bH) (size vars : Int) (va : Value) (w : World) (l : List nI) (hc0 : w.cell? ⟨tb, 1, none⟩ = some va) (hc1 : w.cell? ⟨xb, 0, none⟩ = some (.int .i64 vars)) (hr : Rd w [va] rs) (hrl : rs.length ≤ 6) (hv : 1 ≤ vars ∧ vars ≤ 10) :
 L6 145 #[.pointer (some ⟨tb, 0, none⟩), .pointer (some ⟨xb, 0, none⟩)] w l (fun c => !sV (size, rs) vars c) := by
 intro W x v0 v1 hb hx _
 have HR := qH (Rd.mono hr hb)
 obtain ⟨g0, g1⟩ := iQ hb hc0 hc1
 clear hc0 hc1 hr hb
 show Calls prog 145 #[_, .pointer (some ⟨tb, 0, none⟩), .pointer (some ⟨xb, 0, none⟩)] W _
 obtain ⟨ci, sc⟩ := x
 have z := au rfl hx
 obtain ⟨rfl, XF⟩ := aG z.1
 have qU := qH z.2
 obtain ⟨a2, c2, rfl, _⟩ := ah z.2
 obtain ⟨a, c, rfl, _⟩ := ah HR.out
 clear hx z
 simp only at XF
 have kH := qC (St.start W).bel g0
 clear kH
 obtain ⟨kH, lg⟩ := iQ (St.start W).bel g0 g1
 have hs1 := (St.start W).alloc #[.int .i64 ci, .slice a2 sc.length c2] 150 (n := W.heap.size) (by simp)
 clear kH lg
 obtain ⟨aF, aH⟩ := hs1.c2 0 0 0 1
 obtain ⟨kH, lg⟩ := iQ hs1.bel g0 g1
 have ew : IntKind.i64.wrap ((rs.length : Int) - 1) = (rs.length : Int) - 1 := i64_in _ (by omega)
 go_enter func145, ntmps145
 cases h1 : inB ci 0 (rs.length - 1)
 · have H1 := qH (MQ (size := size) (vars := vars) (sc := sc) h1)
   go_upto_region 1 with fail
   refine iT (fun w' => cI w' W.heap.size 0 ci ∧ cV w' W.heap.size 1 (.slice a2 sc.length c2) ∧ cV w' tb 1 (.slice a rs.length c) ∧ cI w' xb 0 vars) (.z [0,1,2,3,4,5] (.hard 6 (.z [7,8,9,10,11,12,13,14,15,16,17,18,19] (.hard 20 (.z [21,22,23] .nil))))) ?_ ?_
   · exact (hs1.drew).d2 0 0 0 1 (iQ (hs1.drew).bel g0 g1:)
   have hs2 := hs1.drew
   clear aF aH kH lg
   have aa4 : W.heap.size + 1 ≤ ((W.alloc (.cells #[.int .i64 ci, .slice a2 sc.length c2] 150)).drew).heap.size := by simp
   generalize (W.alloc (.cells #[.int .i64 ci, .slice a2 sc.length c2] 150)).drew = wd3 at *
   refine aV ?_
   refine gX fun K hK => ?_
   go_wp2_with (go_at_call 146; refine (iZ ci 0 (rs.length - 1) _).mono ?_; rintro e w4 ⟨rfl, rfl, rfl⟩)
   refine ⟨(hs2.d2 0 0 0 1 (iQ hs2.bel g0 g1:)), ?_⟩
   refine aV ?_
   refine eG rfl (by rfl) ?_ ?_
   · exact hs2.d2 0 0 0 1 (iQ hs2.bel g0 g1:)
   (try simp only [Act.put, sI, sZ, sS])
   refine aV ?_
   obtain ⟨aF, aH⟩ := hs2.c2 0 0 0 1
   obtain ⟨kH, lg⟩ := iQ hs2.bel g0 g1
   refine iF ?_
   go_wp2_with fail
   go_ret
   exact ⟨ak (by rw [H1.out]; rfl), hs2.bel⟩
 have h2 := bQ h1
 obtain ⟨k, rfl⟩ : ∃ k : Nat, ci = k := ⟨ci.toNat, by omega⟩
 have hk : k < rs.length := by omega
 obtain ⟨b, o, u0, u1, rfl, q0, q1, hy⟩ := dL rfl HR.out k hk
 have hyz := au rfl hy
 obtain ⟨rfl, _⟩ := aG hyz.1
 have H1 := qH (Js (size := size) (vars := vars) (sc := sc) hk)
 clear hy hyz
 generalize rs[k].1 = AR at *
 have hkl : (k : Int) < rs.length := by omega
 clear aF aH kH lg
 obtain ⟨aF, aH⟩ := hs1.c2 0 0 0 1
 obtain ⟨kH, lg, dW⟩ := fQ hs1.bel g0 g1 q0
 go_upto_region 1 with fail
 refine iT (fun w' => cI w' W.heap.size 0 (k : Int) ∧ cV w' W.heap.size 1 (.slice a2 sc.length c2) ∧ cV w' tb 1 (.slice (some ⟨b, o, none⟩) rs.length c) ∧ cI w' xb 0 vars ∧ cI w' b (o + k * 2) AR) (.z [0,1,2,3,4,5] (.hard 6 (.z [7,8,9,10,11,12,13,14,15,16,17,18,19] (.hard 20 (.z [21,22,23] .nil))))) ?_ ?_
 · exact (hs1.drew).d2 0 0 0 1 (fQ (hs1.drew).bel g0 g1 q0:)
 have hs5 := hs1.drew
 clear aF aH kH lg dW
 have Uj : W.heap.size + 1 ≤ ((W.alloc (.cells #[.int .i64 (k : Int), .slice a2 sc.length c2] 150)).drew).heap.size := by simp
 generalize (W.alloc (.cells #[.int .i64 (k : Int), .slice a2 sc.length c2] 150)).drew = F7 at *
 refine aV ?_
 refine gX fun K hK => ?_
 go_wp2_with (go_at_call 146; refine (iZ k 0 (rs.length - 1) _).mono ?_; rintro e w7 ⟨rfl, rfl, rfl⟩)
 refine ⟨(hs5.d2 0 0 0 1 (fQ hs5.bel g0 g1 q0:)), ?_⟩
 refine aV ?_
 refine gX fun K hK => ?_
 go_wp2_with (go_at_call 147; refine (oQ vars sc _ AR _ (Rd.mono qU.out hs5.bel) (by omega) (by omega)).mono ?_; rintro e w8 ⟨rfl, amA⟩)
 have avk : F7.heap.size ≤ w8.heap.size := hZ amA
 have hs9 := hs5.step amA
 refine ⟨(hs9.d2 0 0 0 1 (fQ hs9.bel g0 g1 q0:)), ?_⟩
 refine aV ?_
 obtain ⟨aF, aH⟩ := hs9.c2 0 0 0 1
 obtain ⟨kH, lg, dW⟩ := fQ hs9.bel g0 g1 q0
 refine iF ?_
 go_wp2_with fail
 go_ret
 exact ⟨ak (by rw [H1.out]), hs9.bel⟩
theorem sH (t : dB) (x : Inst) (t0 t1 x0 x1 : Value) (w : World) (ht : Rd w [t0, t1] t) (hx : Rd w [x0, x1] x) :
 Calls prog 81 #[.agg #[t0, t1], .agg #[x0, x1]] w fun e w' => e = .returned (.bool (cu t x)) ∧ Below w.heap.size w w' := by
 obtain ⟨size, rs⟩ := t
 obtain ⟨vars, l⟩ := x
 have HT := qH ht
 have zt := au rfl ht
 obtain ⟨rfl, _⟩ := aG zt.1
 obtain ⟨at0, ct0, rfl, _⟩ := ah zt.2
 have Ov := qH zt.2
 have zx := au rfl hx
 obtain ⟨rfl, _⟩ := aG zx.1
 have HL := qH zx.2
 obtain ⟨a, c, rfl, _⟩ := ah zx.2
 clear ht hx zt zx
 have eg : ∀ args w, (callFunc 145 args).run prog w = .ok (.enter 145 args) w := enters_of func145 (by kernel_rfl) rfl
 have hs10 := (St.start w).alloc #[.int .i64 size, .slice at0 rs.length ct0] 42 (n := w.heap.size) (by simp)
 have hs11 := hs10.alloc #[.int .i64 vars, .slice a l.length c] 46 (n := w.heap.size + 1) (by simp)
 obtain ⟨aF, aH, aJ, aK⟩ := hs11.c4 0 0 0 1 1 0 1 1
 go_enter func81, ntmps81
 go_wp2_with fail
 refine (Gf (size, rs) _ _ _ (Rd.mono HT.out hs11.bel)).mono ?_
 rintro e w12 ⟨rfl, uN⟩
 have Us : w.heap.size + 1 + 1 ≤ w12.heap.size := hZ uN
 have fV := hs11.step uN
 clear aF aH aJ aK
 obtain ⟨aF, aH, aJ, aK⟩ := fV.c4 0 0 0 1 1 0 1 1
 cases h1 : lV (size, rs)
 · have H1 := qH (show cu (size, rs) (vars, l) = false by unfold cu; rw [h1]; rfl)
   clear h1
   go_wp2_with fail
   go_ret
   exact ⟨ak H1.out.symm, fV.bel⟩
 have H1 := qH h1
 have hrl := (dV h1).2.1
 simp only at hrl
 clear h1
 go_wp2_with fail
 refine (aat vars _).mono ?_
 rintro e w14 ⟨rfl, rfl, rfl⟩
 cases h2 : inB vars 1 10
 · have H2 := qH (show cu (size, rs) (vars, l) = false by unfold cu; simp only [h2, Bool.and_false, Bool.false_and])
   clear h2
   go_wp2_with fail
   go_ret
   exact ⟨ak H2.out.symm, fV.bel⟩
 have H2 := qH h2
 have hv := bQ h2
 clear h2
 by_cases hl : l.length ≤ 24
 rotate_left
 · have HLL := qH hl
   go_wp2_with fail
   go_ret
   exact ⟨ak (by simp only [cu, decide_eq_false HLL.out, Bool.and_false, Bool.false_and]), fV.bel⟩
 have HLL := qH hl
 go_wp2_with fail
 refine (uO l _ 145 _ _ _ (Rd.mono HL.out fV.bel) eg (Dy _ _ rs size vars _ _ l (fV.c 0 1) (fV.c 1 0) (Rd.mono Ov.out fV.bel) hrl hv)).mono ?_
 rintro e w15 ⟨rfl, yZ⟩
 have Va : w12.heap.size ≤ w15.heap.size := hZ yZ
 have qW := fV.step yZ
 clear aF aH aJ aK
 obtain ⟨aF, aH, aJ, aK⟩ := qW.c4 0 0 0 1 1 0 1 1
 go_wp2_with fail
 go_ret
 refine ⟨ak ?_, qW.bel⟩
 unfold cu
 simp only [H1.out, H2.out, decide_eq_true HLL.out, Bool.true_and]
 rw [← mM]
theorem Q9 (ar : Int) (l : List Int) (v0 : Value) (w : World) (r0 : Rd w [v0] l) (hs0 : -1000 ≤ ar) (hs1 : ar ≤ 1000000000) :
 Calls prog 138 #[v0, .int .i64 ar] w fun e w' => e = .returned (.bool (l.all (fun a => inB a 0 (ar - 1)))) ∧ w = w' := by
 obtain ⟨a, c, rfl, h0⟩ := ah r0
 have hb0 := (aN h0).2
 unfold maxLen at hb0
 have HR := qH r0
 clear r0 h0
 go_enter func138, ntmps138
 go_wp2_with fail
 go_loop [5] (fun i => ∃ k : Nat, k ≤ l.length ∧ i = .int .i64 k ∧ Hid (∀ j (hj : j < l.length), j < k → inB l[j] 0 (ar - 1) = true)) (fun i => l.length - (intOf i).toNat)
 case atStart => exact ⟨0, Nat.zero_le _, rfl, fun j _ hj => absurd hj (Nat.not_lt_zero _)⟩
 obtain ⟨k, hk, rfl, hr⟩ := hrel
 by_cases hlt : k < l.length
 rotate_left
 · obtain rfl : k = l.length := by omega
   have HA := qH (show l.all (fun a => inB a 0 (ar - 1)) = true by
    rw [List.all_eq_true]
    intro y hy
    obtain ⟨j, hj, rfl⟩ := List.getElem_of_mem hy
    exact hr.out j hj hj)
   go_wp2_with fail
   go_ret
   exact ⟨ak HA.out.symm, rfl⟩
 obtain ⟨b, o, rfl, q0, _⟩ := aI HR.out k hlt
 go_wp2_with fail
 refine (dw l[k] 0 (ar - 1) _).mono ?_
 rintro e w1 ⟨rfl, rfl⟩
 cases hq : inB l[k] 0 (ar - 1)
 · have HQ := qH (show l.all (fun a => inB a 0 (ar - 1)) = false from List.all_eq_false.2 ⟨_, List.getElem_mem hlt, by simp [hq]⟩)
   clear hq
   go_wp2_with fail
   go_ret
   exact ⟨ak HQ.out.symm, rfl⟩
 have HQ := qH hq
 clear hq
 go_wp2_with fail
 go_round
 case rel =>
  refine ⟨k + 1, by omega, by go_num, fun j hj hjk => ?_⟩
  rcases Nat.lt_or_ge j k with h | h
  · exact hr.out j hj h
  obtain rfl : j = k := by omega
  exact HQ.out
 simp [intOf]; omega
theorem G5 (t : dB) (x : Inst) (tb xb : Nat) (t0 t1 x0 x1 : Value) (w : World) (ht : Rd w [t0, t1] t) (hx : Rd w [x0, x1] x)
 (ct0 : w.cell? ⟨tb, 0, none⟩ = some t0) (ct1 : w.cell? ⟨tb, 1, none⟩ = some t1) (PX : w.cell? ⟨xb, 0, none⟩ = some x0) (tH : w.cell? ⟨xb, 1, none⟩ = some x1) :
 Calls prog 79 #[.pointer (some ⟨tb, 0, none⟩), .pointer (some ⟨xb, 0, none⟩)] w fun e w' => e = .returned (.bool (cu t x)) ∧ Below w.heap.size w w' := by
 obtain ⟨size, rs⟩ := t
 obtain ⟨vars, l⟩ := x
 have HT := qH ht
 have zt := au rfl ht
 obtain ⟨rfl, _⟩ := aG zt.1
 obtain ⟨at0, cc0, rfl, _⟩ := ah zt.2
 have Ov := qH zt.2
 have zx := au rfl hx
 obtain ⟨rfl, _⟩ := aG zx.1
 obtain ⟨a, c, rfl, hrl⟩ := ah zx.2
 have hb0 := (aN hrl).2
 unfold maxLen at hb0
 have HLR := qH hrl
 clear ht hx zt zx hrl
 have xE := qC (St.start w).bel ct0
 clear xE
 obtain ⟨xE, zk⟩ := iQ (St.start w).bel ct0 ct1
 clear xE zk
 obtain ⟨xE, zk, Bc⟩ := fQ (St.start w).bel ct0 ct1 PX
 clear xE zk Bc
 obtain ⟨xE, zk, Bc, Dz⟩ := jc (St.start w).bel ct0 ct1 PX tH
 go_enter func79, ntmps79
 go_wp2_with fail
 refine (Ky (size, rs) _ _ _ _ (Rd.mono HT.out (St.start w).bel) (qC (St.start w).bel ct0) (qC (St.start w).bel ct1)).mono ?_
 rintro e PU ⟨rfl, Aa⟩
 have Vb : w.heap.size ≤ PU.heap.size := hZ Aa
 have jP := (St.start w).step Aa
 clear xE zk Bc Dz
 obtain ⟨xE, zk, Bc, Dz⟩ := jc jP.bel ct0 ct1 PX tH
 cases h1 : lV (size, rs)
 · have H1 := qH (show cu (size, rs) (vars, l) = false by unfold cu; rw [h1]; rfl)
   clear h1
   go_wp2_with fail
   go_ret
   exact ⟨ak H1.out.symm, jP.bel⟩
 have H1 := qH h1
 have hrl := (dV h1).2.1
 simp only at hrl
 clear h1
 go_wp2_with fail
 refine (dw vars 1 10 _).mono ?_
 rintro e YZ ⟨rfl, rfl, rfl⟩
 cases h2 : inB vars 1 10
 · have H2 := qH (show cu (size, rs) (vars, l) = false by unfold cu; simp only [h2, Bool.and_false, Bool.false_and])
   clear h2
   go_wp2_with fail
   go_ret
   exact ⟨ak H2.out.symm, jP.bel⟩
 have H2 := qH h2
 have hv := bQ h2
 clear h2
 by_cases hl : l.length ≤ 24
 rotate_left
 · have HLL := qH hl
   go_wp2_with fail
   go_ret
   exact ⟨ak (by simp only [cu, decide_eq_false HLL.out, Bool.and_false, Bool.false_and]), jP.bel⟩
 have H3 := qH (show cu (size, rs) (vars, l) = l.all (sV (size, rs) vars) by unfold cu; simp only [H1.out, H2.out, decide_eq_true hl, Bool.true_and])
 have ew : IntKind.i64.wrap ((rs.length : Int) - 1) = (rs.length : Int) - 1 := i64_in _ (by omega)
 go_wp2_with fail
 go_loopw [5] (fun i wl => ∃ k : Nat, k ≤ l.length ∧ i = .int .i64 k ∧ Hid (Below (PU).heap.size (PU) wl) ∧ Hid (∀ j (hj : j < l.length), j < k → sV (size, rs) vars l[j] = true)) (fun i _ => l.length - (intOf i).toNat)
 case atStart => exact ⟨0, Nat.zero_le _, rfl, Below.refl _ _, fun j _ hj => absurd hj (Nat.not_lt_zero _)⟩
 obtain ⟨k, hk, rfl, hbl, hr⟩ := hrel
 have zV := hbl.out
 have alQ : PU.heap.size ≤ wr.heap.size := hZ zV
 have jC := jP.step zV
 clear xE zk Bc Dz
 obtain ⟨xE, zk, Bc, Dz⟩ := jc jC.bel ct0 ct1 PX tH
 have qh := qH zV
 clear zV hbl
 by_cases hlt : k < l.length
 rotate_left
 · obtain rfl : k = l.length := by omega
   have HA := qH (show l.all (sV (size, rs) vars) = true by
    rw [List.all_eq_true]
    intro y hy
    obtain ⟨j, hj, rfl⟩ := List.getElem_of_mem hy
    exact hr.out j hj hj)
   have hkl : ¬ ((l.length : Int) < l.length) := by omega
   go_wp2_with fail
   go_ret
   exact ⟨ak (by rw [H3.out, HA.out]), jC.bel⟩
 obtain ⟨b, o, u0, u1, rfl, q0, q1, hy⟩ := dP rfl HLR.out k hlt
 have hyz := au rfl hy
 obtain ⟨rfl, XF⟩ := aG hyz.1
 have qU := qH hyz.2
 obtain ⟨a2, c2, rfl, _⟩ := ah hyz.2
 clear hy hyz
 have HK := qH (show ∀ B, sV (size, rs) vars l[k] = B → (B = false → cu (size, rs) (vars, l) = false) by
  intro B e hB
  rw [H3.out]
  exact List.all_eq_false.2 ⟨_, List.getElem_mem hlt, by rw [e, hB]; decide⟩)
 have hkl : (k : Int) < l.length := by omega
 generalize hlk : l[k] = LK at *
 obtain ⟨ci, sc⟩ := LK
 simp only at *
 have YC := qH hlk
 clear hlk
 clear xE zk Bc Dz
 obtain ⟨xE, zk, Bc, Dz, dW, dO⟩ := uZ jC.bel ct0 ct1 PX tH q0 q1
 cases h1 : inB ci 0 (rs.length - 1)
 · have HF := qH (HK.out false (MQ h1) rfl)
   go_upto_region 7 with fail
   refine iT (fun w' => cI w' tb 0 size ∧ cV w' tb 1 (.slice at0 rs.length cc0) ∧ cI w' xb 0 vars ∧ cV w' xb 1 (.slice (some ⟨b, o, none⟩) l.length c) ∧ cI w' b (o + k * 2) ci ∧ cV w' b (o + k * 2 + 1) (.slice a2 sc.length c2)) (.z [0,1,2,3,4,5,6,7,8,9] (.hard 10 (.z [11,12,13,14,15,16,17,18,19,20,21,22,23,24,25,26,27,28,29,30,31,32,33,34,35,36,37,38,39] (.hard 40 (.z [41,42] .nil))))) ?_ ?_
   · exact (uZ (jC.drew).bel ct0 ct1 PX tH q0 q1:)
   have qw := jC.drew
   clear qh
   clear xE zk Bc Dz dW dO
   have aoG : wr.heap.size ≤ (wr.drew).heap.size := by simp
   generalize wr.drew = ayf at *
   refine aV ?_
   refine gX fun K hK => ?_
   go_wp2_with (go_at_call 137; refine (dw ci 0 (rs.length - 1) _).mono ?_; rintro e w24 ⟨rfl, rfl, rfl⟩)
   refine ⟨(uZ qw.bel ct0 ct1 PX tH q0 q1:), ?_⟩
   refine aV ?_
   refine eG rfl (by rfl) ?_ ?_
   · exact (uZ qw.bel ct0 ct1 PX tH q0 q1:)
   (try simp only [Act.put, sI, sZ, sS])
   refine aV ?_
   obtain ⟨xE, zk, Bc, Dz, dW, dO⟩ := uZ qw.bel ct0 ct1 PX tH q0 q1
   refine iF ?_
   go_wp2_with fail
   go_ret
   exact ⟨ak HF.out.symm, qw.bel⟩
 have h2 := bQ h1
 obtain ⟨j, rfl⟩ : ∃ j : Nat, ci = j := ⟨ci.toNat, by omega⟩
 have hj : j < rs.length := by omega
 obtain ⟨b3, o3, y0, y1, rfl, r0, r1, hy⟩ := dL rfl Ov.out j hj
 have hyz := au rfl hy
 obtain ⟨rfl, _⟩ := aG hyz.1
 have HV := qH (Js (size := size) (vars := vars) (sc := sc) hj)
 clear hy hyz
 generalize rs[j].1 = AR at *
 have hjl : (j : Int) < rs.length := by omega
 clear xE zk Bc Dz dW dO
 obtain ⟨xE, zk, Bc, Dz, dW, dO, r0_⟩ := JX jC.bel ct0 ct1 PX tH q0 q1 r0
 by_cases h4 : (sc.length : Int) = AR
 rotate_left
 · have h5 : ((sc.length : Int) != AR) = true := by simp [h4]
   have HF := qH (HK.out false (by rw [HV.out]; unfold bG; rw [decide_eq_false h4]; rfl) rfl)
   clear h4
   go_upto_region 7 with fail
   refine iT (fun w' => cI w' tb 0 size ∧ cV w' tb 1 (.slice (some ⟨b3, o3, none⟩) rs.length cc0) ∧ cI w' xb 0 vars ∧ cV w' xb 1 (.slice (some ⟨b, o, none⟩) l.length c) ∧ cI w' b (o + k * 2) (j : Int) ∧ cV w' b (o + k * 2 + 1) (.slice a2 sc.length c2) ∧ cI w' b3 (o3 + j * 2) AR) (.z [0,1,2,3,4,5,6,7,8,9] (.hard 10 (.z [11,12,13,14,15,16,17,18,19,20,21,22,23,24,25,26,27,28,29,30,31,32,33,34,35,36,37,38,39] (.hard 40 (.z [41,42] .nil))))) ?_ ?_
   · exact (JX (jC.drew).bel ct0 ct1 PX tH q0 q1 r0:)
   have qV := jC.drew
   clear qh
   clear xE zk Bc Dz dW dO r0_
   have XC : wr.heap.size ≤ (wr.drew).heap.size := by simp
   generalize wr.drew = zi at *
   refine aV ?_
   refine gX fun K hK => ?_
   go_wp2_with (go_at_call 137; refine (dw j 0 (rs.length - 1) _).mono ?_; rintro e w33 ⟨rfl, rfl, rfl⟩)
   refine ⟨(JX qV.bel ct0 ct1 PX tH q0 q1 r0:), ?_⟩
   refine aV ?_
   refine eG rfl (by rfl) ?_ ?_
   · exact (JX qV.bel ct0 ct1 PX tH q0 q1 r0:)
   (try simp only [Act.put, sI, sZ, sS])
   refine aV ?_
   obtain ⟨xE, zk, Bc, Dz, dW, dO, r0_⟩ := JX qV.bel ct0 ct1 PX tH q0 q1 r0
   refine iF ?_
   go_wp2_with fail
   go_ret
   exact ⟨ak HF.out.symm, qV.bel⟩
 have h5 : ((sc.length : Int) != AR) = false := by simp [h4]
 have HV2 := qH (show sV (size, rs) vars ((j : Int), sc) = sc.all (fun a => inB a 0 (vars - 1)) by rw [HV.out]; unfold bG; rw [decide_eq_true h4]; rfl)
 clear h4
 go_upto_region 7 with fail
 refine iT (fun w' => cI w' tb 0 size ∧ cV w' tb 1 (.slice (some ⟨b3, o3, none⟩) rs.length cc0) ∧ cI w' xb 0 vars ∧ cV w' xb 1 (.slice (some ⟨b, o, none⟩) l.length c) ∧ cI w' b (o + k * 2) (j : Int) ∧ cV w' b (o + k * 2 + 1) (.slice a2 sc.length c2) ∧ cI w' b3 (o3 + j * 2) AR) (.z [0,1,2,3,4,5,6,7,8,9] (.hard 10 (.z [11,12,13,14,15,16,17,18,19,20,21,22,23,24,25,26,27,28,29,30,31,32,33,34,35,36,37,38,39] (.hard 40 (.z [41,42] .nil))))) ?_ ?_
 · exact (JX (jC.drew).bel ct0 ct1 PX tH q0 q1 r0:)
 have qR := jC.drew
 have aiH := qH (qh.out.trans (((belowD _)).mono qh.out.size))
 clear qh
 clear xE zk Bc Dz dW dO r0_
 have Xm : wr.heap.size ≤ (wr.drew).heap.size := by simp
 generalize wr.drew = UD at *
 refine aV ?_
 refine gX fun K hK => ?_
 go_wp2_with (go_at_call 137; refine (dw j 0 (rs.length - 1) _).mono ?_; rintro e w28 ⟨rfl, rfl, rfl⟩)
 refine ⟨(JX qR.bel ct0 ct1 PX tH q0 q1 r0:), ?_⟩
 refine aV ?_
 refine gX fun K hK => ?_
 go_wp2_with (go_at_call 138; refine (Q9 vars sc _ _ (Rd.mono qU.out qR.bel) (by omega) (by omega)).mono ?_; rintro e w29 ⟨rfl, rfl, rfl⟩)
 refine ⟨(JX qR.bel ct0 ct1 PX tH q0 q1 r0:), ?_⟩
 refine aV ?_
 obtain ⟨xE, zk, Bc, Dz, dW, dO, r0_⟩ := JX qR.bel ct0 ct1 PX tH q0 q1 r0
 refine iF ?_
 cases h6 : sc.all (fun a => inB a 0 (vars - 1))
 · have HF := qH (HK.out false (by rw [HV2.out, h6]) rfl)
   clear h6
   go_wp2_with fail
   go_ret
   exact ⟨ak HF.out.symm, qR.bel⟩
 have HT6 := qH (HV2.out.trans h6)
 clear h6
 go_wp2_with fail
 go_roundw
 case rel =>
  refine ⟨k + 1, by omega, by go_num, aiH.out, fun i hi hik => ?_⟩
  rcases Nat.lt_or_ge i k with h | h
  · exact hr.out i hi h
  obtain rfl : i = k := by omega
  rw [YC.out]; exact HT6.out
 simp [intOf]; omega
theorem YD {lo hi : Int} {l : List Int} (h : ∀ j, j < l.length → uS lo hi l j = true) : iE lo hi l = true := by
 unfold iE
 rw [List.all_eq_true]
 exact fun j hj => h j (List.mem_range.1 hj)
theorem Vd {lo hi : Int} {l : List Int} (j : Nat) (hj : j < l.length) (h : uS lo hi l j = false) : iE lo hi l = false := by
 unfold iE
 rw [List.all_eq_false]
 exact ⟨j, List.mem_range.2 hj, by rw [h]; decide⟩
theorem Jt (l : List Int) (lo hi : Int) (v : Value) (w : World) (r : Rd w [v] l) :
 Calls prog 342 #[v, .int .i64 lo, .int .i64 hi] w fun e w' => e = .returned (.bool (iE lo hi l)) ∧ Below w.heap.size w w' := by
 obtain ⟨a, c, rfl, h0⟩ := ah r
 have hb0 := (aN h0).2
 unfold maxLen at hb0
 have HR := qH r
 clear r h0
 go_enter func342, ntmps342
 go_wp2_with fail
 go_loopw [7] (fun i wl => ∃ k : Nat, k ≤ l.length ∧ i = .int .i64 k ∧ Hid (Below w.heap.size w wl) ∧ Hid (∀ j, j < k → uS lo hi l j = true)) (fun i _ => l.length - (intOf i).toNat)
 case atStart => exact ⟨0, Nat.zero_le _, rfl, Below.refl _ _, fun j hj => absurd hj (Nat.not_lt_zero _)⟩
 obtain ⟨k, hk, rfl, hbl, ht⟩ := hrel
 have hsr := (St.start w).step hbl.out
 clear hbl
 by_cases hlt : k < l.length
 rotate_left
 · obtain rfl : k = l.length := by omega
   have HT := qH (YD ht.out)
   have hkl : ¬ ((l.length : Int) < l.length) := by omega
   go_wp2_with fail
   go_ret
   exact ⟨ak HT.out.symm, hsr.bel⟩
 obtain ⟨b, o, rfl, q0, _⟩ := aI HR.out k hlt
 have hkl : (k : Int) < l.length := by omega
 have Xz := qH (show uS lo hi l k = (inB l[k] lo hi && (decide (k = 0) || decide (l.getD (k - 1) 0 < l[k]))) by unfold uS; rw [show l.getD k 0 = l[k] by simp [List.getD, hlt]])
 have Ve := qH (fun h => Vd (lo := lo) (hi := hi) (l := l) k hlt h)
 have pW := qH (fun (h : uS lo hi l k = true) => show ∀ j, j < k + 1 → uS lo hi l j = true from fun j hj => by
  rcases Nat.lt_or_ge j k with h1 | h1
  · exact ht.out j h1
  · obtain rfl : j = k := by omega
    exact h)
 have HG1 := qH (fun (j : Nat) (hj : k = j + 1) => show l.getD (k - 1) 0 = l[j] by subst hj; simp [List.getD, show j < l.length by omega])
 generalize hA : l[k] = A at *
 have dW := qC hsr.bel q0
 cases h4 : inB A lo hi
 · have H4 := qH (Ve.out (by rw [Xz.out, h4]; rfl))
   go_upto_region 4 with fail
   refine iT (fun w' => cI w' b (o + k) A) (.z [0,1,2,3,4,5] (.hard 6 (.z [7,8,9,10,11,12,13,14,15,16,17,18,19,20,21,22,23] .nil))) ?_ ?_
   · exact qC (hsr.drew).bel q0
   have xA := hsr.drew
   clear dW
   have aeF : wr.heap.size ≤ (wr.drew).heap.size := by simp
   generalize wr.drew = arW at *
   refine aV ?_
   refine gX fun K hK => ?_
   go_wp2_with (go_at_call 137; refine (dw A lo hi _).mono ?_; rintro e w36 ⟨rfl, rfl⟩)
   clear h4
   refine ⟨(qC xA.bel q0), ?_⟩
   refine aV ?_
   have dW := qC xA.bel q0
   refine iF ?_
   go_wp2_with fail
   go_ret
   exact ⟨ak H4.out.symm, xA.bel⟩
 have H4 := qH h4
 clear h4
 by_cases hk0 : k = 0
 · have HD := qH (show decide (0 < k) = false by simp [hk0])
   have H5 := qH (pW.out (by rw [Xz.out, H4.out, decide_eq_true hk0]; rfl))
   clear hk0
   go_upto_region 4 with fail
   refine iT (fun w' => cI w' b (o + k) A) (.z [0,1,2,3,4,5] (.hard 6 (.z [7,8,9,10,11,12,13,14,15,16,17,18,19,20,21,22,23] .nil))) ?_ ?_
   · exact qC (hsr.drew).bel q0
   have nY := hsr.drew
   clear dW
   have aoI : wr.heap.size ≤ (wr.drew).heap.size := by simp
   generalize wr.drew = ayh at *
   refine aV ?_
   (try (rw [HD.out]; refine aV ?_))
   refine gX fun K hK => ?_
   go_wp2_with (go_at_call 137; refine (dw A lo hi _).mono ?_; rintro e w39 ⟨rfl, rfl⟩)
   rw [H4.out]
   refine ⟨(qC nY.bel q0), ?_⟩
   refine aV ?_
   (try (rw [HD.out]; refine aV ?_))
   have dW := qC nY.bel q0
   refine iF ?_
   go_wp2_with fail
   go_roundw
   case rel => exact ⟨k + 1, by omega, by go_num, nY.bel, H5.out⟩
   simp [intOf]; omega
 obtain ⟨j, hkj⟩ : ∃ j, k = j + 1 := ⟨k - 1, by omega⟩
 have HD := qH (show decide (0 < k) = true by simp [hkj])
 have hjl : j < l.length := by omega
 have hGJ := HG1.out j hkj
 obtain ⟨b', o', e1, q1, _⟩ := aI HR.out j hjl
 simp only [Option.some.injEq, Addr.mk.injEq, and_true] at e1
 obtain ⟨rfl, rfl⟩ := e1
 rw [hGJ, decide_eq_false hk0, Bool.false_or, H4.out, Bool.true_and] at Xz
 clear hGJ
 generalize hB : l[j] = B at *
 clear dW
 obtain ⟨dW, dO⟩ := iQ hsr.bel q0 q1
 have ej : (k : Int) - 1 = (j : Int) := by omega
 have ejw : IntKind.i64.wrap (j : Int) = (j : Int) := i64_in _ (by omega)
 have hjI : (j : Int) < l.length := by omega
 clear hkj hk0
 by_cases hlt2 : B < A
 · have h6 : ¬ (A ≤ B) := by omega
   have H5 := qH (pW.out (by rw [Xz.out]; exact decide_eq_true hlt2))
   clear hlt2
   go_upto_region 4 with fail
   refine iT (fun w' => cI w' b (o + k) A ∧ cI w' b (o + j) B) (.z [0,1,2,3,4,5] (.hard 6 (.z [7,8,9,10,11,12,13,14,15,16,17,18,19,20,21,22,23] .nil))) ?_ ?_
   · exact (iQ (hsr.drew).bel q0 q1:)
   have sF := hsr.drew
   clear dW dO
   have XG : wr.heap.size ≤ (wr.drew).heap.size := by simp
   generalize wr.drew = aiI at *
   refine aV ?_
   (try (rw [HD.out]; refine aV ?_))
   refine gX fun K hK => ?_
   go_wp2_with (go_at_call 137; refine (dw A lo hi _).mono ?_; rintro e w42 ⟨rfl, rfl⟩)
   rw [H4.out]
   refine ⟨(iQ sF.bel q0 q1:), ?_⟩
   refine aV ?_
   (try (rw [HD.out]; refine aV ?_))
   obtain ⟨dW, dO⟩ := iQ sF.bel q0 q1
   refine iF ?_
   go_wp2_with fail
   go_roundw
   case rel => exact ⟨k + 1, by omega, by go_num, sF.bel, H5.out⟩
   simp [intOf]; omega
 have h6 : A ≤ B := by omega
 have H5 := qH (Ve.out (by rw [Xz.out]; exact decide_eq_false hlt2))
 clear hlt2
 go_upto_region 4 with fail
 refine iT (fun w' => cI w' b (o + k) A ∧ cI w' b (o + j) B) (.z [0,1,2,3,4,5] (.hard 6 (.z [7,8,9,10,11,12,13,14,15,16,17,18,19,20,21,22,23] .nil))) ?_ ?_
 · exact (iQ (hsr.drew).bel q0 q1:)
 have pV := hsr.drew
 clear dW dO
 have aoJ : wr.heap.size ≤ (wr.drew).heap.size := by simp
 generalize wr.drew = ayi at *
 refine aV ?_
 (try (rw [HD.out]; refine aV ?_))
 refine gX fun K hK => ?_
 go_wp2_with (go_at_call 137; refine (dw A lo hi _).mono ?_; rintro e w45 ⟨rfl, rfl⟩)
 rw [H4.out]
 refine ⟨(iQ pV.bel q0 q1:), ?_⟩
 refine aV ?_
 (try (rw [HD.out]; refine aV ?_))
 obtain ⟨dW, dO⟩ := iQ pV.bel q0 q1
 refine iF ?_
 go_wp2_with fail
 go_ret
 exact ⟨ak H5.out.symm, pV.bel⟩
theorem O4 (size vars : Int) (ds : List (List Int)) (pb po qb qo : Nat) (v : Value) (w : World) (hp : w.cell? ⟨pb, po, none⟩ = some (.int .i64 size)) (hq : w.cell? ⟨qb, qo, none⟩ = some (.int .i64 vars)) (r : Rd w [v] ds) (hs : 1 ≤ size ∧ size ≤ 4) :
 Calls prog 330 #[.pointer (some ⟨pb, po, none⟩), .pointer (some ⟨qb, qo, none⟩), v] w fun e w' => e = .returned (.bool (decide ((ds.length : Int) = vars) && ds.all (iE 0 (size - 1)))) ∧ Below w.heap.size w w' := by
 obtain ⟨a, c, rfl, h0⟩ := ah r
 have hb0 := (aN h0).2
 unfold maxLen at hb0
 have HR := qH h0
 clear r h0
 have PY := qC (St.start w).bel hp
 clear PY
 obtain ⟨PY, hq_⟩ := iQ (St.start w).bel hp hq
 go_enter func330, ntmps330
 go_wp2_with fail
 go_loopw [7] (fun i wl => ∃ k : Nat, k ≤ ds.length ∧ i = .int .i64 k ∧ Hid (Below w.heap.size w wl) ∧ Hid (∀ j (hj : j < ds.length), j < k → iE 0 (size - 1) ds[j] = true)) (fun i _ => ds.length - (intOf i).toNat)
 case atStart => exact ⟨0, Nat.zero_le _, rfl, Below.refl _ _, fun j _ hj => absurd hj (Nat.not_lt_zero _)⟩
 obtain ⟨k, hk, rfl, hbl, ht⟩ := hrel
 have hsr := (St.start w).step hbl.out
 obtain ⟨PY, hq_⟩ := iQ hsr.bel hp hq
 clear hbl
 by_cases hlt : k < ds.length
 rotate_left
 · obtain rfl : k = ds.length := by omega
   have HT := qH (show ds.all (iE 0 (size - 1)) = true by
    rw [List.all_eq_true]
    intro d hd
    obtain ⟨j, hj, rfl⟩ := List.getElem_of_mem hd
    exact ht.out j hj hj)
   have hkl : ¬ ((ds.length : Int) < ds.length) := by omega
   go_wp2_with fail
   go_ret
   exact ⟨ak (by rw [HT.out, Bool.and_true]; first | rfl | (rw [Bool.eq_iff_iff]; simp)), hsr.bel⟩
 obtain ⟨b, o, u0, rfl, q0, hx⟩ := bF rfl HR.out k hlt
 have HX := qH hx
 obtain ⟨a0, c0, rfl, _⟩ := ah hx
 have hkl : (k : Int) < ds.length := by omega
 have HG := qH (show ∀ q, iE 0 (size - 1) ds[k] = q → (q = true → ∀ j (hj : j < ds.length), j < k + 1 → iE 0 (size - 1) ds[j] = true) ∧ (q = false → ds.all (iE 0 (size - 1)) = false) from fun q hq => ⟨fun h j hj hjk => by
  rcases Nat.lt_or_ge j k with h1 | h1
  · exact ht.out j hj h1
  · obtain rfl : j = k := by omega
    rw [hq, h], fun h => by
  rw [List.all_eq_false]
  exact ⟨ds[k], List.getElem_mem hlt, by rw [hq, h]; decide⟩⟩)
 clear hx
 generalize ds[k] = D at *
 clear PY hq_
 obtain ⟨PY, hq_, dW⟩ := fQ hsr.bel hp hq q0
 have esw : IntKind.i64.wrap (size - 1) = size - 1 := i64_in _ (by omega)
 cases h1 : iE 0 (size - 1) D
 · have H1 := qH ((HG.out _ h1).2 rfl)
   have HE := qH h1
   clear h1
   go_upto_region 4 with fail
   refine iT (fun w' => cI w' pb po size ∧ cI w' qb qo vars ∧ cV w' b (o + k) (.slice a0 D.length c0)) (.z [0,1,2,3,4,5,6,7,8] (.hard 9 (.float 10 .nil))) ?_ ?_
   · exact (fQ (hsr.drew).bel hp hq q0:)
   have Ci := hsr.drew
   clear PY hq_ dW
   have XH : wr.heap.size ≤ (wr.drew).heap.size := by simp
   generalize wr.drew = Vf at *
   refine aV ?_
   refine gX fun K hK => ?_
   go_wp2_with (go_at_call 342; refine (Jt D 0 (size - 1) _ _ (Rd.mono HX.out Ci.bel)).mono ?_; rintro e w52 ⟨rfl, Ju⟩)
   have aiK : Vf.heap.size ≤ w52.heap.size := hZ Ju
   have zl := Ci.step Ju
   rw [HE.out]
   refine ⟨(fQ zl.bel hp hq q0:), ?_⟩
   refine aV ?_
   obtain ⟨PY, hq_, dW⟩ := fQ zl.bel hp hq q0
   refine iF ?_
   go_wp2_with fail
   go_ret
   exact ⟨ak (by rw [H1.out, Bool.and_false]), zl.bel⟩
 have H1 := qH ((HG.out _ h1).1 rfl)
 have HE := qH h1
 clear h1
 go_upto_region 4 with fail
 refine iT (fun w' => cI w' pb po size ∧ cI w' qb qo vars ∧ cV w' b (o + k) (.slice a0 D.length c0)) (.z [0,1,2,3,4,5,6,7,8] (.hard 9 (.float 10 .nil))) ?_ ?_
 · exact (fQ (hsr.drew).bel hp hq q0:)
 have rY := hsr.drew
 clear PY hq_ dW
 have aoM : wr.heap.size ≤ (wr.drew).heap.size := by simp
 generalize wr.drew = arX at *
 refine aV ?_
 refine gX fun K hK => ?_
 go_wp2_with (go_at_call 342; refine (Jt D 0 (size - 1) _ _ (Rd.mono HX.out rY.bel)).mono ?_; rintro e w48 ⟨rfl, Rf⟩)
 have aiL : arX.heap.size ≤ w48.heap.size := hZ Rf
 have ku := rY.step Rf
 rw [HE.out]
 refine ⟨(fQ ku.bel hp hq q0:), ?_⟩
 refine aV ?_
 obtain ⟨PY, hq_, dW⟩ := fQ ku.bel hp hq q0
 refine iF ?_
 go_wp2_with fail
 go_roundw
 case rel => exact ⟨k + 1, by omega, by go_num, ku.bel, H1.out⟩
 simp [intOf]; omega
def mZ (t : dB) (x : Inst) (ds : List (List Int)) : Bool := cu t x && (decide ((ds.length : Int) = x.1) && ds.all (iE 0 (t.1 - 1)))
theorem YE (t : dB) (x : Inst) (ds : List (List Int)) (pb qb : Nat) (t0 t1 x0 x1 v : Value) (w : World) (ht : Rd w [t0, t1] t) (hx : Rd w [x0, x1] x) (hp0 : w.cell? ⟨pb, 0, none⟩ = some t0) (hp1 : w.cell? ⟨pb, 1, none⟩ = some t1) (hq0 : w.cell? ⟨qb, 0, none⟩ = some x0) (hq1 : w.cell? ⟨qb, 1, none⟩ = some x1) (r : Rd w [v] ds) :
 Calls prog 289 #[.pointer (some ⟨pb, 0, none⟩), .pointer (some ⟨qb, 0, none⟩), v] w fun e w' => e = .returned (.bool (mZ t x ds)) ∧ Below w.heap.size w w' := by
 obtain ⟨a, c, rfl, _⟩ := ah r
 have HT := qH ht
 have HX := qH hx
 have HD := qH r
 have HP0 := qH hp0
 have HQ0 := qH hq0
 have zt := au rfl ht
 obtain ⟨rfl, _⟩ := aG zt.1
 have zx := au rfl hx
 obtain ⟨rfl, _⟩ := aG zx.1
 have HP1 := qH hp1
 have HQ1 := qH hq1
 clear ht hx r hp0 hp1 hq0 hq1 zt zx
 go_enter func289, ntmps289
 go_wp2_with fail
 refine (G5 t x pb qb _ _ _ _ _ (Rd.mono HT.out (St.start w).bel) (Rd.mono HX.out (St.start w).bel) (qC (St.start w).bel HP0.out) (qC (St.start w).bel HP1.out) (qC (St.start w).bel HQ0.out) (qC (St.start w).bel HQ1.out)).mono ?_
 rintro e w54 ⟨rfl, afZ⟩
 have arZ : w.heap.size ≤ w54.heap.size := hZ afZ
 have Cj := (St.start w).step afZ
 cases h1 : cu t x
 · have H1 := qH (show mZ t x ds = false by unfold mZ; rw [h1]; rfl)
   clear h1
   go_wp2_with fail
   go_ret
   exact ⟨ak H1.out.symm, Cj.bel⟩
 have hs := (dV (aX h1).1).1
 have H1 := qH (show mZ t x ds = (decide ((ds.length : Int) = x.1) && ds.all (iE 0 (t.1 - 1))) by unfold mZ; rw [h1]; rfl)
 clear h1
 go_wp2_with fail
 refine (O4 t.1 x.1 ds pb 0 qb 0 _ _ (qC Cj.bel HP0.out) (qC Cj.bel HQ0.out) (Rd.mono HD.out Cj.bel) hs).mono ?_
 rintro e w56 ⟨rfl, Rh⟩
 have aiM : w54.heap.size ≤ w56.heap.size := hZ Rh
 have O5 := Cj.step Rh
 go_wp2_with fail
 go_ret
 exact ⟨ak H1.out.symm, O5.bel⟩
theorem DC (l : List Int) : Go.Lib.compact (sG l) = vY l := rfl
theorem Vg (B g cap : Nat) (l : List Int) (w : World) (hrow : w.ownsRow B 2 1 (.slice (some ⟨g, 0, none⟩) l.length cap) l.length (iM l)) (hl : l.length ≤ 1073741824) :
 Calls prog 313 #[.slice (some ⟨g, 0, none⟩) l.length cap] w fun e w' => e = .returned (.tuple #[]) ∧ w'.ownsRow B 2 1 (.slice (some ⟨g, 0, none⟩) (sG l).length cap) (sG l).length (iM (sG l)) ∧ But [g] w w' := by
 obtain ⟨g', cap', e, hg1, hg2, hc1, hc2, _, hH⟩ := Go.Lib.holds_of_ownsRow hrow (by simp)
 simp only [Value.slice.injEq, Option.some.injEq, Addr.mk.injEq, and_true, true_and] at e
 obtain ⟨rfl, rfl⟩ := e
 refine (AnyM.slices_Sort_int Tryz.laysSlM5 g 0 cap l w hH hg2 (by omega)).mono ?_
 rintro e w' ⟨rfl, n, os, rfl⟩
 refine ⟨rfl, ?_, ?_⟩
 · rcases hrow.2 with ⟨e0, _⟩ | ⟨g', cap', cur, e0, hb, hg, hn, hm, hs, ht⟩
   · cases e0
   simp only [Value.slice.injEq, Option.some.injEq, Addr.mk.injEq, and_true, true_and] at e0
   obtain ⟨rfl, rfl⟩ := e0
   have h := ownsRow_sortedI (w := w) (base := B) (os := os) (n := n) (ss := l) (ts := sG l) (Dx l) hb hg hn hm hs
   rw [Dx l]
   exact h
 obtain ⟨h1, h2, h3, h4, h5⟩ := grownBy_sortedI (w := w) (g := g) (n := n) (os := os) (sG l).toArray
 exact ⟨by first | exact h1 | exact h2 | exact h3, by first | exact h1 | exact h2 | exact h3, by first | exact h1 | exact h2 | exact h3, h4, fun k hk hn => h5 k hk (fun h => hn (by simp only [Option.some.injEq] at h; simp [h]))⟩
theorem KG (B g cap : Nat) (l : List Int) (w : World) (hrow : w.ownsRow B 2 1 (.slice (some ⟨g, 0, none⟩) l.length cap) l.length (iM l)) (hcl : (Go.Lib.compact l).length ≤ l.length) :
 Calls prog 314 #[.slice (some ⟨g, 0, none⟩) l.length cap] w fun e w' => e = .returned (.slice (some ⟨g, 0, none⟩) (Go.Lib.compact l).length cap) ∧ w'.ownsRow B 2 1 (.slice (some ⟨g, 0, none⟩) (Go.Lib.compact l).length cap) (Go.Lib.compact l).length (iM (Go.Lib.compact l)) ∧ But [g] w w' := by
 obtain ⟨g', cap', e, hg1, hg2, hc1, hc2, _, hH⟩ := Go.Lib.holds_of_ownsRow hrow (by simp)
 simp only [Value.slice.injEq, Option.some.injEq, Addr.mk.injEq, and_true, true_and] at e
 obtain ⟨rfl, rfl⟩ := e
 unfold maxLen at hc2
 refine (AnyG.slices_Compact_int Tryz.laysSlN43 g 0 cap l w hH (by omega) (by omega)).mono ?_
 rintro e w' ⟨rfl, q, rfl⟩
 refine ⟨rfl, ?_, ?_⟩
 · have h := Go.Lib.ownsRow_putRow (q := q) (k := (Go.Lib.compact l).length) (ys := Go.Lib.compact l ++ List.replicate (l.length - (Go.Lib.compact l).length) 0) hrow (by simp; omega) hcl
   rw [List.take_left] at h
   exact h
 exact ⟨rfl, rfl, rfl, by simp [Go.Sort.putRow, Go.Sort.mapBlock, Go.Sort.ahead], fun k hk hn => by
  have : g ≠ k := fun e => hn (by simp [e])
  simp [Go.Sort.putRow, Go.Sort.mapBlock, Go.Sort.ahead, Array.getElem?_modify, this]⟩
theorem abt (l : List Int) (v : Value) (w : World) (r : Rd w [v] l) (hl : l.length ≤ 1073741824) :
 Calls prog 232 #[v] w fun e w' => ∃ v', e = .returned v' ∧ Acc w.heap.size w'.heap.size 2 w' v' (vY l) ∧ Below w.heap.size w w' := by
 have HR := qH r
 obtain ⟨a, c, rfl, _⟩ := ah r
 clear r
 go_enter func232, ntmps232
 go_wp2_with fail
 refine (jm l _ _ HR.out hl).mono ?_
 rintro e w1 ⟨v1, rfl, hA1, hb1⟩
 obtain ⟨hrow, hbk, hI⟩ := tu hA1
 by_cases hn : v1 = .slice none 0 0
 · subst hn
   have h0 : l.length = 0 := by
    rcases hrow.2 with ⟨_, h⟩ | ⟨g, cap, cur, e0, _⟩
    · exact h
    cases e0
   have HB := qH hb1
   have HE := qH (show vY l = [] by
    obtain rfl : l = [] := List.length_eq_zero_iff.1 h0
    exact XE List.Pairwise.nil)
   clear hA1 hrow hbk hI hb1 h0
   go_wp2_with fail
   refine (AnyM.slices_Sort_int_none Tryz.laysSlM5 none 0 w1).mono ?_
   rintro e w2 ⟨rfl, rfl⟩
   go_wp2_with fail
   refine (AnyG.slices_Compact_int_empty Tryz.laysSlN43 none 0 w2).mono ?_
   rintro e w3 ⟨rfl, rfl⟩
   go_wp2_with fail
   go_ret
   refine ⟨_, rfl, ?_, HB.out⟩
   rw [HE.out]
   exact Acc.nil _ _ _ _
 rcases hrow.2 with ⟨e0, _⟩ | ⟨g, cap, cur, rfl, hb, hg, hn2, hm, hs, ht⟩
 · exact absurd e0 hn
 have hgs : g < w1.heap.size := (Array.getElem?_eq_some_iff.1 hg).1
 have oZ := qH hrow
 have HI := qH hI
 have HB := qH hb1
 clear hA1 hrow hbk hI hb1 hn hg hs ht
 go_wp2_with fail
 refine (Vg w.heap.size g cap l w1 oZ.out hl).mono ?_
 rintro e w2 ⟨rfl, hrow2, MR⟩
 have HR2 := qH hrow2
 have HB2 := qH MR
 have HCE := qH (DC l)
 have hcl : (Go.Lib.compact (sG l)).length ≤ (sG l).length := by rw [DC, Dx]; exact abq l
 have hsl : (sG l).length = l.length := Dx l
 have HCM := qH (fun W H => KG w.heap.size g cap (sG l) W H hcl)
 rw [hsl] at HCM HR2
 clear hrow2 MR hcl hsl
 go_wp2_with fail
 refine (HCM.out w2 HR2.out).mono ?_
 rintro e w3 ⟨rfl, hrow3, abu⟩
 rw [HCE.out] at hrow3 ⊢
 have HR3 := qH hrow3
 have HB3 := qH (HB.out.trans (((HB2.out.trans abu).below (B := w.heap.size) (by simp; exact hb) HB.out.size)))
 have hs3 : g < w3.heap.size := by have h1 := HB2.out.size; have h2 := abu.size; omega
 have HA := qH (rJ (H := w3.heap.size) HR3.out (fun k hk => by
  simp only [Value.ownBlock, Option.some.injEq] at hk
  subst hk
  exact ⟨hb, hs3⟩) (fun a ha => HI.out a (abp.1 ha)))
 clear hrow3 abu
 go_wp2_with fail
 go_ret
 exact ⟨_, rfl, HA.out, HB3.out⟩
theorem Ac (l1 l2 : List Int) (v1 v2 : Value) (w : World) (r1 : Rd w [v1] l1) (r2 : Rd w [v2] l2) :
 Calls prog 299 #[v1, v2] w fun e w' => e = .returned (.bool (decide (l1 = l2))) ∧ Below w.heap.size w w' := by
 obtain ⟨a1, c1, rfl, h1⟩ := ah r1
 obtain ⟨a2, c2, rfl, h2⟩ := ah r2
 clear r1 r2
 have b1 := (aN h1).2
 have b2 := (aN h2).2
 unfold maxLen at b1 b2
 have G1 := qH h1
 have G2 := qH h2
 clear h1 h2
 by_cases hl : l1.length = l2.length
 rotate_left
 · have hl' : ((l1.length : Int) != l2.length) = true := by simp; omega
   have HL := qH hl
   clear hl
   go_enter func299, ntmps299
   go_wp2_with fail
   go_ret
   refine ⟨ak ?_, Below.refl _ _⟩
   symm
   simp only [decide_eq_false_iff_not]
   rintro rfl
   exact HL.out rfl
 generalize hn1 : l1.length = n1 at *
 generalize hn2 : l2.length = n2 at *
 have H1 := qH hn1
 have H2 := qH hn2
 clear hn1 hn2
 subst hl
 have hl' : ((n1 : Int) != n1) = false := by simp
 go_enter func299, ntmps299
 go_wp2_with fail
 go_loopw [13] (fun i wr => ∃ k : Nat, k ≤ n1 ∧ i = .int .i64 k ∧ Hid (Below w.heap.size w wr) ∧ Hid (l1.take k = l2.take k)) (fun i _ => n1 - (intOf i).toNat)
 case atStart => exact ⟨0, Nat.zero_le _, rfl, Below.refl _ _, by simp [Hid]⟩
 obtain ⟨k, hk, rfl, hbl, hr⟩ := hrel
 by_cases hlt : k < n1
 rotate_left
 · obtain rfl : k = n1 := by omega
   go_wp2_with fail
   go_ret
   exact ⟨ak (by simp [oP H1.out H2.out hr.out]), hbl.out⟩
 have k1 : k < l1.length := by rw [H1.out]; exact hlt
 have k2 : k < l2.length := by rw [H2.out]; exact hlt
 obtain ⟨b1, o1, u0, rfl, q0, hx⟩ := bF rfl (aS hbl.out G1.out) k k1
 obtain ⟨b2, o2, t0, rfl, p0, hy⟩ := bF rfl (aS hbl.out G2.out) k k2
 obtain ⟨rfl, _⟩ := aG hx
 obtain ⟨rfl, _⟩ := aG hy
 clear hx hy
 by_cases he : l1[k] = l2[k]
 · have hb : (l1[k] != l2[k]) = false := by simpa using he
   have HE := qH he
   clear he
   go_wp2_with fail
   go_quiet (fail)
   go_wp2_with fail
   go_roundw
   case rel => exact ⟨k + 1, by omega, by go_num, hbl.out.trans ((dQ _ _).mono hbl.out.size), mG k1 k2 hr.out HE.out⟩
   simp [intOf]; omega
 have hb : (l1[k] != l2[k]) = true := by simpa using he
 have HE := qH he
 clear he
 go_wp2_with fail
 go_quiet (fail)
 go_wp2_with fail
 go_ret
 exact ⟨ak (by simp [vM k1 k2 HE.out]), hbl.out.trans ((dQ _ _).mono hbl.out.size)⟩
theorem Ri (a b c a' b' c' : Int) (W : World) : (Op.equalIn 10000 180 (.agg #[.int .i64 a, .int .i64 b, .int .i64 c]) (.agg #[.int .i64 a', .int .i64 b', .int .i64 c'])).run prog W = .ok (decide ((a, b, c) = (a', b', c'))) W := by
 have u3 := Tryz.underlying2
 have a3 := Tryz.isAgg2
 have z3 := Tryz.sizeOf2
 have hS : prog.underlying 180 = some (.struct (prog.fieldsOf 180)) := by kernel_rfl
 have hp : prog.stoodInHeld 180 = false := by kernel_rfl
 rw [show (10000 : Nat) = 9999 + 1 from rfl, run_equalIn_agg W 9999 180 _ _ hS hp]
 simp only [Program.fieldsOf, Tryz.underlying180]
 go_simp
 by_cases h1 : a = a' <;> by_cases h2 : b = b' <;> by_cases h3 : c = c' <;> simp [h1, h2, h3]
theorem FD : prog.eqGuardType prog.depth 180 = false := by kernel_rfl
theorem MS (a b c a' b' c' : Int) (W : World) : (Op.equalIn 10000 169 (.agg #[.int .i64 a, .int .i64 b, .int .i64 c]) (.agg #[.int .i64 a', .int .i64 b', .int .i64 c'])).run prog W = .ok (decide ((a, b, c) = (a', b', c'))) W := by
 have u3 := Tryz.underlying2
 have a3 := Tryz.isAgg2
 have z3 := Tryz.sizeOf2
 have hS : prog.underlying 169 = some (.struct (prog.fieldsOf 169)) := by kernel_rfl
 have hp : prog.stoodInHeld 169 = false := by kernel_rfl
 rw [show (10000 : Nat) = 9999 + 1 from rfl, run_equalIn_agg W 9999 169 _ _ hS hp]
 simp only [Program.fieldsOf, Tryz.underlying169]
 go_simp
 by_cases h1 : a = a' <;> by_cases h2 : b = b' <;> by_cases h3 : c = c' <;> simp [h1, h2, h3]
theorem DF : prog.eqGuardType prog.depth 169 = false := by kernel_rfl
theorem Rj (l1 l2 : List (Int × Int × Int)) (v1 v2 : Value) (w : World) (r1 : Rd w [v1] l1) (r2 : Rd w [v2] l2) :
 Calls prog 300 #[v1, v2] w fun e w' => e = .returned (.bool (decide (l1 = l2))) ∧ Below w.heap.size w w' := by
 obtain ⟨a1, c1, rfl, h1⟩ := ah r1
 obtain ⟨a2, c2, rfl, h2⟩ := ah r2
 clear r1 r2
 have b1 := (aN h1).2
 have b2 := (aN h2).2
 unfold maxLen at b1 b2
 have G1 := qH h1
 have G2 := qH h2
 clear h1 h2
 by_cases hl : l1.length = l2.length
 rotate_left
 · have hl' : ((l1.length : Int) != l2.length) = true := by simp; omega
   have HL := qH hl
   clear hl
   go_enter func300, ntmps300
   go_wp2_with fail
   go_ret
   refine ⟨ak ?_, Below.refl _ _⟩
   symm
   simp only [decide_eq_false_iff_not]
   rintro rfl
   exact HL.out rfl
 generalize hn1 : l1.length = n1 at *
 generalize hn2 : l2.length = n2 at *
 have H1 := qH hn1
 have H2 := qH hn2
 clear hn1 hn2
 subst hl
 have hl' : ((n1 : Int) != n1) = false := by simp
 go_enter func300, ntmps300
 go_wp2_with fail
 go_loopw [13] (fun i wr => ∃ k : Nat, k ≤ n1 ∧ i = .int .i64 k ∧ Hid (Below w.heap.size w wr) ∧ Hid (l1.take k = l2.take k)) (fun i _ => n1 - (intOf i).toNat)
 case atStart => exact ⟨0, Nat.zero_le _, rfl, Below.refl _ _, by simp [Hid]⟩
 obtain ⟨k, hk, rfl, hbl, hr⟩ := hrel
 by_cases hlt : k < n1
 rotate_left
 · obtain rfl : k = n1 := by omega
   go_wp2_with fail
   go_ret
   exact ⟨ak (by simp [oP H1.out H2.out hr.out]), hbl.out⟩
 have k1 : k < l1.length := by rw [H1.out]; exact hlt
 have k2 : k < l2.length := by rw [H2.out]; exact hlt
 obtain ⟨b1, o1, u0, u1, u2, rfl, q0, q1, q2, hx⟩ := gU rfl (aS hbl.out G1.out) k k1
 obtain ⟨b2, o2, t0, t1, t2, rfl, p0, p1, p2, hy⟩ := gU rfl (aS hbl.out G2.out) k k2
 obtain ⟨rfl, _⟩ := aG (au rfl hx).1
 obtain ⟨rfl, _⟩ := aG (au rfl (au rfl hx).2).1
 obtain ⟨rfl, _⟩ := aG (au rfl (au rfl hx).2).2
 obtain ⟨rfl, _⟩ := aG (au rfl hy).1
 obtain ⟨rfl, _⟩ := aG (au rfl (au rfl hy).2).1
 obtain ⟨rfl, _⟩ := aG (au rfl (au rfl hy).2).2
 clear hx hy
 by_cases he : l1[k] = l2[k]
 · have hg := FD
   have hb : ∀ W, (Op.equalIn 10000 180 (.agg #[.int .i64 l1[k].1, .int .i64 l1[k].2.1, .int .i64 l1[k].2.2]) (.agg #[.int .i64 l2[k].1, .int .i64 l2[k].2.1, .int .i64 l2[k].2.2])).run prog W = .ok true W := fun W => by rw [Ri]; exact congrArg (fun z => Result.ok z W) (decide_eq_true he)
   have HE := qH he
   clear he
   go_wp2_with fail
   go_quiet (fail)
   go_wp2_with fail
   go_roundw
   case rel => exact ⟨k + 1, by omega, by go_num, hbl.out.trans ((dQ _ _).mono hbl.out.size), mG k1 k2 hr.out HE.out⟩
   simp [intOf]; omega
 have hg := FD
 have hb : ∀ W, (Op.equalIn 10000 180 (.agg #[.int .i64 l1[k].1, .int .i64 l1[k].2.1, .int .i64 l1[k].2.2]) (.agg #[.int .i64 l2[k].1, .int .i64 l2[k].2.1, .int .i64 l2[k].2.2])).run prog W = .ok false W := fun W => by rw [Ri]; exact congrArg (fun z => Result.ok z W) (decide_eq_false he)
 have HE := qH he
 clear he
 go_wp2_with fail
 go_quiet (fail)
 go_wp2_with fail
 go_ret
 exact ⟨ak (by simp [vM k1 k2 HE.out]), hbl.out.trans ((dQ _ _).mono hbl.out.size)⟩
theorem O6 (l1 l2 : List (Int × Int × Int)) (v1 v2 : Value) (w : World) (r1 : Rd w [v1] l1) (r2 : Rd w [v2] l2) :
 Calls prog 301 #[v1, v2] w fun e w' => e = .returned (.bool (decide (l1 = l2))) ∧ Below w.heap.size w w' := by
 obtain ⟨a1, c1, rfl, h1⟩ := ah r1
 obtain ⟨a2, c2, rfl, h2⟩ := ah r2
 clear r1 r2
 have b1 := (aN h1).2
 have b2 := (aN h2).2
 unfold maxLen at b1 b2
 have G1 := qH h1
 have G2 := qH h2
 clear h1 h2
 by_cases hl : l1.length = l2.length
 rotate_left
 · have hl' : ((l1.length : Int) != l2.length) = true := by simp; omega
   have HL := qH hl
   clear hl
   go_enter func301, ntmps301
   go_wp2_with fail
   go_ret
   refine ⟨ak ?_, Below.refl _ _⟩
   symm
   simp only [decide_eq_false_iff_not]
   rintro rfl
   exact HL.out rfl
 generalize hn1 : l1.length = n1 at *
 generalize hn2 : l2.length = n2 at *
 have H1 := qH hn1
 have H2 := qH hn2
 clear hn1 hn2
 subst hl
 have hl' : ((n1 : Int) != n1) = false := by simp
 go_enter func301, ntmps301
 go_wp2_with fail
 go_loopw [13] (fun i wr => ∃ k : Nat, k ≤ n1 ∧ i = .int .i64 k ∧ Hid (Below w.heap.size w wr) ∧ Hid (l1.take k = l2.take k)) (fun i _ => n1 - (intOf i).toNat)
 case atStart => exact ⟨0, Nat.zero_le _, rfl, Below.refl _ _, by simp [Hid]⟩
 obtain ⟨k, hk, rfl, hbl, hr⟩ := hrel
 by_cases hlt : k < n1
 rotate_left
 · obtain rfl : k = n1 := by omega
   go_wp2_with fail
   go_ret
   exact ⟨ak (by simp [oP H1.out H2.out hr.out]), hbl.out⟩
 have k1 : k < l1.length := by rw [H1.out]; exact hlt
 have k2 : k < l2.length := by rw [H2.out]; exact hlt
 obtain ⟨b1, o1, u0, u1, u2, rfl, q0, q1, q2, hx⟩ := gU rfl (aS hbl.out G1.out) k k1
 obtain ⟨b2, o2, t0, t1, t2, rfl, p0, p1, p2, hy⟩ := gU rfl (aS hbl.out G2.out) k k2
 obtain ⟨rfl, _⟩ := aG (au rfl hx).1
 obtain ⟨rfl, _⟩ := aG (au rfl (au rfl hx).2).1
 obtain ⟨rfl, _⟩ := aG (au rfl (au rfl hx).2).2
 obtain ⟨rfl, _⟩ := aG (au rfl hy).1
 obtain ⟨rfl, _⟩ := aG (au rfl (au rfl hy).2).1
 obtain ⟨rfl, _⟩ := aG (au rfl (au rfl hy).2).2
 clear hx hy
 by_cases he : l1[k] = l2[k]
 · have hg := DF
   have hb : ∀ W, (Op.equalIn 10000 169 (.agg #[.int .i64 l1[k].1, .int .i64 l1[k].2.1, .int .i64 l1[k].2.2]) (.agg #[.int .i64 l2[k].1, .int .i64 l2[k].2.1, .int .i64 l2[k].2.2])).run prog W = .ok true W := fun W => by rw [MS]; exact congrArg (fun z => Result.ok z W) (decide_eq_true he)
   have HE := qH he
   clear he
   go_wp2_with fail
   go_quiet (fail)
   go_wp2_with fail
   go_roundw
   case rel => exact ⟨k + 1, by omega, by go_num, hbl.out.trans ((dQ _ _).mono hbl.out.size), mG k1 k2 hr.out HE.out⟩
   simp [intOf]; omega
 have hg := DF
 have hb : ∀ W, (Op.equalIn 10000 169 (.agg #[.int .i64 l1[k].1, .int .i64 l1[k].2.1, .int .i64 l1[k].2.2]) (.agg #[.int .i64 l2[k].1, .int .i64 l2[k].2.1, .int .i64 l2[k].2.2])).run prog W = .ok false W := fun W => by rw [MS]; exact congrArg (fun z => Result.ok z W) (decide_eq_false he)
 have HE := qH he
 clear he
 go_wp2_with fail
 go_quiet (fail)
 go_wp2_with fail
 go_ret
 exact ⟨ak (by simp [vM k1 k2 HE.out]), hbl.out.trans ((dQ _ _).mono hbl.out.size)⟩
theorem Vh (size : Int) (d : List Int) : iE 0 (size - 1) d = (bG size d d.length && decide (d = vY d)) := by
 rw [Q8]; simp [bG]
theorem EL (size : Int) (b : Nat) (w : World) (l : List (List Int)) (hc0 : w.cell? ⟨b, 0, none⟩ = some (.int .i64 size)) (hs : 1 ≤ size ∧ size ≤ 4) (hl : ∀ d, d ∈ l → d.length ≤ 1048576) :
 IX 331 #[.pointer (some ⟨b, 0, none⟩)] w l (fun d => !iE 0 (size - 1) d) := by
 intro W x u0 hb hx hmem
 have g0 := qC hb hc0
 have hxl := hl x hmem
 show Calls prog 331 #[u0, .pointer (some ⟨b, 0, none⟩)] W _
 have HX := qH hx
 obtain ⟨a, c, rfl, _⟩ := ah hx
 clear hx hb hc0 hl hmem
 have HE := qH (Vh size x)
 have kH := qC (St.start W).bel g0
 go_enter func331, ntmps331
 go_wp2_with fail
 refine (oQ size x _ (x.length : Int) _ (Rd.mono HX.out (St.start W).bel) (by omega) (by omega)).mono ?_
 rintro e w58 ⟨rfl, Rk⟩
 have aiN : W.heap.size ≤ w58.heap.size := hZ Rk
 have Rl := (St.start W).step Rk
 clear kH
 have kH := qC Rl.bel g0
 cases h1 : bG size x x.length
 · have H1 := qH (show iE 0 (size - 1) x = false by rw [HE.out, h1]; rfl)
   clear h1
   go_wp2_with fail
   go_ret
   exact ⟨ak (by rw [H1.out]; rfl), Rl.bel⟩
 have H1 := qH (show iE 0 (size - 1) x = decide (x = vY x) by rw [HE.out, h1]; rfl)
 clear h1
 go_wp2_with fail
 refine (abt x _ _ (Rd.mono HX.out Rl.bel) (by omega)).mono ?_
 rintro e w60 ⟨v2, rfl, hac, af0⟩
 have ar1 : w58.heap.size ≤ w60.heap.size := hZ af0
 have Jd := Rl.step af0
 clear kH
 have kH := qC Jd.bel g0
 obtain ⟨a2, c2, rfl, _⟩ := ah hac.rd
 have HRI := qH hac.rd
 clear hac
 go_wp2_with fail
 refine (Ac x (vY x) _ _ _ (Rd.mono HX.out Jd.bel) HRI.out).mono ?_
 rintro e w62 ⟨rfl, af2⟩
 have ar2 : w60.heap.size ≤ w62.heap.size := hZ af2
 have hs63 := Jd.step af2
 clear HRI
 clear kH
 have kH := qC hs63.bel g0
 go_wp2_with fail
 go_ret
 exact ⟨ak (by rw [H1.out]), hs63.bel⟩
theorem Jv (t : dB) (t0 t1 : Value) (x : Inst) (x0 x1 : Value) (ds : List (List Int)) (vp : Value) (w : World) (ht : Rd w [t0, t1] t) (hx : Rd w [x0, x1] x) (hp : Rd w [vp] ds) (hz : ∀ d, d ∈ ds → d.length ≤ 1048576) :
 Calls prog 294 #[.agg #[t0, t1], .agg #[x0, x1], vp] w fun e w' => e = .returned (.bool (mZ t x ds)) ∧ Below w.heap.size w w' := by
 obtain ⟨size, rs⟩ := t
 obtain ⟨vars, cs⟩ := x
 have HT := qH ht
 have HX := qH hx
 have HP := qH hp
 have HZ := qH hz
 have zt := au rfl ht
 obtain ⟨rfl, _⟩ := aG zt.1
 obtain ⟨at0, ct0, rfl, _⟩ := ah zt.2
 have zx := au rfl hx
 obtain ⟨rfl, _⟩ := aG zx.1
 obtain ⟨ax, cx, rfl, _⟩ := ah zx.2
 obtain ⟨a, c, rfl, hpr⟩ := ah hp
 have hb0 := (aN hpr).2
 unfold maxLen at hb0
 clear ht hx hp zt zx hpr hz
 have eg : ∀ args w, (callFunc 331 args).run prog w = .ok (.enter 331 args) w := enters_of func331 (by kernel_rfl) rfl
 have ah3 := (St.start w).alloc #[.int .i64 size, .slice at0 rs.length ct0] 42 (n := w.heap.size) (by simp)
 have Yz := ah3.alloc #[.int .i64 vars, .slice ax cs.length cx] 46 (n := w.heap.size + 1) (by simp)
 obtain ⟨aF, aH, aJ, aK⟩ := Yz.c4 0 0 0 1 1 0 1 1
 go_enter func294, ntmps294
 go_wp2_with fail
 refine (sH (size, rs) (vars, cs) _ _ _ _ _ (Rd.mono HT.out Yz.bel) (Rd.mono HX.out Yz.bel)).mono ?_
 rintro e w67 ⟨rfl, af4⟩
 have ar4 : w.heap.size + 1 + 1 ≤ w67.heap.size := hZ af4
 have YF := Yz.step af4
 clear aF aH aJ aK
 obtain ⟨aF, aH, aJ, aK⟩ := YF.c4 0 0 0 1 1 0 1 1
 cases h1 : cu (size, rs) (vars, cs)
 · have H1 := qH (show mZ (size, rs) (vars, cs) ds = false by unfold mZ; rw [h1]; rfl)
   clear h1
   go_wp2_with fail
   go_ret
   exact ⟨ak H1.out.symm, YF.bel⟩
 have hs := (dV (aX h1).1).1
 have H0 := qH (show mZ (size, rs) (vars, cs) ds = (decide ((ds.length : Int) = vars) && ds.all (iE 0 (size - 1))) by unfold mZ; rw [h1]; rfl)
 clear h1
 by_cases hl : (ds.length : Int) = vars
 · have hlb : ((ds.length : Int) != vars) = false := by simp [hl]
   have H1 := qH (show mZ (size, rs) (vars, cs) ds = ds.all (iE 0 (size - 1)) by rw [H0.out, decide_eq_true hl, Bool.true_and])
   clear hl
   go_wp2_with fail
   refine (jR ds _ 331 _ _ _ (Rd.mono HP.out YF.bel) eg (EL size _ _ ds (YF.c 0 0) hs HZ.out)).mono ?_
   rintro e w69 ⟨rfl, FH⟩
   have aiO : w67.heap.size ≤ w69.heap.size := hZ FH
   have Jw := YF.step FH
   clear aF aH aJ aK
   obtain ⟨aF, aH, aJ, aK⟩ := Jw.c4 0 0 0 1 1 0 1 1
   have hall := qH (mM ds (iE 0 (size - 1)))
   go_wp2_with fail
   go_ret
   exact ⟨ak (by rw [H1.out, ← hall.out]), Jw.bel⟩
 have hlb : ((ds.length : Int) != vars) = true := by simp [hl]
 have H1 := qH (show mZ (size, rs) (vars, cs) ds = false by rw [H0.out, decide_eq_false hl, Bool.false_and])
 clear hl
 go_wp2_with fail
 go_ret
 exact ⟨ak H1.out.symm, YF.bel⟩
end Go.Proofs.YtoblfnoaepbhfaaGreat
