import Derived.Test.YtoblfnoaepbhfaaGreatArcBQz
import Derived.Test.YtoblfnoaepbhfaaGreatRowsBQz
set_option linter.unusedSimpArgs false
set_option linter.unusedVariables false
set_option maxHeartbeats 2000000
set_option maxRecDepth 100000
namespace Go.Proofs.YtoblfnoaepbhfaaGreat
open Go.Proofs.Tryz
open Go.RowKit Go.Shelf Go.IntWalk
open Rep (Rd Own sz)
theorem Ad (a : Int) (b : Nat) (W : World) (hc : W.cell? ⟨b, 0, none⟩ = some (.int .i64 a)) (x : Int) : FnGives prog 248 #[.pointer (some ⟨b, 0, none⟩)] #[.int .i64 x] (.bool (x == a)) W := by
 show Calls _ _ #[.int .i64 x, .pointer (some ⟨b, 0, none⟩)] W _
 go_enter func248, ntmps248
 go_wp2_with fail
 go_ret
 exact ⟨rfl, 0, rfl⟩
theorem Vm (w : World) : (zeroValue 2).run prog w = .ok (.int .i64 0) w := by
 obtain ⟨i, hi, hz⟩ := (eH).info
 simp [zeroValue, typeInfo, hi, hz]
theorem Pj (B g cap : Nat) (l : List Int) (a : Int) (b : Nat) (w : World) (hrow : w.ownsRow B 2 1 (.slice (some ⟨g, 0, none⟩) l.length cap) l.length (iM l)) (hc : w.cell? ⟨b, 0, none⟩ = some (.int .i64 a)) (hbg : b ≠ g) :
 Calls prog 247 #[.slice (some ⟨g, 0, none⟩) l.length cap, .func (.func 248) #[] #[.pointer (some ⟨b, 0, none⟩)]] w fun e w' => e = .returned (.slice (some ⟨g, 0, none⟩) (l.filter (fun x => x != a)).length cap) ∧ w'.ownsRow B 2 1 (.slice (some ⟨g, 0, none⟩) (l.filter (fun x => x != a)).length cap) (l.filter (fun x => x != a)).length (iM (l.filter (fun x => x != a))) ∧ But [g] w w' := by
 obtain ⟨g', cap', e, hg1, hg2, hc1, hc2, _, hH⟩ := Go.Lib.holds_of_ownsRow hrow (by simp)
 simp only [Value.slice.injEq, Option.some.injEq, Addr.mk.injEq, and_true, true_and] at e
 obtain ⟨rfl, rfl⟩ := e
 unfold maxLen at hc2
 have eg : ∀ args w, (callFunc 248 args).run prog w = .ok (.enter 248 args) w := enters_of func248 (by kernel_rfl) rfl
 have hp : PredAt prog 248 #[.pointer (some ⟨b, 0, none⟩)] (Value.int .i64) (fun x => x == a) w := fun W x hb => Ad a b W (qC hb hc) x
 have hpo : PredOver prog 248 #[.pointer (some ⟨b, 0, none⟩)] (Value.int .i64) (fun x => x == a) g 0 l.toArray.size w := fun n os dk x _ => by
  refine Ad a b _ ?_ x
  obtain ⟨h1, h2, h3, h4, h5⟩ := grownBy_sortedI (w := w) (g := g) (n := n) (os := os) dk
  exact uw hc (h5 b (World.block_lt_of_cell? w _ hc) (fun h => hbg (by simpa using h)))
 have h := AnyE.slices_DeleteFunc Tryz.laysSlH10 (Value.int .i64) (by intro _; rfl) (fun x => x == a) 248 #[.pointer (some ⟨b, 0, none⟩)] eg 0 Vm g 0 cap l.toArray w hp hpo hH (by simp; omega) (by simpa using hc1)
 have hfl : (l.filter (fun x => x != a)).length ≤ l.length := List.length_filter_le _ _
 refine h.mono ?_
 rintro e w' ⟨rfl, q, rfl⟩
 have he : (l.toArray.toList.filter fun x => !(x == a)) = l.filter (fun x => x != a) := rfl
 rw [he]
 refine ⟨rfl, ?_, ?_⟩
 · have h := Go.Lib.ownsRow_putRow (q := q) (k := (l.filter (fun x => x != a)).length) (ys := l.filter (fun x => x != a) ++ List.replicate (l.length - (l.filter (fun x => x != a)).length) 0) hrow (by simp; omega) hfl
   rw [List.take_left] at h
   simpa [iM] using h
 exact ⟨rfl, rfl, rfl, by simp [Go.Sort.putRow, Go.Sort.mapBlock, Go.Sort.ahead], fun k hk hn => by
  have : g ≠ k := fun e => hn (by simp [e])
  simp [Go.Sort.putRow, Go.Sort.mapBlock, Go.Sort.ahead, Array.getElem?_modify, this]⟩
theorem YH (l : List Int) (v : Value) (a : Int) (w : World) (r : Rd w [v] l) (hl : l.length ≤ 1048576) (h0 : 0 < l.length) :
 Calls prog 123 #[v, .int .i64 a] w fun e w' => ∃ v', e = .returned v' ∧ Acc w.heap.size w'.heap.size 2 w' v' (l.filter (fun x => x != a)) ∧ Below w.heap.size w w' := by
 obtain ⟨ad, c, rfl, _⟩ := ah r
 have HR := qH r
 clear r
 have hs1 := (St.start w).alloc #[.int .i64 a] 2 (n := w.heap.size) (by simp)
 have aF := hs1.c 0 0
 go_enter func123, ntmps123
 go_wp2_with fail
 refine (jm l _ _ (Rd.mono HR.out hs1.bel) (by omega)).mono ?_
 rintro e w1 ⟨v1, rfl, hA1, hb1⟩
 obtain ⟨hrow, hbk, hI⟩ := tu hA1
 rcases hrow.2 with ⟨rfl, h⟩ | ⟨g, cap, cur, rfl, hb, hg, hn2, hm, hs, ht⟩
 · omega
 have hgs : g < w1.heap.size := (Array.getElem?_eq_some_iff.1 hg).1
 have hs1 := hs1.step hb1
 have hcA := hs1.c 0 0
 have hgb : w.heap.size + 1 ≤ g := by simpa using hb
 have HD := qH (Pj _ g cap l a w.heap.size w1 hrow hcA (by omega))
 have HI := qH hI
 have HB := qH hs1.bel
 clear hA1 hrow hbk hI hb1 hg hs ht hs1 hcA
 go_wp2_with fail
 refine HD.out.mono ?_
 rintro e w2 ⟨rfl, hrow2, MR⟩
 have hs2 : g < w2.heap.size := by have h1 := MR.size; omega
 have HB2 := qH (HB.out.trans (MR.below (B := w.heap.size) (by simp; omega) HB.out.size))
 have hrow3 : w2.ownsRow w.heap.size 2 1 (.slice (some ⟨g, 0, none⟩) (l.filter (fun x => x != a)).length cap) (l.filter (fun x => x != a)).length (iM (l.filter (fun x => x != a))) := by
  rcases hrow2 with ⟨x1, x2⟩
  refine ⟨x1, ?_⟩
  rcases x2 with x2 | ⟨g2, cap2, asC, y1, y2, y3⟩
  · exact .inl x2
  exact .inr ⟨g2, cap2, asC, y1, by simp at y2; omega, y3⟩
 have HA := qH (rJ (H := w2.heap.size) hrow3 (fun k hk => by
  simp only [Value.ownBlock, Option.some.injEq] at hk
  subst hk
  exact ⟨by omega, hs2⟩) (fun x hx => HI.out x (List.mem_filter.1 hx).1))
 clear hrow2 MR hrow3
 generalize (l.filter (fun x => x != a)).length = M at *
 go_wp2_with fail
 go_ret
 exact ⟨_, rfl, HA.out, HB2.out⟩
theorem Vo (ds : List (List Int)) (v : Value) (w : World) (r : Rd w [v] ds) (hn : ds.length ≤ 1000000) (hl : ∀ d, d ∈ ds → d.length ≤ 1048576) :
 Calls prog 295 #[v] w fun e w' => ∃ v', e = .returned v' ∧ bM (fun z => w.heap.size ≤ z ∧ z < w'.heap.size) 28 w' v' ds ∧ Below w.heap.size w w' := by
 obtain ⟨ad, c, rfl, h⟩ := ah r
 have HR := qH h
 have HL := qH hl
 clear r h hl
 have HM := qH (qM (α := List Int) w 28)
 go_enter func295, ntmps295
 go_wp2_with fail
 go_loopw [3, 9] (fun oo i wl => ∃ (k : Nat) (ao : Option Addr) (co : Nat), k ≤ ds.length ∧ i = .int .i64 k ∧ oo = .slice ao k co ∧ Hid (Below w.heap.size w wl) ∧ Hid (bM (fun z => w.heap.size ≤ z ∧ z < wl.heap.size) 28 wl (.slice ao k co) (ds.take k))) (fun _ i _ => ds.length - (intOf i).toNat)
 case atStart => exact ⟨0, _, _, Nat.zero_le _, rfl, rfl, aB _ _, bM.wk (by simpa [Hid] using HM.out) (fun k hk => by simp at hk ⊢; omega)⟩
 clear HM
 obtain ⟨k, ao, co, hk, rfl, rfl, hbl, hac⟩ := hrel
 have hsr := (St.start w).step hbl.out
 have PV := hac
 have hb0 := hbl.out.size
 by_cases hlt : k < ds.length
 rotate_left
 · obtain rfl : k = ds.length := by omega
   have hnl : ¬ ((ds.length : Int) < ds.length) := by omega
   have HF := qH (show bM (fun z => w.heap.size ≤ z ∧ z < wr.heap.size) 28 wr (.slice ao ds.length co) ds from by
    have h := hac.out
    rwa [List.take_length] at h)
   have lu := qH hbl.out
   go_wp2_with fail
   go_ret
   exact ⟨_, rfl, HF.out, lu.out⟩
 have hkl : (k : Int) < ds.length := by omega
 obtain ⟨b, o, u0, rfl, q0, hx⟩ := bF rfl (aS hsr.bel HR.out) k hlt
 obtain ⟨a0, c0, rfl, _⟩ := ah hx
 have HX := qH hx
 have HXL := qH (HL.out _ (List.getElem_mem hlt))
 have J4 := qH (show ds.take k ++ [ds[k]] = ds.take (k + 1) from (List.take_succ_eq_append_getElem hlt).symm)
 have YC := qH (show (ds.take k).length = k by rw [List.length_take]; omega)
 have qh := qH hbl.out
 clear hx
 generalize ds[k] = D at *
 go_wp2_with fail
 refine (jm D _ _ HX.out (by have := HXL.out; omega)).mono ?_
 rintro e w4 ⟨v4, rfl, Iz, hb4⟩
 obtain ⟨a4, c4, rfl, _⟩ := Iz.len
 have HI4 := qH ((Iz.mono (aB w4 (.cells #[.slice a4 D.length c4] 28))).fresh.ip)
 have abG := qH (bM.mono PV.out (hb4.trans ((aB w4 (.cells #[.slice a4 D.length c4] 28)).mono hb4.size)))
 have HB4 := qH (qh.out.trans ((hb4.trans ((aB w4 (.cells #[.slice a4 D.length c4] 28)).mono hb4.size)).mono qh.out.size))
 have Zx := hb4.size
 clear Iz hb4
 go_wp2_with (at_builtin; refine bW _ rfl _ _ _ rfl oq rfl abG.out HI4.out (fun z h1 h2 => by have h3 := h1.2; have h4 := h2.1; omega) ⟨w4.heap.size, 0, none⟩ 1 rfl (qB (aA (heap_alloc_new _ _))) (by rw [YC.out]; omega) ?_; simp only [YC.out, J4.out]; intro a8 c8 w8 F6 JZ)
 have hz8 := JZ.size
 have HA8 := qH (bM.wk F6.tight (C := fun z => w.heap.size ≤ z ∧ z < w8.heap.size) (fun z hz => ⟨by
  rcases hz.1 with h | h | h
  · exact h.1
  · have := h.1; omega
  · rw [h]; simp; omega, hz.2⟩))
 have HB8 := qH (HB4.out.trans (JZ.below (B := w.heap.size) (fun z hz => hz.1) HB4.out.size))
 clear F6 JZ
 go_wp2_with fail
 go_roundw
 case rel => exact ⟨k + 1, a8, c8, hlt, by go_num, rfl, HB8.out, HA8.out⟩
 simp [intOf]; omega
theorem Ru (ds : List (List Int)) (v : Value) (w : World) (r : Rd w [v] ds) (hn : ds.length ≤ 1000000) (hl : ∀ d, d ∈ ds → d.length ≤ 1048576) :
 Calls prog 290 #[v] w fun e w' => ∃ v', e = .returned v' ∧ bM (fun z => w.heap.size ≤ z ∧ z < w'.heap.size) 28 w' v' ds ∧ Below w.heap.size w w' := by
 obtain ⟨ad, c, rfl, h⟩ := ah r
 have HR := qH h
 have HL := qH hl
 clear r h hl
 have HM := qH (qM (α := List Int) w 28)
 go_enter func290, ntmps290
 go_wp2_with fail
 go_loopw [3, 4] (fun oo i wl => ∃ (k : Nat) (ao : Option Addr) (co : Nat), k ≤ ds.length ∧ i = .int .i64 k ∧ oo = .slice ao k co ∧ Hid (Below w.heap.size w wl) ∧ Hid (bM (fun z => w.heap.size ≤ z ∧ z < wl.heap.size) 28 wl (.slice ao k co) (ds.take k))) (fun _ i _ => ds.length - (intOf i).toNat)
 case atStart => exact ⟨0, _, _, Nat.zero_le _, rfl, rfl, aB _ _, bM.wk (by simpa [Hid] using HM.out) (fun k hk => by simp at hk ⊢; omega)⟩
 clear HM
 obtain ⟨k, ao, co, hk, rfl, rfl, hbl, hac⟩ := hrel
 have hsr := (St.start w).step hbl.out
 have PV := hac
 have hb0 := hbl.out.size
 by_cases hlt : k < ds.length
 rotate_left
 · obtain rfl : k = ds.length := by omega
   have hnl : ¬ ((ds.length : Int) < ds.length) := by omega
   have HF := qH (show bM (fun z => w.heap.size ≤ z ∧ z < wr.heap.size) 28 wr (.slice ao ds.length co) ds from by
    have h := hac.out
    rwa [List.take_length] at h)
   have lu := qH hbl.out
   go_wp2_with fail
   go_ret
   exact ⟨_, rfl, HF.out, lu.out⟩
 have hkl : (k : Int) < ds.length := by omega
 obtain ⟨b, o, u0, rfl, q0, hx⟩ := bF rfl (aS hsr.bel HR.out) k hlt
 obtain ⟨a0, c0, rfl, _⟩ := ah hx
 have HX := qH hx
 have HXL := qH (HL.out _ (List.getElem_mem hlt))
 have J4 := qH (show ds.take k ++ [ds[k]] = ds.take (k + 1) from (List.take_succ_eq_append_getElem hlt).symm)
 have YC := qH (show (ds.take k).length = k by rw [List.length_take]; omega)
 have qh := qH hbl.out
 clear hx
 generalize ds[k] = D at *
 go_wp2_with fail
 refine (uK D _ _ HX.out (by have := HXL.out; omega)).mono ?_
 rintro e w4 ⟨v4, rfl, Iz, hb4⟩
 obtain ⟨a4, c4, rfl, _⟩ := Iz.len
 have HI4 := qH ((Iz.mono (aB w4 (.cells #[.slice a4 D.length c4] 28))).fresh.ip)
 have abG := qH (bM.mono PV.out (hb4.trans ((aB w4 (.cells #[.slice a4 D.length c4] 28)).mono hb4.size)))
 have HB4 := qH (qh.out.trans ((hb4.trans ((aB w4 (.cells #[.slice a4 D.length c4] 28)).mono hb4.size)).mono qh.out.size))
 have Zx := hb4.size
 clear Iz hb4
 go_wp2_with (at_builtin; refine bW _ rfl _ _ _ rfl oq rfl abG.out HI4.out (fun z h1 h2 => by have h3 := h1.2; have h4 := h2.1; omega) ⟨w4.heap.size, 0, none⟩ 1 rfl (qB (aA (heap_alloc_new _ _))) (by rw [YC.out]; omega) ?_; simp only [YC.out, J4.out]; intro a8 c8 w8 F6 JZ)
 have hz8 := JZ.size
 have HA8 := qH (bM.wk F6.tight (C := fun z => w.heap.size ≤ z ∧ z < w8.heap.size) (fun z hz => ⟨by
  rcases hz.1 with h | h | h
  · exact h.1
  · have := h.1; omega
  · rw [h]; simp; omega, hz.2⟩))
 have HB8 := qH (HB4.out.trans (JZ.below (B := w.heap.size) (fun z hz => hz.1) HB4.out.size))
 clear F6 JZ
 go_wp2_with fail
 go_roundw
 case rel => exact ⟨k + 1, a8, c8, hlt, by go_num, rfl, HB8.out, HA8.out⟩
 simp [intOf]; omega
abbrev wR := List (List Int) × List (Int × Int × Int)
def Nb (ts : List (List Int)) (sc : List Int) (ci p v : Nat) (s : wR) (a : Int) : wR :=
 if EM ts sc s.1 p a then s else (s.1.set v ((s.1.getD v []).filter (fun x => x != a)), s.2 ++ [((v : Int), a, (ci : Int))])
def ai4 (ts : List (List Int)) (sc : List Int) (ci : Nat) (s : wR) (p : Nat) : wR := (s.1.getD (sc.getD p 0).toNat []).foldl (Nb ts sc ci p (sc.getD p 0).toNat) s
def asG (rs : List bH) (cs : List nI) (s : wR) (k : Nat) : wR := (List.range (cs.getD k (0, [])).2.length).foldl (ai4 (rs.getD (cs.getD k (0, [])).1.toNat (0, [])).2 (cs.getD k (0, [])).2 k) s
def Vp (rs : List bH) (cs : List nI) (s : wR) : wR := (List.range cs.length).foldl (asG rs cs) s
def agh (rs : List bH) (cs : List nI) : Nat → wR → wR
 | 0, s => s
 | n + 1, s => if (Vp rs cs s).2.length = s.2.length then Vp rs cs s else agh rs cs n (Vp rs cs s)
theorem aeO (l : List (List Int)) (x : List Int) : ∀ (i : Nat) (h : i < l.length), ((l.set i x).map List.length).sum + l[i].length = (l.map List.length).sum + x.length := by
 induction l with
 | nil => intro i h; cases h
 | cons y l ih =>
  intro i h
  cases i with
  | zero => simp; omega
  | succ i =>
   have := ih i (by simpa using h)
   simp only [sS, List.map_cons, List.sum_cons, List.getElem_cons_succ]
   omega
theorem filter_lt {l : List Int} {a : Int} (h : a ∈ l) : (l.filter (fun x => x != a)).length + 1 ≤ l.length := by
 induction l with
 | nil => cases h
 | cons y l ih =>
  by_cases hy : y = a
  · have h1 : (y != a) = false := by simp [hy]
    have := List.length_filter_le (fun x => x != a) l
    rw [List.filter_cons, h1, List.length_cons]
    simp only [Bool.false_eq_true, if_false]
    omega
  have h1 : (y != a) = true := by simp [hy]
  have h2 : a ∈ l := by
   rcases List.mem_cons.1 h with h | h
   · exact absurd h.symm hy
   exact h
  have := ih h2
  rw [List.filter_cons, h1]
  simp only [if_true, List.length_cons]
  omega
structure Nc (V C : Nat) (s : wR) : Prop where
 len : s.1.length = V
 small : ∀ d, d ∈ s.1 → d.length ≤ 1048576
 nodup : ∀ d, d ∈ s.1 → d.Nodup
 pot : s.2.length + (s.1.map List.length).sum ≤ C
theorem abH {V C : Nat} {ts : List (List Int)} {sc : List Int} {ci p v : Nat} {s : wR} {a : Int} (h : Nc V C s) (hv : v < V) (ha : a ∈ s.1.getD v []) : Nc V C (Nb ts sc ci p v s a) := by
 unfold Nb
 split
 · exact h
 have hl : v < s.1.length := by rw [h.len]; exact hv
 have hg : s.1.getD v [] = s.1[v] := by simp [List.getD, hl]
 rw [hg] at ha ⊢
 have hm : s.1[v] ∈ s.1 := List.getElem_mem hl
 refine ⟨by simpa using h.len, fun d hd => ?_, fun d hd => ?_, ?_⟩
 · rcases List.mem_or_eq_of_mem_set hd with h1 | rfl
   · exact h.small d h1
   exact Nat.le_trans (List.length_filter_le _ _) (h.small _ hm)
 · rcases List.mem_or_eq_of_mem_set hd with h1 | rfl
   · exact h.nodup d h1
   exact (h.nodup _ hm).filter _
 have h1 := aeO s.1 (s.1[v].filter (fun x => x != a)) v hl
 have h2 := filter_lt ha
 have h3 := h.pot
 simp only [List.length_append, List.length_cons, List.length_nil]
 omega
theorem Vq {V C : Nat} {ts : List (List Int)} {sc : List Int} {ci p v : Nat} {s : wR} {a b : Int} (h : Nc V C s) (hv : v < V) (hb : b ∈ s.1.getD v []) (hab : b ≠ a) : b ∈ (Nb ts sc ci p v s a).1.getD v [] := by
 unfold Nb
 split
 · exact hb
 have hl : v < s.1.length := by rw [h.len]; exact hv
 have : (s.1.set v ((s.1.getD v []).filter (fun x => x != a))).getD v [] = (s.1.getD v []).filter (fun x => x != a) := by simp [List.getD, hl]
 simp only [this]
 rw [List.mem_filter]
 exact ⟨hb, by simp [hab]⟩
structure JC (V C : Nat) (v : Nat) (L : List Int) (j : Nat) (s : wR) : Prop where
 ok : Nc V C s
 mem : ∀ i (h : i < L.length), j ≤ i → L[i] ∈ s.1.getD v []
theorem JC.step {V C v j : Nat} {L : List Int} {ts : List (List Int)} {sc : List Int} {ci p : Nat} {s : wR} (h : JC V C v L j s) (hv : v < V) (hL : L.Nodup) (hj : j < L.length) : JC V C v L (j + 1) (Nb ts sc ci p v s L[j]) := by
 refine ⟨abH h.ok hv (h.mem j hj (Nat.le_refl _)), fun i hi hji => Vq h.ok hv (h.mem i hi (by omega)) (fun e => ?_)⟩
 exact (List.pairwise_iff_getElem.1 hL j i hj hi (by omega)) e.symm
theorem JC.start {V C v : Nat} {s : wR} (h : Nc V C s) (hv : v < V) : JC V C v (s.1.getD v []) 0 s := ⟨h, fun i hi _ => List.getElem_mem hi⟩
def flat3 (l : List (Int × Int × Int)) : List Value := l.flatMap (fun t => [.int .i64 t.1, .int .i64 t.2.1, .int .i64 t.2.2])
theorem JD (l : List (Int × Int × Int)) (a b c : Int) : flat3 (l ++ [(a, b, c)]) = flat3 l ++ [.int .i64 a, .int .i64 b, .int .i64 c] := by simp [flat3]
structure vH (w0 : World) (AD : Nat → Prop) (B0 g cd V : Nat) (eS : TypeId) (bx : List (Nat × Array Value × TypeId)) (wl : World) (gs co : Nat) (s : wR) : Prop where
 st : St w0 wl.heap.size wl bx
 b0 : B0 ≤ wl.heap.size
 lo : w0.heap.size ≤ B0 ∧ (∀ z, AD z → w0.heap.size ≤ z)
 dom : Ip (fun z => ((AD z ∨ B0 ≤ z) ∧ z ≠ gs) ∧ ∀ x, x ∈ bx → x.1 ≠ z) wl [.slice (some ⟨g, 0, none⟩) V cd] s.1
 row : wl.ownsRow 0 eS 3 (.slice (some ⟨gs, 0, none⟩) s.2.length co) s.2.length (flat3 s.2)
 gs : (B0 ≤ gs ∧ gs < wl.heap.size) ∧ ∀ x, x ∈ bx → x.1 ≠ gs
section
variable {w0 : World} {AD : Nat → Prop} {B0 g cd V : Nat} {eS : TypeId} {bx : List (Nat × Array Value × TypeId)} {wl : World} {gs co : Nat} {s : wR}
theorem Ip.tight {α : Type} [Rep α] {A : Nat → Prop} {w : World} {vs : List Value} {x : α} (h : Ip A w vs x) : Ip (fun z => A z ∧ z < w.heap.size) w vs x := by
 obtain ⟨ps, h1, h2, h3⟩ := h
 exact ⟨ps, h1, h2, fun k hk => ⟨h3 k hk, Rep.jK h1 k hk⟩⟩
theorem vH.step (h : vH w0 AD B0 g cd V eS bx wl gs co s) {w1 : World} (hb : Below wl.heap.size wl w1) : vH w0 AD B0 g cd V eS bx w1 gs co s :=
 ⟨(h.st.step hb).up hb.size (Nat.le_refl _), Nat.le_trans h.b0 hb.size, h.lo, h.dom.mono hb, ownsRow_below h.row hb, ⟨⟨h.gs.1.1, Nat.lt_of_lt_of_le h.gs.1.2 hb.size⟩, h.gs.2⟩⟩
theorem vH.rd (h : vH w0 AD B0 g cd V eS bx wl gs co s) : Rd wl [.slice (some ⟨g, 0, none⟩) V cd] s.1 := h.dom.rd
theorem vH.bel (h : vH w0 AD B0 g cd V eS bx wl gs co s) : Below w0.heap.size w0 wl := h.st.bel
theorem vH.box (h : vH w0 AD B0 g cd V eS bx wl gs co s) (vs : Array Value) (ty : TypeId) : vH w0 AD B0 g cd V eS (bx ++ [(wl.heap.size, vs, ty)]) (wl.alloc (.cells vs ty)) gs co s := by
 have hb := aB wl (.cells vs ty)
 refine ⟨(h.st.alloc vs ty rfl).up (by simp) (Nat.le_refl _), by have := h.b0; simp; omega, h.lo, ?_, ownsRow_below h.row hb, ⟨⟨h.gs.1.1, by have := h.gs.1.2; simp; omega⟩, ?_⟩⟩
 · refine (h.dom.tight.mono hb).wk (fun z hz => ⟨hz.1.1, fun x hx => ?_⟩)
   rcases List.mem_append.1 hx with hx | hx
   · exact hz.1.2 x hx
   rw [List.mem_singleton] at hx
   subst hx
   have := hz.2
   simp only
   omega
 intro x hx
 rcases List.mem_append.1 hx with hx | hx
 · exact h.gs.2 x hx
 rw [List.mem_singleton] at hx
 subst hx
 have := h.gs.1.2
 simp only
 omega
theorem vH.sub (h : vH w0 AD B0 g cd V eS bx wl gs co s) {bx' : List (Nat × Array Value × TypeId)} (hs : ∀ x, x ∈ bx' → x ∈ bx) : vH w0 AD B0 g cd V eS bx' wl gs co s :=
 ⟨h.st.sub hs, h.b0, h.lo, h.dom.wk (fun z hz => ⟨hz.1, fun x hx => hz.2 x (hs x hx)⟩), h.row, ⟨h.gs.1, fun x hx => h.gs.2 x (hs x hx)⟩⟩
theorem vH.put (h : vH w0 AD B0 g cd V eS bx wl gs co s) {w1 : World} (hb : Below wl.heap.size wl w1) {v : Nat} (hv : v < s.1.length) {vn : Value} {d : List Int} (hd : aQ wl.heap.size w1 [vn] d) (hV : s.1.length = V) :
 vH w0 AD B0 g cd V eS bx (w1.setCell ⟨g, v, none⟩ vn) gs co (s.1.set v d, s.2) := by
 have h1 := h.step hb
 have hg : ((AD g ∨ B0 ≤ g) ∧ g ≠ gs) ∧ ∀ x, x ∈ bx → x.1 ≠ g := by
  obtain ⟨g', o, c, cur, e, e1, _, _, _, hA, _⟩ := vP h1.dom (by omega)
  simp only [Value.slice.injEq, Option.some.injEq, Addr.mk.injEq] at e1
  obtain ⟨⟨rfl, -, -⟩, -, -⟩ := e1
  exact hA
 have hs : (w1.setCell ⟨g, v, none⟩ vn).heap.size = w1.heap.size := by simp [World.setCell]
 refine ⟨?_, by rw [hs]; exact h1.b0, h.lo, ?_, ?_, ⟨by rw [hs]; exact h1.gs.1, h1.gs.2⟩⟩
 · have hbg : w0.heap.size ≤ g := by
    rcases hg.1.1 with h2 | h2
    · exact h.lo.2 g h2
    exact Nat.le_trans h.lo.1 h2
   refine ⟨h1.st.bel.setCell hbg _, by rw [hs]; exact h1.st.lo, by rw [hs]; exact Nat.le_refl _, fun x hx => ?_⟩
   have h2 := h1.st.box x hx
   refine ⟨h2.1, by rw [hs]; exact h2.2.1, ?_⟩
   rw [Below.heap_setCell _ _ _ _ (fun e => hg.2 x hx (by simpa using e))]
   exact h2.2.2
 · have h3 := NZ (h.dom.tight.mono hb) v hv (Ip.wk hd.ip (B := fun z => wl.heap.size ≤ z) (fun k hk => hk.1)) (fun k hk hk2 => by have := hk.2; omega)
   have e : putCells w1 g (0 + v * sz (List Int)) [vn] = w1.setCell ⟨g, v, none⟩ vn := by simp [putCells, sz]
   rw [e] at h3
   refine Ip.wk h3 (fun z hz => ?_)
   rcases hz with hz | hz
   · exact hz.1
   refine ⟨⟨.inr (by have := h.b0; omega), by have := h.gs.1.2; omega⟩, fun x hx => ?_⟩
   have := (h.st.box x hx).2.1
   omega
 exact lK h1.row (fun k hk => Below.heap_setCell _ _ _ _ (fun e => by
  simp only [Value.ownBlock, Option.some.injEq] at hk
  simp only at e
  exact hg.1.2 (by omega)))
theorem vH.snoc (h : vH w0 AD B0 g cd V eS bx wl gs co s) {w1 : World} {g1 c1 : Nat} {a b c : Int} (hat : gs = g1 ∨ g1 = wl.heap.size) (hb : But [gs] wl w1) (hlt : g1 < w1.heap.size)
 (hrow : w1.ownsRow 0 eS 3 (.slice (some ⟨g1, 0, none⟩) (s.2.length + 1) c1) (s.2.length + 1) (flat3 s.2 ++ [.int .i64 a, .int .i64 b, .int .i64 c])) : vH w0 AD B0 g cd V eS bx w1 g1 c1 (s.1, s.2 ++ [(a, b, c)]) := by
 have hsz := hb.size
 have hlo : w0.heap.size ≤ gs := Nat.le_trans h.lo.1 h.gs.1.1
 refine ⟨(h.st.sK hb (fun k hk => by simp at hk; omega) (fun x hx hp => by
  simp only [List.mem_singleton] at hp
  exact h.gs.2 x hx hp)).up hsz (Nat.le_refl _), Nat.le_trans h.b0 hsz, h.lo, ?_, ?_, ⟨⟨?_, hlt⟩, fun x hx => ?_⟩⟩
 · refine ((h.dom.tight).lU (hb.lU (A := fun z => z = gs) (fun k hk => by simpa using hk)) (fun z hz => hz.1.1.2)).wk (fun z hz => ⟨⟨hz.1.1.1, ?_⟩, hz.1.2⟩)
   rcases hat with h1 | h1
   · rw [← h1]; exact hz.1.1.2
   have := hz.2; omega
 · rw [List.length_append, JD]; exact hrow
 · rcases hat with h1 | h1
   · rw [← h1]; exact h.gs.1.1
   rw [h1]; exact h.b0
 rcases hat with h1 | h1
 · rw [← h1]; exact h.gs.2 x hx
 have := (h.st.box x hx).2.1
 omega
end
theorem vH.own {w0 : World} {AD : Nat → Prop} {B0 g cd V : Nat} {eS : TypeId} {bx : List (Nat × Array Value × TypeId)} {wl w1 : World} {gs co : Nat} {s : wR} (h : vH w0 AD B0 g cd V eS bx wl gs co s) (hb : Below wl.heap.size wl w1)
 {gL : Nat} {cur : Array Value} {e : TypeId} (h1 : wl.heap.size ≤ gL) (h2 : w1.heap[gL]? = some (.cells cur e (0, 0))) : vH w0 AD B0 g cd V eS (bx ++ [(gL, cur, e)]) w1 gs co s := by
 have h3 := h.step hb
 have hlt : gL < w1.heap.size := (Array.getElem?_eq_some_iff.1 h2).1
 refine ⟨⟨h3.st.bel, h3.st.lo, h3.st.hi, fun x hx => ?_⟩, h3.b0, h.lo, ?_, h3.row, ⟨h3.gs.1, fun x hx => ?_⟩⟩
 · rcases List.mem_append.1 hx with hx | hx
   · exact h3.st.box x hx
   rw [List.mem_singleton] at hx
   subst hx
   exact ⟨by have := h.st.lo; simp only; omega, hlt, h2⟩
 · refine (h.dom.tight.mono hb).wk (fun z hz => ⟨hz.1.1, fun x hx => ?_⟩)
   rcases List.mem_append.1 hx with hx | hx
   · exact hz.1.2 x hx
   rw [List.mem_singleton] at hx
   subst hx
   have := hz.2
   simp only
   omega
 rcases List.mem_append.1 hx with hx | hx
 · exact h.gs.2 x hx
 rw [List.mem_singleton] at hx
 subst hx
 have := h.gs.1.2
 simp only
 omega
theorem Vr {t : dB} {vars : Int} {c : nI} (ht : lV t = true) (h : sV t vars c = true) : c.2.length ≤ 4 := by
 simp only [sV, Bool.and_eq_true] at h
 have h1 := bQ h.1
 have h2 := qO h.2
 have hi : c.1.toNat < t.2.length := by omega
 rw [show t.2.getD c.1.toNat (0, []) = t.2[c.1.toNat] by simp [List.getD, hi]] at h2
 have h3 := (gV ((dV ht).2.2 _ (List.getElem_mem hi))).2.1
 omega
theorem xH {t : dB} {x : Inst} (h : cu t x = true) {k : Nat} (hk : k < x.2.length) : ∃ n : Nat, x.2[k].1 = (n : Int) ∧ n < t.2.length ∧ (∀ y, y ∈ (t.2.getD n (0, [])).2 → y.length = x.2[k].2.length) ∧ (∀ v, v ∈ x.2[k].2 → 0 ≤ v ∧ v < x.1) ∧ x.2[k].2.length ≤ 4 := by
 have ht := (aX h).1
 have hc := (aX h).2.2.2 _ (List.getElem_mem hk)
 have h4 := Vr ht hc
 simp only [sV, Bool.and_eq_true] at hc
 have h1 := bQ hc.1
 have hi : x.2[k].1.toNat < t.2.length := by omega
 refine ⟨x.2[k].1.toNat, by omega, hi, fun y hy => ?_, fun v hv => ?_, h4⟩
 · have h2 := qO hc.2
   rw [show t.2.getD x.2[k].1.toNat (0, []) = t.2[x.2[k].1.toNat] by simp [List.getD, hi]] at hy h2
   have h3 := qP ((dV ht).2.2 _ (List.getElem_mem hi)) y hy
   have h5 := (gV ((dV ht).2.2 _ (List.getElem_mem hi))).2.1
   omega
 have h2 := hc.2
 simp only [bG, Bool.and_eq_true, List.all_eq_true] at h2
 have := bQ (h2.2 v hv)
 omega
end Go.Proofs.YtoblfnoaepbhfaaGreat
