import Derived.Test.YtoblfnoaepbhfaaGreatBaseQz
import Derived.Shelf.Abstract
import Derived.Deep.RegionHeld3
import Derived.Lib.SmallJoins
import Derived.Deep.Slices
import Derived.Deep.Fields
import Derived.ChangeSame
set_option linter.unusedSimpArgs false
set_option linter.unusedVariables false
set_option maxHeartbeats 1000000
set_option maxRecDepth 100000
namespace Go.Proofs.YtoblfnoaepbhfaaGreat
open Go.Proofs.Tryz
open Go.RowKit
open Rep (Rd Own sz)
theorem elN {P : Program} {ops : Array Oper} {Q : Exit → Act → World → Prop} {S : World → Prop} {a : Act} {w : World} (h : Q .normal a w) : rH P ops (NoPanic Q) S [] a w := agL (NoPanic.normal h)
theorem XV {P : Program} {ops : Array Oper} {Q : Exit → Act → World → Prop} {S : World → Prop} {a : Act} {w : World} (h : Q .normal a w) : eP P ops (NoPanic Q) S .nil a w := agN (NoPanic.normal h)
theorem iF {P : Program} {ops : Array Oper} {Q : Exit → Act → World → Prop} {S : World → Prop} {a : Act} {w : World} (h : Q .normal a w) : dA P ops (NoPanic Q) S .nil a w := agO (NoPanic.normal h)
section
variable {P : Program} {ops : Array Oper} {Q : Exit → Act → World → Prop}
theorem BG {id : Nat} {a : Act} {w : World} (S : World → Prop) (π : List (Nat × Nat)) (hS : S w.drew) (h : rH P ops (NoPanic Q) S π a w.drew) (hm : P.follows .mixedOrders = true := by kernel_rfl) (hsel : Region.noSelect ops = true := by kernel_rfl) (hp : Bd ops (Array.replicate ops.size false) π = true := by kernel_rfl) (hl : π.length = ops.size := by exact rfl) : (Code.region id ops true).wp P Q a w := wp_region_noPanic (Nw S π hm hsel hp hl hS (fun _ _ _ _ _ h => h) h)
theorem trR {id : Nat} {a : Act} {w : World} (S : World → Prop) (π : Plan) (hS : S w.drew) (h : eP P ops (NoPanic Q) S π a w.drew) (hm : P.follows .mixedOrders = true := by kernel_rfl) (hsel : Region.noSelect ops = true := by kernel_rfl) (hp : rM ops (Array.replicate ops.size false) π = true := by kernel_rfl) (hl : π.len = ops.size := by exact rfl) : (Code.region id ops true).wp P Q a w := wp_region_noPanic (Hz S π hm hsel hp hl hS (fun _ _ _ _ _ h => h) h)
theorem iT {id : Nat} {a : Act} {w : World} (S : World → Prop) (π : jI) (hS : S w.drew) (h : dA P ops (NoPanic Q) S π a w.drew) (hm : P.follows .mixedOrders = true := by kernel_rfl) (hsel : Region.noSelect ops = true := by kernel_rfl) (hp : jL ops (Array.replicate ops.size false) π = true := by kernel_rfl) (hl : π.len = ops.size := by exact rfl) : (Code.region id ops true).wp P Q a w := wp_region_noPanic (FU S π hm hsel hp hl hS (fun _ _ _ _ _ h => h) h)
end
abbrev oW := Int × List Int × List (Int × Int × Int) × List (Int × Int × Int) × List Int
theorem aG {w : World} {v : Value} {n : Int} (h : Rd w [v] n) : v = .int .i64 n ∧ I64 n := ⟨by simpa using h.1, h.2⟩
def cL {α : Type} (c : α → Nat) (l : List α) : Nat := l.length + (l.map c).sum
def sumTo {α : Type} (c : α → Nat) (l : List α) (j : Nat) : Nat := ((l.take j).map c).sum
theorem yt {α : Type} (c : α → Nat) (l : List α) (j : Nat) (h : j < l.length) : sumTo c l (j + 1) = sumTo c l j + c l[j] := by
 rw [sumTo, sumTo, List.take_succ_eq_append_getElem h, List.map_append, List.sum_append]; rfl
theorem Eh {α : Type} (c : α → Nat) (l : List α) : sumTo c l l.length = (l.map c).sum := by simp [sumTo]
theorem sumTo_le {α : Type} (c : α → Nat) (l : List α) (j : Nat) : sumTo c l j ≤ (l.map c).sum := by
 have : (l.map c).sum = ((l.take j).map c).sum + ((l.drop j).map c).sum := by rw [← List.sum_append, ← List.map_append, List.take_append_drop]
 unfold sumTo; omega
theorem TG {α : Type} (c : α → Nat) (l : List α) (j : Nat) (h : j < l.length) : c l[j] + l.length ≤ cL c l := by
 have h1 := yt c l j h
 have h2 := sumTo_le c l (j + 1)
 unfold cL; omega
theorem iC (L : Int) (c : Nat) : (less L c = -1 ∧ L - c < 0) ∨ (less L c = L - c ∧ 0 ≤ L - c) := by
 unfold less; split
 · exact .inl ⟨rfl, by assumption⟩
 exact .inr ⟨rfl, by omega⟩
theorem lX {L : Int} {c : Nat} (h : L - c < 0) : less L c = -1 := by unfold less; rw [if_pos h]
theorem rO {L : Int} {c : Nat} (h : 0 ≤ L - c) : less L c = L - c := by unfold less; rw [if_neg (by omega)]
def iW : List (List Int) → Nat := cL List.length
def jT (x : nI) : Nat := List.length (x.2)
def jU (x : bH) : Nat := iW (x.2)
def lI : List (nI) → Nat := cL jT
def lJ : List (bH) → Nat := cL jU
def fD : List ((Int × Int × Int)) → Nat := List.length
def gy : List ((Int × Int × Int)) → Nat := List.length
def fE (x : dB) : Nat := lJ (x.2)
def iw (x : Inst) : Nat := lI (x.2)
def dU (x : oW) : Nat := List.length (x.2.1) + fD (x.2.2.1) + gy (x.2.2.2.1) + List.length (x.2.2.2.2)
theorem yu (l : List Int) (v : Value) (left : Int) (w : World) (r : Rd w [v] l) (h0 : 0 ≤ left) (h1 : left ≤ 1048576) :
 Calls prog 45 #[v, .int .i64 left] w fun e w' => e = .returned (.int .i64 (less left (l.length : Nat))) ∧ Below w.heap.size w w' :=
 (TB l v left w r h0 h1).mono fun e w' ⟨he, hw⟩ => ⟨he, hw ▸ Below.refl _ _⟩
theorem Qa (l : List (List Int)) (v : Value) (left : Int) (w : World) (r : Rd w [v] l) (h0 : 0 ≤ left) (h1 : left ≤ 1048576) :
 Calls prog 209 #[v, .int .i64 left] w fun e w' => e = .returned (.int .i64 (less left (iW l : Nat))) ∧ Below w.heap.size w w' := by
 obtain ⟨a, c, rfl, h⟩ := ah r
 have hb := (aN h).2
 unfold maxLen at hb
 clear r
 generalize hn : l.length = n at *
 have HN := qH hn
 have HH := qH h
 clear hn h
 by_cases hl : left - n < 0
 · go_enter func209, ntmps209
   go_wp2_with fail
   go_ret
   refine ⟨aU (lX ?_).symm, Below.refl _ _⟩
   unfold iW cL
   rw [HN.out]; omega
 go_enter func209, ntmps209
 go_wp2_with fail
 go_loopw [1, 5] (fun lf i wr => ∃ (j : Nat) (L : Int), j ≤ n ∧ i = .int .i64 j ∧ lf = .int .i64 L ∧ 0 ≤ L ∧ L ≤ 1048576 ∧ Hid (L = left - n - (sumTo List.length l j : Nat)) ∧ Hid (Below w.heap.size w wr)) (fun _ i _ => n - (intOf i).toNat)
 case atStart => exact ⟨0, _, Nat.zero_le _, rfl, rfl, by omega, by omega, by simp [Hid, sumTo], Below.refl _ _⟩
 obtain ⟨j, L, hj, rfl, rfl, hL0, hL1, hL, hbl⟩ := hrel
 by_cases hlt : j < n
 rotate_left
 · obtain rfl : j = n := by omega
   go_wp2_with fail
   go_ret
   refine ⟨aU ?_, hbl.out⟩
   have h2 := hL.out
   have h3 := Eh List.length l
   rw [HN.out] at h3
   have e3 : (iW l : Int) = j + (sumTo List.length l j : Nat) := by
    unfold iW cL
    rw [h3, HN.out]; omega
   rw [rO (by omega)]; omega
 have hjl : j < l.length := by rw [HN.out]; exact hlt
 obtain ⟨b, o, u0, rfl, q0, hx⟩ := bF rfl (aS hbl.out HH.out) j hjl
 have HX := qH hx
 have hs := yt List.length l j hjl
 have hle := sumTo_le List.length l (j + 1)
 generalize hcv : List.length l[j] = cv at hs
 have HC := qH hcv
 have HS := qH hs
 have HLe := qH hle
 clear hx hs hle hcv
 go_wp2_with fail
 refine (yu l[j] _ L _ HX.out hL0 hL1).mono ?_
 rintro e w1 ⟨rfl, hb1⟩
 rw [HC.out]
 rcases iC L cv with ⟨e1, g1⟩ | ⟨e1, g1⟩
 · rw [e1]
   clear e1
   go_wp2_with fail
   go_ret
   refine ⟨aU (lX ?_).symm, hbl.out.trans (hb1.mono hbl.out.size)⟩
   have := hL.out; have := HS.out; have := HLe.out; have := HN.out
   unfold iW cL
   omega
 rw [e1]
 clear e1
 go_wp2_with fail
 go_roundw
 case rel =>
  refine ⟨j + 1, L - cv, by omega, by go_num, rfl, by omega, by omega, ?_, hbl.out.trans (hb1.mono hbl.out.size)⟩
  have := hL.out; have := HS.out
  simp only [Hid]; omega
 simp [intOf]; omega
theorem adv (x : nI) (v0 v1 : Value) (left : Int) (w : World) (hx : Rd w [v0, v1] x) (h0 : 0 ≤ left) (h1 : left ≤ 1048576) :
 Calls prog 106 #[.agg #[v0, v1], .int .i64 left] w fun e w' => e = .returned (.int .i64 (less left (jT x : Nat))) ∧ Below w.heap.size w w' := by
 obtain ⟨x0, x1⟩ := x
 have lT := au rfl hx
 obtain ⟨rfl, FV⟩ := aG lT.1
 have sO := qH lT.2
 obtain ⟨BH, tH, rfl, _⟩ := ah sO.out
 clear hx lT
 have hs := (St.start w).alloc #[.int .i64 x0, .slice BH x1.length tH] 159 rfl
 go_enter func106, ntmps106
 go_wp2_with fail
 refine (yu x1 _ (left) _ (Rd.mono sO.out hs.bel) (by omega) (by omega)).mono ?_
 rintro e w1 ⟨rfl, hb1⟩
 have hs1 := hs.step hb1
 rcases iC (left) (List.length x1) with ⟨e1, g1⟩ | ⟨e1, g1⟩
 · rw [e1]
   clear e1
   go_wp2_with fail
   go_ret
   exact ⟨aU (lX (by simp only [jT]; omega)).symm, hs1.bel⟩
 rw [e1]
 clear e1
 go_wp2_with fail
 go_ret
 exact ⟨aU (by rw [rO (by simp only [jT]; omega)] <;> (simp only [jT] <;> omega)), hs1.bel⟩
theorem adw (x : bH) (v0 v1 : Value) (left : Int) (w : World) (hx : Rd w [v0, v1] x) (h0 : 0 ≤ left) (h1 : left ≤ 1048576) :
 Calls prog 105 #[.agg #[v0, v1], .int .i64 left] w fun e w' => e = .returned (.int .i64 (less left (jU x : Nat))) ∧ Below w.heap.size w w' := by
 obtain ⟨x0, x1⟩ := x
 have lT := au rfl hx
 obtain ⟨rfl, FV⟩ := aG lT.1
 have sO := qH lT.2
 obtain ⟨BH, tH, rfl, _⟩ := ah sO.out
 clear hx lT
 have hs := (St.start w).alloc #[.int .i64 x0, .slice BH x1.length tH] 157 rfl
 go_enter func105, ntmps105
 go_wp2_with fail
 refine (Qa x1 _ (left) _ (Rd.mono sO.out hs.bel) (by omega) (by omega)).mono ?_
 rintro e w1 ⟨rfl, hb1⟩
 have hs1 := hs.step hb1
 rcases iC (left) (iW x1) with ⟨e1, g1⟩ | ⟨e1, g1⟩
 · rw [e1]
   clear e1
   go_wp2_with fail
   go_ret
   exact ⟨aU (lX (by simp only [jU]; omega)).symm, hs1.bel⟩
 rw [e1]
 clear e1
 go_wp2_with fail
 go_ret
 exact ⟨aU (by rw [rO (by simp only [jU]; omega)] <;> (simp only [jU] <;> omega)), hs1.bel⟩
theorem Zm (l : List (nI)) (v : Value) (left : Int) (w : World) (r : Rd w [v] l) (h0 : 0 ≤ left) (h1 : left ≤ 1048576) :
 Calls prog 44 #[v, .int .i64 left] w fun e w' => e = .returned (.int .i64 (less left (lI l : Nat))) ∧ Below w.heap.size w w' := by
 obtain ⟨a, c, rfl, h⟩ := ah r
 have hb := (aN h).2
 unfold maxLen at hb
 clear r
 generalize hn : l.length = n at *
 have HN := qH hn
 have HH := qH h
 clear hn h
 by_cases hl : left - n < 0
 · go_enter func44, ntmps44
   go_wp2_with fail
   go_ret
   refine ⟨aU (lX ?_).symm, Below.refl _ _⟩
   unfold lI cL
   rw [HN.out]; omega
 go_enter func44, ntmps44
 go_wp2_with fail
 go_loopw [1, 5] (fun lf i wr => ∃ (j : Nat) (L : Int), j ≤ n ∧ i = .int .i64 j ∧ lf = .int .i64 L ∧ 0 ≤ L ∧ L ≤ 1048576 ∧ Hid (L = left - n - (sumTo jT l j : Nat)) ∧ Hid (Below w.heap.size w wr)) (fun _ i _ => n - (intOf i).toNat)
 case atStart => exact ⟨0, _, Nat.zero_le _, rfl, rfl, by omega, by omega, by simp [Hid, sumTo], Below.refl _ _⟩
 obtain ⟨j, L, hj, rfl, rfl, hL0, hL1, hL, hbl⟩ := hrel
 by_cases hlt : j < n
 rotate_left
 · obtain rfl : j = n := by omega
   go_wp2_with fail
   go_ret
   refine ⟨aU ?_, hbl.out⟩
   have h2 := hL.out
   have h3 := Eh jT l
   rw [HN.out] at h3
   have e3 : (lI l : Int) = j + (sumTo jT l j : Nat) := by
    unfold lI cL
    rw [h3, HN.out]; omega
   rw [rO (by omega)]; omega
 have hjl : j < l.length := by rw [HN.out]; exact hlt
 obtain ⟨b, o, u0, u1, rfl, q0, q1, hx⟩ := dP rfl (aS hbl.out HH.out) j hjl
 have HX := qH hx
 have hs := yt jT l j hjl
 have hle := sumTo_le jT l (j + 1)
 generalize hcv : jT l[j] = cv at hs
 have HC := qH hcv
 have HS := qH hs
 have HLe := qH hle
 clear hx hs hle hcv
 go_wp2_with fail
 refine (adv l[j] _ _ L _ HX.out hL0 hL1).mono ?_
 rintro e w1 ⟨rfl, hb1⟩
 rw [HC.out]
 rcases iC L cv with ⟨e1, g1⟩ | ⟨e1, g1⟩
 · rw [e1]
   clear e1
   go_wp2_with fail
   go_ret
   refine ⟨aU (lX ?_).symm, hbl.out.trans (hb1.mono hbl.out.size)⟩
   have := hL.out; have := HS.out; have := HLe.out; have := HN.out
   unfold lI cL
   omega
 rw [e1]
 clear e1
 go_wp2_with fail
 go_roundw
 case rel =>
  refine ⟨j + 1, L - cv, by omega, by go_num, rfl, by omega, by omega, ?_, hbl.out.trans (hb1.mono hbl.out.size)⟩
  have := hL.out; have := HS.out
  simp only [Hid]; omega
 simp [intOf]; omega
theorem Zn (l : List (bH)) (v : Value) (left : Int) (w : World) (r : Rd w [v] l) (h0 : 0 ≤ left) (h1 : left ≤ 1048576) :
 Calls prog 43 #[v, .int .i64 left] w fun e w' => e = .returned (.int .i64 (less left (lJ l : Nat))) ∧ Below w.heap.size w w' := by
 obtain ⟨a, c, rfl, h⟩ := ah r
 have hb := (aN h).2
 unfold maxLen at hb
 clear r
 generalize hn : l.length = n at *
 have HN := qH hn
 have HH := qH h
 clear hn h
 by_cases hl : left - n < 0
 · go_enter func43, ntmps43
   go_wp2_with fail
   go_ret
   refine ⟨aU (lX ?_).symm, Below.refl _ _⟩
   unfold lJ cL
   rw [HN.out]; omega
 go_enter func43, ntmps43
 go_wp2_with fail
 go_loopw [1, 5] (fun lf i wr => ∃ (j : Nat) (L : Int), j ≤ n ∧ i = .int .i64 j ∧ lf = .int .i64 L ∧ 0 ≤ L ∧ L ≤ 1048576 ∧ Hid (L = left - n - (sumTo jU l j : Nat)) ∧ Hid (Below w.heap.size w wr)) (fun _ i _ => n - (intOf i).toNat)
 case atStart => exact ⟨0, _, Nat.zero_le _, rfl, rfl, by omega, by omega, by simp [Hid, sumTo], Below.refl _ _⟩
 obtain ⟨j, L, hj, rfl, rfl, hL0, hL1, hL, hbl⟩ := hrel
 by_cases hlt : j < n
 rotate_left
 · obtain rfl : j = n := by omega
   go_wp2_with fail
   go_ret
   refine ⟨aU ?_, hbl.out⟩
   have h2 := hL.out
   have h3 := Eh jU l
   rw [HN.out] at h3
   have e3 : (lJ l : Int) = j + (sumTo jU l j : Nat) := by
    unfold lJ cL
    rw [h3, HN.out]; omega
   rw [rO (by omega)]; omega
 have hjl : j < l.length := by rw [HN.out]; exact hlt
 obtain ⟨b, o, u0, u1, rfl, q0, q1, hx⟩ := dP rfl (aS hbl.out HH.out) j hjl
 have HX := qH hx
 have hs := yt jU l j hjl
 have hle := sumTo_le jU l (j + 1)
 generalize hcv : jU l[j] = cv at hs
 have HC := qH hcv
 have HS := qH hs
 have HLe := qH hle
 clear hx hs hle hcv
 go_wp2_with fail
 refine (adw l[j] _ _ L _ HX.out hL0 hL1).mono ?_
 rintro e w1 ⟨rfl, hb1⟩
 rw [HC.out]
 rcases iC L cv with ⟨e1, g1⟩ | ⟨e1, g1⟩
 · rw [e1]
   clear e1
   go_wp2_with fail
   go_ret
   refine ⟨aU (lX ?_).symm, hbl.out.trans (hb1.mono hbl.out.size)⟩
   have := hL.out; have := HS.out; have := HLe.out; have := HN.out
   unfold lJ cL
   omega
 rw [e1]
 clear e1
 go_wp2_with fail
 go_roundw
 case rel =>
  refine ⟨j + 1, L - cv, by omega, by go_num, rfl, by omega, by omega, ?_, hbl.out.trans (hb1.mono hbl.out.size)⟩
  have := hL.out; have := HS.out
  simp only [Hid]; omega
 simp [intOf]; omega
theorem NG (l : List ((Int × Int × Int))) (v : Value) (left : Int) (w : World) (r : Rd w [v] l) (h0 : 0 ≤ left) (h1 : left ≤ 1048576) :
 Calls prog 90 #[v, .int .i64 left] w fun e w' => e = .returned (.int .i64 (less left (fD l : Nat))) ∧ Below w.heap.size w w' := by
 obtain ⟨a, c, rfl, h⟩ := ah r
 have hb := (aN h).2
 unfold maxLen at hb
 unfold fD
 clear r h
 by_cases hl : left - l.length < 0
 all_goals
  go_enter func90, ntmps90
  go_wp2
  go_ret
  exact ⟨aU (by unfold less; split <;> omega), Below.refl _ _⟩
theorem J6 (l : List ((Int × Int × Int))) (v : Value) (left : Int) (w : World) (r : Rd w [v] l) (h0 : 0 ≤ left) (h1 : left ≤ 1048576) :
 Calls prog 91 #[v, .int .i64 left] w fun e w' => e = .returned (.int .i64 (less left (gy l : Nat))) ∧ Below w.heap.size w w' := by
 obtain ⟨a, c, rfl, h⟩ := ah r
 have hb := (aN h).2
 unfold maxLen at hb
 unfold gy
 clear r h
 by_cases hl : left - l.length < 0
 all_goals
  go_enter func91, ntmps91
  go_wp2
  go_ret
  exact ⟨aU (by unfold less; split <;> omega), Below.refl _ _⟩
theorem NH (x : dB) (v0 v1 : Value) (left : Int) (w : World) (hx : Rd w [v0, v1] x) (h0 : 0 ≤ left) (h1 : left ≤ 1048576) :
 Calls prog 8 #[.agg #[v0, v1], .int .i64 left] w fun e w' => e = .returned (.int .i64 (less left (fE x : Nat))) ∧ Below w.heap.size w w' := by
 obtain ⟨x0, x1⟩ := x
 have lT := au rfl hx
 obtain ⟨rfl, FV⟩ := aG lT.1
 have sO := qH lT.2
 obtain ⟨BH, tH, rfl, _⟩ := ah sO.out
 clear hx lT
 have hs := (St.start w).alloc #[.int .i64 x0, .slice BH x1.length tH] 24 rfl
 go_enter func8, ntmps8
 go_wp2_with fail
 refine (Zn x1 _ (left) _ (Rd.mono sO.out hs.bel) (by omega) (by omega)).mono ?_
 rintro e w1 ⟨rfl, hb1⟩
 have hs1 := hs.step hb1
 rcases iC (left) (lJ x1) with ⟨e1, g1⟩ | ⟨e1, g1⟩
 · rw [e1]
   clear e1
   go_wp2_with fail
   go_ret
   exact ⟨aU (lX (by simp only [fE]; omega)).symm, hs1.bel⟩
 rw [e1]
 clear e1
 go_wp2_with fail
 go_ret
 exact ⟨aU (by rw [rO (by simp only [fE]; omega)] <;> (simp only [fE] <;> omega)), hs1.bel⟩
theorem NI (x : Inst) (v0 v1 : Value) (left : Int) (w : World) (hx : Rd w [v0, v1] x) (h0 : 0 ≤ left) (h1 : left ≤ 1048576) :
 Calls prog 9 #[.agg #[v0, v1], .int .i64 left] w fun e w' => e = .returned (.int .i64 (less left (iw x : Nat))) ∧ Below w.heap.size w w' := by
 obtain ⟨x0, x1⟩ := x
 have lT := au rfl hx
 obtain ⟨rfl, FV⟩ := aG lT.1
 have sO := qH lT.2
 obtain ⟨BH, tH, rfl, _⟩ := ah sO.out
 clear hx lT
 have hs := (St.start w).alloc #[.int .i64 x0, .slice BH x1.length tH] 27 rfl
 go_enter func9, ntmps9
 go_wp2_with fail
 refine (Zm x1 _ (left) _ (Rd.mono sO.out hs.bel) (by omega) (by omega)).mono ?_
 rintro e w1 ⟨rfl, hb1⟩
 have hs1 := hs.step hb1
 rcases iC (left) (lI x1) with ⟨e1, g1⟩ | ⟨e1, g1⟩
 · rw [e1]
   clear e1
   go_wp2_with fail
   go_ret
   exact ⟨aU (lX (by simp only [iw]; omega)).symm, hs1.bel⟩
 rw [e1]
 clear e1
 go_wp2_with fail
 go_ret
 exact ⟨aU (by rw [rO (by simp only [iw]; omega)] <;> (simp only [iw] <;> omega)), hs1.bel⟩
theorem Qb (x : oW) (v0 v1 v2 v3 v4 : Value) (left : Int) (w : World) (hx : Rd w [v0, v1, v2, v3, v4] x) (h0 : 0 ≤ left) (h1 : left ≤ 1048576) :
 Calls prog 32 #[.agg #[v0, v1, v2, v3, v4], .int .i64 left] w fun e w' => e = .returned (.int .i64 (less left (dU x : Nat))) ∧ Below w.heap.size w w' := by
 obtain ⟨x0, x1, x2, x3, x4⟩ := x
 have lT := au rfl hx
 obtain ⟨rfl, FV⟩ := aG lT.1
 have Ei := au rfl lT.2
 have sO := qH Ei.1
 obtain ⟨BH, tH, rfl, _⟩ := ah sO.out
 have Zo := au rfl Ei.2
 have Wy := qH Zo.1
 obtain ⟨ax2, cx2, rfl, _⟩ := ah Wy.out
 have Zp := au rfl Zo.2
 have Zq := qH Zp.1
 obtain ⟨ax3, cx3, rfl, _⟩ := ah Zq.out
 have Zr := qH Zp.2
 obtain ⟨ax4, cx4, rfl, _⟩ := ah Zr.out
 clear hx lT Ei Zo Zp
 have hs := (St.start w).alloc #[.int .i64 x0, .slice BH x1.length tH, .slice ax2 x2.length cx2, .slice ax3 x3.length cx3, .slice ax4 x4.length cx4] 71 rfl
 go_enter func32, ntmps32
 go_wp2_with fail
 refine (yu x1 _ (left) _ (Rd.mono sO.out hs.bel) (by omega) (by omega)).mono ?_
 rintro e w1 ⟨rfl, hb1⟩
 have hs1 := hs.step hb1
 rcases iC (left) (List.length x1) with ⟨e1, g1⟩ | ⟨e1, g1⟩
 · rw [e1]
   clear e1
   go_wp2_with fail
   go_ret
   exact ⟨aU (lX (by simp only [dU]; omega)).symm, hs1.bel⟩
 rw [e1]
 clear e1
 obtain ⟨p2, p3, p4⟩ := hs1.c3 0 2 0 3 0 4
 go_wp2_with fail
 refine (NG x2 _ (left - (List.length x1)) _ (Rd.mono Wy.out hs1.bel) (by omega) (by omega)).mono ?_
 rintro e w2 ⟨rfl, hb2⟩
 have hs2 := hs1.step hb2
 rcases iC (left - (List.length x1)) (fD x2) with ⟨e1, g2⟩ | ⟨e1, g2⟩
 · rw [e1]
   clear e1
   go_wp2_with fail
   go_ret
   exact ⟨aU (lX (by simp only [dU]; omega)).symm, hs2.bel⟩
 rw [e1]
 clear e1
 obtain ⟨p3, p4⟩ := hs2.c2 0 3 0 4
 go_wp2_with fail
 refine (J6 x3 _ (left - (List.length x1) - (fD x2)) _ (Rd.mono Zq.out hs2.bel) (by omega) (by omega)).mono ?_
 rintro e w3 ⟨rfl, hb3⟩
 have hs3 := hs2.step hb3
 rcases iC (left - (List.length x1) - (fD x2)) (gy x3) with ⟨e1, g3⟩ | ⟨e1, g3⟩
 · rw [e1]
   clear e1
   go_wp2_with fail
   go_ret
   exact ⟨aU (lX (by simp only [dU]; omega)).symm, hs3.bel⟩
 rw [e1]
 clear e1
 have p4 := hs3.c 0 4
 go_wp2_with fail
 refine (yu x4 _ (left - (List.length x1) - (fD x2) - (gy x3)) _ (Rd.mono Zr.out hs3.bel) (by omega) (by omega)).mono ?_
 rintro e w4 ⟨rfl, hb4⟩
 have hs4 := hs3.step hb4
 rcases iC (left - (List.length x1) - (fD x2) - (gy x3)) (List.length x4) with ⟨e1, g4⟩ | ⟨e1, g4⟩
 · rw [e1]
   clear e1
   go_wp2_with fail
   go_ret
   exact ⟨aU (lX (by simp only [dU]; omega)).symm, hs4.bel⟩
 rw [e1]
 clear e1
 go_wp2_with fail
 go_ret
 exact ⟨aU (by rw [rO (by simp only [dU]; omega)] <;> (simp only [dU] <;> omega)), hs4.bel⟩
theorem size_setCell (w : World) (a : Addr) (v : Value) : (w.setCell a v).heap.size = w.heap.size := by simp [World.setCell]
theorem yw (l : List Int) (v : Value) (w : World) (r : Rd w [v] l) (hc : l.length ≤ 1048576) :
 Calls prog 56 #[v] w fun e w' => ∃ v', e = .returned v' ∧ aQ w.heap.size w' [v'] l ∧ Below w.heap.size w w' := TF l v w r (by omega)
theorem Qc (l : List (List Int)) (v : Value) (w : World) (r : Rd w [v] l) (hc : iW l ≤ 1048576) :
 Calls prog 226 #[v] w fun e w' => ∃ v', e = .returned v' ∧ aQ w.heap.size w' [v'] l ∧ Below w.heap.size w w' := by
 obtain ⟨a, c, rfl, h⟩ := ah r
 clear r
 have hnc : l.length ≤ 1048576 := by unfold iW cL at hc; omega
 have HC := qH hc
 generalize hn : l.length = n at *
 have HN := qH hn
 have HH := qH h
 clear hn h hc
 go_enter func226, ntmps226
 go_wp2_with (at_make; refine bV w rfl _ _ 97 rfl oq ([] : List Int) XR n (by omega) rfl rfl ?_)
 intro w1 hown hb1 hs1
 have IV := qH (CV hown)
 have HB := qH hb1
 clear hown hb1
 go_wp2_with fail
 go_loopw [4] (fun i wr => ∃ j : Nat, j ≤ n ∧ i = .int .i64 j ∧ Hid (Below w.heap.size w wr) ∧ Hid (Iv w.heap.size wr.heap.size wr [.slice (some ⟨w.heap.size, 0, none⟩) n n] (lW ([] : List Int) l j)) ∧ w.heap.size < wr.heap.size) (fun i _ => n - (intOf i).toNat)
 case atStart => exact ⟨0, Nat.zero_le _, rfl, HB.out, by rw [pI, HN.out]; show Iv _ _ _ _ _; rw [hs1]; exact IV.out, by omega⟩
 obtain ⟨j, hj, rfl, hbl, hiv, hlt0⟩ := hrel
 by_cases hlt : j < n
 rotate_left
 · obtain rfl : j = n := by omega
   go_wp2_with fail
   go_ret
   refine ⟨_, rfl, ?_, hbl.out⟩
   have := hiv.out
   rw [← HN.out, rG, HN.out] at this
   exact Iv.fresh this
 have hjl : j < l.length := by rw [HN.out]; exact hlt
 obtain ⟨b, o, u0, rfl, q0, hx⟩ := bF rfl (aS hbl.out HH.out) j hjl
 have HX := qH hx
 clear hx
 go_wp2_with fail
 refine (yw l[j] _ _ HX.out (by have := TG List.length l j hjl; have := HC.out; unfold iW at this; omega)).mono ?_
 rintro e w2 ⟨b0, rfl, fr, hb2⟩
 have hlen := gu ([] : List Int) l j (by omega)
 have NJ := hiv.out.mono hb2
 have NK := aQ.iv fr
 obtain ⟨g, o', c', cur, et, hv, hh, hg1, hg2, hsz⟩ := zD NJ (by rw [hlen]; omega) (by simp)
 simp only [Value.slice.injEq, Option.some.injEq, Addr.mk.injEq] at hv
 obtain ⟨⟨rfl, rfl, -⟩, -, rfl⟩ := hv
 rw [hlen, HN.out, Nat.zero_add, show sz (List Int) = 1 from rfl] at hsz
 have hrd := Iv.rd NK
 obtain ⟨d0, e0, rfl, _⟩ := ah hrd
 have s0 := cell_of_heap hh (q := j) (by omega)
 have f0 := aO (o := j) hh
 have OV := qH NJ
 have EV := qH NK
 clear hrd fr hh NJ NK
 go_wp2
 go_roundw
 case rel =>
  have hz := hb2.size
  have hop := fC w.heap.size [.slice d0 (l[j]).length e0] (j) w2
  refine ⟨j + 1, by omega, by go_num, (hbl.out.trans (hb2.mono hbl.out.size)).trans (hop.below (by simp)), ?_, ?_⟩
  · have := CW OV.out j (by rw [gu _ _ _ (by omega)]; omega) EV.out hz (q := j) (by simp)
    rw [pJ _ _ _ hjl] at this
    show Iv _ _ _ _ _
    have hz2 := hop.size
    rw [← hz2] at this
    exact this
  have hz2 := hop.size
  exact Nat.lt_of_lt_of_le hlt0 (by rw [← hz2] at hz; exact hz)
 simp [intOf]; omega
theorem adx (x : nI) (v0 v1 : Value) (w : World) (hx : Rd w [v0, v1] x) (hc : jT x ≤ 1048576) :
 Calls prog 116 #[.agg #[v0, v1]] w fun e w' => ∃ u0 u1, e = .returned (.agg #[u0, u1]) ∧ aQ w.heap.size w' [u0, u1] x ∧ Below w.heap.size w w' := by
 obtain ⟨x0, x1⟩ := x
 simp only [jT] at hc
 have lT := au rfl hx
 obtain ⟨rfl, FV⟩ := aG lT.1
 have sO := qH lT.2
 obtain ⟨BH, tH, rfl, _⟩ := ah sO.out
 clear hx lT
 have hs := (((St.start w).alloc #[.int .i64 x0, .slice BH x1.length tH] 159 rfl).alloc #[.int .i64 0, .slice none 0 0] 150 (n := w.heap.size + 1) (by simp)).alloc #[.int .i64 x0, .slice none 0 0] 150 (n := w.heap.size + 1 + 1) (by simp)
 go_enter func116, ntmps116
 have hl1 := hs.hi
 go_wp2_with fail
 refine (yw x1 _ _ (Rd.mono sO.out hs.bel) (by omega)).mono ?_
 rintro e w1 ⟨b1, rfl, Gy, hb1⟩
 have WC := aQ.iv Gy
 obtain ⟨d1, e1, rfl, _⟩ := ah (Iv.rd WC)
 have hs1 := hs.step hb1
 clear Gy
 obtain ⟨p0, p1, s0⟩ := hs1.c3 0 0 0 1 2 0
 have f0 := hs1.aC 2 rfl 0
 have s1 := hs1.c 2 1
 have f1 := hs1.aC 2 rfl 1
 have z0 := hs1.c 1 0
 have y0 := hs1.aC 1 rfl 0
 have z1 := hs1.c 1 1
 have y1 := hs1.aC 1 rfl 1
 have Ia := hs1.set (p := [_, _]) (by simp <;> omega) 1 (.slice d1 x1.length e1)
 have NM := WC.setCell (a := ⟨w.heap.size + 1 + 1, 1, none⟩) (Nat.lt_of_lt_of_le (Nat.lt_succ_self _) hl1) (.slice d1 x1.length e1)
 go_wp2
 have ivA := rF FV (NM)
 refine bodyPost_ret (v := .agg #[.int .i64 x0, .slice d1 x1.length e1]) (by simp [results, results116, go_sem, z0, y0, z1, y1]) rfl ⟨_, _,  rfl, ?_⟩
 exact Ia.Tz ivA (g := w.heap.size + 1) (by omega) (Nat.lt_of_lt_of_le (Nat.lt_succ_of_lt (Nat.lt_succ_self _)) hl1) [.int .i64 x0, .slice d1 x1.length e1]
theorem adz (x : bH) (v0 v1 : Value) (w : World) (hx : Rd w [v0, v1] x) (hc : jU x ≤ 1048576) :
 Calls prog 115 #[.agg #[v0, v1]] w fun e w' => ∃ u0 u1, e = .returned (.agg #[u0, u1]) ∧ aQ w.heap.size w' [u0, u1] x ∧ Below w.heap.size w w' := by
 obtain ⟨x0, x1⟩ := x
 simp only [jU] at hc
 have lT := au rfl hx
 obtain ⟨rfl, FV⟩ := aG lT.1
 have sO := qH lT.2
 obtain ⟨BH, tH, rfl, _⟩ := ah sO.out
 clear hx lT
 have hs := (((St.start w).alloc #[.int .i64 x0, .slice BH x1.length tH] 157 rfl).alloc #[.int .i64 0, .slice none 0 0] 118 (n := w.heap.size + 1) (by simp)).alloc #[.int .i64 x0, .slice none 0 0] 118 (n := w.heap.size + 1 + 1) (by simp)
 go_enter func115, ntmps115
 have hl1 := hs.hi
 go_wp2_with fail
 refine (Qc x1 _ _ (Rd.mono sO.out hs.bel) (by omega)).mono ?_
 rintro e w1 ⟨b1, rfl, Gy, hb1⟩
 have WC := aQ.iv Gy
 obtain ⟨d1, e1, rfl, _⟩ := ah (Iv.rd WC)
 have hs1 := hs.step hb1
 clear Gy
 obtain ⟨p0, p1, s0⟩ := hs1.c3 0 0 0 1 2 0
 have f0 := hs1.aC 2 rfl 0
 have s1 := hs1.c 2 1
 have f1 := hs1.aC 2 rfl 1
 have z0 := hs1.c 1 0
 have y0 := hs1.aC 1 rfl 0
 have z1 := hs1.c 1 1
 have y1 := hs1.aC 1 rfl 1
 have Ia := hs1.set (p := [_, _]) (by simp <;> omega) 1 (.slice d1 x1.length e1)
 have NM := WC.setCell (a := ⟨w.heap.size + 1 + 1, 1, none⟩) (Nat.lt_of_lt_of_le (Nat.lt_succ_self _) hl1) (.slice d1 x1.length e1)
 go_wp2
 have ivA := rF FV (NM)
 refine bodyPost_ret (v := .agg #[.int .i64 x0, .slice d1 x1.length e1]) (by simp [results, results115, go_sem, z0, y0, z1, y1]) rfl ⟨_, _,  rfl, ?_⟩
 exact Ia.Tz ivA (g := w.heap.size + 1) (by omega) (Nat.lt_of_lt_of_le (Nat.lt_succ_of_lt (Nat.lt_succ_self _)) hl1) [.int .i64 x0, .slice d1 x1.length e1]
theorem Qd (x : (Int × Int × Int)) (v0 v1 v2 : Value) (w : World) (hx : Rd w [v0, v1, v2] x) :
 Calls prog 170 #[.agg #[v0, v1, v2]] w fun e w' => ∃ u0 u1 u2, e = .returned (.agg #[u0, u1, u2]) ∧ aQ w.heap.size w' [u0, u1, u2] x ∧ Below w.heap.size w w' := by
 obtain ⟨x0, x1, x2⟩ := x
 have lT := au rfl hx
 obtain ⟨rfl, FV⟩ := aG lT.1
 have Ei := au rfl lT.2
 obtain ⟨rfl, Ix1⟩ := aG Ei.1
 obtain ⟨rfl, Ix2⟩ := aG Ei.2
 clear hx lT Ei
 have hs := (((St.start w).alloc #[.int .i64 x0, .int .i64 x1, .int .i64 x2] 237 rfl).alloc #[.int .i64 0, .int .i64 0, .int .i64 0] 180 (n := w.heap.size + 1) (by simp)).alloc #[.int .i64 x0, .int .i64 x1, .int .i64 x2] 180 (n := w.heap.size + 1 + 1) (by simp)
 go_enter func170, ntmps170
 go_wp2
 refine bodyPost_ret (v := .agg #[.int .i64 x0, .int .i64 x1, .int .i64 x2]) (by simp [results, results170, go_sem]) rfl ⟨_, _, _,  rfl, ⟨[], ⟨[], [], [_], [_, _], rfl, rfl, ⟨rfl, rfl, FV⟩, ⟨[], [], [_], [_], rfl, rfl, ⟨rfl, rfl, Ix1⟩, ⟨rfl, rfl, Ix2⟩⟩⟩, by simp, by simp⟩, ?_⟩
 first | exact hs.bel | exact (((Below.refl _ _).alloc (Nat.le_refl _) _).alloc (by simp) _).alloc (by simp; omega) _
theorem NP (x : (Int × Int × Int)) (v0 v1 v2 : Value) (w : World) (hx : Rd w [v0, v1, v2] x) :
 Calls prog 171 #[.agg #[v0, v1, v2]] w fun e w' => ∃ u0 u1 u2, e = .returned (.agg #[u0, u1, u2]) ∧ aQ w.heap.size w' [u0, u1, u2] x ∧ Below w.heap.size w w' := by
 obtain ⟨x0, x1, x2⟩ := x
 have lT := au rfl hx
 obtain ⟨rfl, FV⟩ := aG lT.1
 have Ei := au rfl lT.2
 obtain ⟨rfl, Ix1⟩ := aG Ei.1
 obtain ⟨rfl, Ix2⟩ := aG Ei.2
 clear hx lT Ei
 have hs := (((St.start w).alloc #[.int .i64 x0, .int .i64 x1, .int .i64 x2] 239 rfl).alloc #[.int .i64 0, .int .i64 0, .int .i64 0] 169 (n := w.heap.size + 1) (by simp)).alloc #[.int .i64 x0, .int .i64 x1, .int .i64 x2] 169 (n := w.heap.size + 1 + 1) (by simp)
 go_enter func171, ntmps171
 go_wp2
 refine bodyPost_ret (v := .agg #[.int .i64 x0, .int .i64 x1, .int .i64 x2]) (by simp [results, results171, go_sem]) rfl ⟨_, _, _,  rfl, ⟨[], ⟨[], [], [_], [_, _], rfl, rfl, ⟨rfl, rfl, FV⟩, ⟨[], [], [_], [_], rfl, rfl, ⟨rfl, rfl, Ix1⟩, ⟨rfl, rfl, Ix2⟩⟩⟩, by simp, by simp⟩, ?_⟩
 first | exact hs.bel | exact (((Below.refl _ _).alloc (Nat.le_refl _) _).alloc (by simp) _).alloc (by simp; omega) _
theorem Zt (l : List (nI)) (v : Value) (w : World) (r : Rd w [v] l) (hc : lI l ≤ 1048576) :
 Calls prog 55 #[v] w fun e w' => ∃ v', e = .returned v' ∧ aQ w.heap.size w' [v'] l ∧ Below w.heap.size w w' := by
 obtain ⟨a, c, rfl, h⟩ := ah r
 clear r
 have hnc : l.length ≤ 1048576 := by unfold lI cL at hc; omega
 have HC := qH hc
 generalize hn : l.length = n at *
 have HN := qH hn
 have HH := qH h
 clear hn h hc
 go_enter func55, ntmps55
 go_wp2_with (at_make; refine bV w rfl _ _ 44 rfl agH ((0, []) : nI) adb n (by omega) rfl rfl ?_)
 intro w1 hown hb1 hs1
 have IV := qH (CV hown)
 have HB := qH hb1
 clear hown hb1
 go_wp2_with fail
 go_loopw [4] (fun i wr => ∃ j : Nat, j ≤ n ∧ i = .int .i64 j ∧ Hid (Below w.heap.size w wr) ∧ Hid (Iv w.heap.size wr.heap.size wr [.slice (some ⟨w.heap.size, 0, none⟩) n n] (lW ((0, []) : nI) l j)) ∧ w.heap.size < wr.heap.size) (fun i _ => n - (intOf i).toNat)
 case atStart => exact ⟨0, Nat.zero_le _, rfl, HB.out, by rw [pI, HN.out]; show Iv _ _ _ _ _; rw [hs1]; exact IV.out, by omega⟩
 obtain ⟨j, hj, rfl, hbl, hiv, hlt0⟩ := hrel
 by_cases hlt : j < n
 rotate_left
 · obtain rfl : j = n := by omega
   go_wp2_with fail
   go_ret
   refine ⟨_, rfl, ?_, hbl.out⟩
   have := hiv.out
   rw [← HN.out, rG, HN.out] at this
   exact Iv.fresh this
 have hjl : j < l.length := by rw [HN.out]; exact hlt
 obtain ⟨b, o, u0, u1, rfl, q0, q1, hx⟩ := dP rfl (aS hbl.out HH.out) j hjl
 have HX := qH hx
 clear hx
 go_wp2_with fail
 refine (adx l[j] _ _ _ HX.out (by have := TG jT l j hjl; have := HC.out; unfold lI at this; omega)).mono ?_
 rintro e w2 ⟨b0, b1, rfl, fr, hb2⟩
 have hlen := gu ((0, []) : nI) l j (by omega)
 have NJ := hiv.out.mono hb2
 have NK := aQ.iv fr
 obtain ⟨g, o', c', cur, et, hv, hh, hg1, hg2, hsz⟩ := zD NJ (by rw [hlen]; omega) (by simp)
 simp only [Value.slice.injEq, Option.some.injEq, Addr.mk.injEq] at hv
 obtain ⟨⟨rfl, rfl, -⟩, -, rfl⟩ := hv
 rw [hlen, HN.out, Nat.zero_add, show sz (nI) = 2 from rfl] at hsz
 have hrd := Iv.rd NK
 have r0 := au rfl hrd
 obtain ⟨rfl, _⟩ := aG r0.1
 obtain ⟨d1, e1, rfl, _⟩ := ah r0.2
 have s0 := cell_of_heap hh (q := j * 2) (by omega)
 have f0 := aO (o := j * 2) hh
 have s1 := cell_of_heap hh (q := j * 2 + 1) (by omega)
 have f1 := aO (o := j * 2 + 1) hh
 have OV := qH NJ
 have EV := qH NK
 clear hrd fr hh NJ NK r0
 go_wp2
 go_roundw
 case rel =>
  have hz := hb2.size
  have hop := fC w.heap.size [.int .i64 l[j].1, .slice d1 (l[j].2).length e1] (j * 2) w2
  refine ⟨j + 1, by omega, by go_num, (hbl.out.trans (hb2.mono hbl.out.size)).trans (hop.below (by simp)), ?_, ?_⟩
  · have := CW OV.out j (by rw [gu _ _ _ (by omega)]; omega) EV.out hz (q := j * 2) (by simp)
    rw [pJ _ _ _ hjl] at this
    show Iv _ _ _ _ _
    have hz2 := hop.size
    rw [← hz2] at this
    exact this
  have hz2 := hop.size
  exact Nat.lt_of_lt_of_le hlt0 (by rw [← hz2] at hz; exact hz)
 simp [intOf]; omega
theorem Zu (l : List (bH)) (v : Value) (w : World) (r : Rd w [v] l) (hc : lJ l ≤ 1048576) :
 Calls prog 54 #[v] w fun e w' => ∃ v', e = .returned v' ∧ aQ w.heap.size w' [v'] l ∧ Below w.heap.size w w' := by
 obtain ⟨a, c, rfl, h⟩ := ah r
 clear r
 have hnc : l.length ≤ 1048576 := by unfold lJ cL at hc; omega
 have HC := qH hc
 generalize hn : l.length = n at *
 have HN := qH hn
 have HH := qH h
 clear hn h hc
 go_enter func54, ntmps54
 go_wp2_with (at_make; refine bV w rfl _ _ 40 rfl Tv ((0, []) : bH) Y9 n (by omega) rfl rfl ?_)
 intro w1 hown hb1 hs1
 have IV := qH (CV hown)
 have HB := qH hb1
 clear hown hb1
 go_wp2_with fail
 go_loopw [4] (fun i wr => ∃ j : Nat, j ≤ n ∧ i = .int .i64 j ∧ Hid (Below w.heap.size w wr) ∧ Hid (Iv w.heap.size wr.heap.size wr [.slice (some ⟨w.heap.size, 0, none⟩) n n] (lW ((0, []) : bH) l j)) ∧ w.heap.size < wr.heap.size) (fun i _ => n - (intOf i).toNat)
 case atStart => exact ⟨0, Nat.zero_le _, rfl, HB.out, by rw [pI, HN.out]; show Iv _ _ _ _ _; rw [hs1]; exact IV.out, by omega⟩
 obtain ⟨j, hj, rfl, hbl, hiv, hlt0⟩ := hrel
 by_cases hlt : j < n
 rotate_left
 · obtain rfl : j = n := by omega
   go_wp2_with fail
   go_ret
   refine ⟨_, rfl, ?_, hbl.out⟩
   have := hiv.out
   rw [← HN.out, rG, HN.out] at this
   exact Iv.fresh this
 have hjl : j < l.length := by rw [HN.out]; exact hlt
 obtain ⟨b, o, u0, u1, rfl, q0, q1, hx⟩ := dP rfl (aS hbl.out HH.out) j hjl
 have HX := qH hx
 clear hx
 go_wp2_with fail
 refine (adz l[j] _ _ _ HX.out (by have := TG jU l j hjl; have := HC.out; unfold lJ at this; omega)).mono ?_
 rintro e w2 ⟨b0, b1, rfl, fr, hb2⟩
 have hlen := gu ((0, []) : bH) l j (by omega)
 have NJ := hiv.out.mono hb2
 have NK := aQ.iv fr
 obtain ⟨g, o', c', cur, et, hv, hh, hg1, hg2, hsz⟩ := zD NJ (by rw [hlen]; omega) (by simp)
 simp only [Value.slice.injEq, Option.some.injEq, Addr.mk.injEq] at hv
 obtain ⟨⟨rfl, rfl, -⟩, -, rfl⟩ := hv
 rw [hlen, HN.out, Nat.zero_add, show sz (bH) = 2 from rfl] at hsz
 have hrd := Iv.rd NK
 have r0 := au rfl hrd
 obtain ⟨rfl, _⟩ := aG r0.1
 obtain ⟨d1, e1, rfl, _⟩ := ah r0.2
 have s0 := cell_of_heap hh (q := j * 2) (by omega)
 have f0 := aO (o := j * 2) hh
 have s1 := cell_of_heap hh (q := j * 2 + 1) (by omega)
 have f1 := aO (o := j * 2 + 1) hh
 have OV := qH NJ
 have EV := qH NK
 clear hrd fr hh NJ NK r0
 go_wp2
 go_roundw
 case rel =>
  have hz := hb2.size
  have hop := fC w.heap.size [.int .i64 l[j].1, .slice d1 (l[j].2).length e1] (j * 2) w2
  refine ⟨j + 1, by omega, by go_num, (hbl.out.trans (hb2.mono hbl.out.size)).trans (hop.below (by simp)), ?_, ?_⟩
  · have := CW OV.out j (by rw [gu _ _ _ (by omega)]; omega) EV.out hz (q := j * 2) (by simp)
    rw [pJ _ _ _ hjl] at this
    show Iv _ _ _ _ _
    have hz2 := hop.size
    rw [← hz2] at this
    exact this
  have hz2 := hop.size
  exact Nat.lt_of_lt_of_le hlt0 (by rw [← hz2] at hz; exact hz)
 simp [intOf]; omega
theorem NQ (l : List ((Int × Int × Int))) (v : Value) (w : World) (r : Rd w [v] l) (hc : fD l ≤ 1048576) :
 Calls prog 93 #[v] w fun e w' => ∃ v', e = .returned v' ∧ aQ w.heap.size w' [v'] l ∧ Below w.heap.size w w' := by
 obtain ⟨a, c, rfl, h⟩ := ah r
 clear r
 have hnc : l.length ≤ 1048576 := by unfold fD at hc; omega
 generalize hn : l.length = n at *
 have HN := qH hn
 have HH := qH h
 clear hn h hc
 go_enter func93, ntmps93
 go_wp2_with (at_make; refine bV w rfl _ _ 34 rfl agI ((0, 0, 0) : (Int × Int × Int)) Ws n (by omega) rfl rfl ?_)
 intro w1 hown hb1 hs1
 have IV := qH (CV hown)
 have HB := qH hb1
 clear hown hb1
 go_wp2_with fail
 go_loopw [4] (fun i wr => ∃ j : Nat, j ≤ n ∧ i = .int .i64 j ∧ Hid (Below w.heap.size w wr) ∧ Hid (Iv w.heap.size wr.heap.size wr [.slice (some ⟨w.heap.size, 0, none⟩) n n] (lW ((0, 0, 0) : (Int × Int × Int)) l j)) ∧ w.heap.size < wr.heap.size) (fun i _ => n - (intOf i).toNat)
 case atStart => exact ⟨0, Nat.zero_le _, rfl, HB.out, by rw [pI, HN.out]; show Iv _ _ _ _ _; rw [hs1]; exact IV.out, by omega⟩
 obtain ⟨j, hj, rfl, hbl, hiv, hlt0⟩ := hrel
 by_cases hlt : j < n
 rotate_left
 · obtain rfl : j = n := by omega
   go_wp2_with fail
   go_ret
   refine ⟨_, rfl, ?_, hbl.out⟩
   have := hiv.out
   rw [← HN.out, rG, HN.out] at this
   exact Iv.fresh this
 have hjl : j < l.length := by rw [HN.out]; exact hlt
 obtain ⟨b, o, u0, u1, u2, rfl, q0, q1, q2, hx⟩ := gU rfl (aS hbl.out HH.out) j hjl
 have HX := qH hx
 clear hx
 go_wp2_with fail
 refine (Qd l[j] _ _ _ _ HX.out).mono ?_
 rintro e w2 ⟨b0, b1, b2, rfl, fr, hb2⟩
 have hlen := gu ((0, 0, 0) : (Int × Int × Int)) l j (by omega)
 have NJ := hiv.out.mono hb2
 have NK := aQ.iv fr
 obtain ⟨g, o', c', cur, et, hv, hh, hg1, hg2, hsz⟩ := zD NJ (by rw [hlen]; omega) (by simp)
 simp only [Value.slice.injEq, Option.some.injEq, Addr.mk.injEq] at hv
 obtain ⟨⟨rfl, rfl, -⟩, -, rfl⟩ := hv
 rw [hlen, HN.out, Nat.zero_add, show sz ((Int × Int × Int)) = 3 from rfl] at hsz
 have hrd := Iv.rd NK
 have r0 := au rfl hrd
 obtain ⟨rfl, _⟩ := aG r0.1
 have r1 := au rfl r0.2
 obtain ⟨rfl, _⟩ := aG r1.1
 obtain ⟨rfl, _⟩ := aG r1.2
 have s0 := cell_of_heap hh (q := j * 3) (by omega)
 have f0 := aO (o := j * 3) hh
 have s1 := cell_of_heap hh (q := j * 3 + 1) (by omega)
 have f1 := aO (o := j * 3 + 1) hh
 have s2 := cell_of_heap hh (q := j * 3 + 2) (by omega)
 have f2 := aO (o := j * 3 + 2) hh
 have OV := qH NJ
 have EV := qH NK
 clear hrd fr hh NJ NK r0 r1
 go_wp2
 go_roundw
 case rel =>
  have hz := hb2.size
  have hop := fC w.heap.size [.int .i64 l[j].1, .int .i64 l[j].2.1, .int .i64 l[j].2.2] (j * 3) w2
  refine ⟨j + 1, by omega, by go_num, (hbl.out.trans (hb2.mono hbl.out.size)).trans (hop.below (by simp)), ?_, ?_⟩
  · have := CW OV.out j (by rw [gu _ _ _ (by omega)]; omega) EV.out hz (q := j * 3) (by simp)
    rw [pJ _ _ _ hjl] at this
    show Iv _ _ _ _ _
    have hz2 := hop.size
    rw [← hz2] at this
    exact this
  have hz2 := hop.size
  exact Nat.lt_of_lt_of_le hlt0 (by rw [← hz2] at hz; exact hz)
 simp [intOf]; omega
theorem J7 (l : List ((Int × Int × Int))) (v : Value) (w : World) (r : Rd w [v] l) (hc : gy l ≤ 1048576) :
 Calls prog 94 #[v] w fun e w' => ∃ v', e = .returned v' ∧ aQ w.heap.size w' [v'] l ∧ Below w.heap.size w w' := by
 obtain ⟨a, c, rfl, h⟩ := ah r
 clear r
 have hnc : l.length ≤ 1048576 := by unfold gy at hc; omega
 generalize hn : l.length = n at *
 have HN := qH hn
 have HH := qH h
 clear hn h hc
 go_enter func94, ntmps94
 go_wp2_with (at_make; refine bV w rfl _ _ 35 rfl ade ((0, 0, 0) : (Int × Int × Int)) Ws n (by omega) rfl rfl ?_)
 intro w1 hown hb1 hs1
 have IV := qH (CV hown)
 have HB := qH hb1
 clear hown hb1
 go_wp2_with fail
 go_loopw [4] (fun i wr => ∃ j : Nat, j ≤ n ∧ i = .int .i64 j ∧ Hid (Below w.heap.size w wr) ∧ Hid (Iv w.heap.size wr.heap.size wr [.slice (some ⟨w.heap.size, 0, none⟩) n n] (lW ((0, 0, 0) : (Int × Int × Int)) l j)) ∧ w.heap.size < wr.heap.size) (fun i _ => n - (intOf i).toNat)
 case atStart => exact ⟨0, Nat.zero_le _, rfl, HB.out, by rw [pI, HN.out]; show Iv _ _ _ _ _; rw [hs1]; exact IV.out, by omega⟩
 obtain ⟨j, hj, rfl, hbl, hiv, hlt0⟩ := hrel
 by_cases hlt : j < n
 rotate_left
 · obtain rfl : j = n := by omega
   go_wp2_with fail
   go_ret
   refine ⟨_, rfl, ?_, hbl.out⟩
   have := hiv.out
   rw [← HN.out, rG, HN.out] at this
   exact Iv.fresh this
 have hjl : j < l.length := by rw [HN.out]; exact hlt
 obtain ⟨b, o, u0, u1, u2, rfl, q0, q1, q2, hx⟩ := gU rfl (aS hbl.out HH.out) j hjl
 have HX := qH hx
 clear hx
 go_wp2_with fail
 refine (NP l[j] _ _ _ _ HX.out).mono ?_
 rintro e w2 ⟨b0, b1, b2, rfl, fr, hb2⟩
 have hlen := gu ((0, 0, 0) : (Int × Int × Int)) l j (by omega)
 have NJ := hiv.out.mono hb2
 have NK := aQ.iv fr
 obtain ⟨g, o', c', cur, et, hv, hh, hg1, hg2, hsz⟩ := zD NJ (by rw [hlen]; omega) (by simp)
 simp only [Value.slice.injEq, Option.some.injEq, Addr.mk.injEq] at hv
 obtain ⟨⟨rfl, rfl, -⟩, -, rfl⟩ := hv
 rw [hlen, HN.out, Nat.zero_add, show sz ((Int × Int × Int)) = 3 from rfl] at hsz
 have hrd := Iv.rd NK
 have r0 := au rfl hrd
 obtain ⟨rfl, _⟩ := aG r0.1
 have r1 := au rfl r0.2
 obtain ⟨rfl, _⟩ := aG r1.1
 obtain ⟨rfl, _⟩ := aG r1.2
 have s0 := cell_of_heap hh (q := j * 3) (by omega)
 have f0 := aO (o := j * 3) hh
 have s1 := cell_of_heap hh (q := j * 3 + 1) (by omega)
 have f1 := aO (o := j * 3 + 1) hh
 have s2 := cell_of_heap hh (q := j * 3 + 2) (by omega)
 have f2 := aO (o := j * 3 + 2) hh
 have OV := qH NJ
 have EV := qH NK
 clear hrd fr hh NJ NK r0 r1
 go_wp2
 go_roundw
 case rel =>
  have hz := hb2.size
  have hop := fC w.heap.size [.int .i64 l[j].1, .int .i64 l[j].2.1, .int .i64 l[j].2.2] (j * 3) w2
  refine ⟨j + 1, by omega, by go_num, (hbl.out.trans (hb2.mono hbl.out.size)).trans (hop.below (by simp)), ?_, ?_⟩
  · have := CW OV.out j (by rw [gu _ _ _ (by omega)]; omega) EV.out hz (q := j * 3) (by simp)
    rw [pJ _ _ _ hjl] at this
    show Iv _ _ _ _ _
    have hz2 := hop.size
    rw [← hz2] at this
    exact this
  have hz2 := hop.size
  exact Nat.lt_of_lt_of_le hlt0 (by rw [← hz2] at hz; exact hz)
 simp [intOf]; omega
theorem yx (x : dB) (v0 v1 : Value) (w : World) (hx : Rd w [v0, v1] x) (hc : fE x ≤ 1048576) :
 Calls prog 12 #[.agg #[v0, v1]] w fun e w' => ∃ u0 u1, e = .returned (.agg #[u0, u1]) ∧ aQ w.heap.size w' [u0, u1] x ∧ Below w.heap.size w w' := by
 obtain ⟨x0, x1⟩ := x
 simp only [fE] at hc
 have lT := au rfl hx
 obtain ⟨rfl, FV⟩ := aG lT.1
 have sO := qH lT.2
 obtain ⟨BH, tH, rfl, _⟩ := ah sO.out
 clear hx lT
 have hs := (((St.start w).alloc #[.int .i64 x0, .slice BH x1.length tH] 24 rfl).alloc #[.int .i64 0, .slice none 0 0] 42 (n := w.heap.size + 1) (by simp)).alloc #[.int .i64 x0, .slice none 0 0] 42 (n := w.heap.size + 1 + 1) (by simp)
 go_enter func12, ntmps12
 have hl1 := hs.hi
 go_wp2_with fail
 refine (Zu x1 _ _ (Rd.mono sO.out hs.bel) (by omega)).mono ?_
 rintro e w1 ⟨b1, rfl, Gy, hb1⟩
 have WC := aQ.iv Gy
 obtain ⟨d1, e1, rfl, _⟩ := ah (Iv.rd WC)
 have hs1 := hs.step hb1
 clear Gy
 obtain ⟨p0, p1, s0⟩ := hs1.c3 0 0 0 1 2 0
 have f0 := hs1.aC 2 rfl 0
 have s1 := hs1.c 2 1
 have f1 := hs1.aC 2 rfl 1
 have z0 := hs1.c 1 0
 have y0 := hs1.aC 1 rfl 0
 have z1 := hs1.c 1 1
 have y1 := hs1.aC 1 rfl 1
 have Ia := hs1.set (p := [_, _]) (by simp <;> omega) 1 (.slice d1 x1.length e1)
 have NM := WC.setCell (a := ⟨w.heap.size + 1 + 1, 1, none⟩) (Nat.lt_of_lt_of_le (Nat.lt_succ_self _) hl1) (.slice d1 x1.length e1)
 go_wp2
 have ivA := rF FV (NM)
 refine bodyPost_ret (v := .agg #[.int .i64 x0, .slice d1 x1.length e1]) (by simp [results, results12, go_sem, z0, y0, z1, y1]) rfl ⟨_, _,  rfl, ?_⟩
 exact Ia.Tz ivA (g := w.heap.size + 1) (by omega) (Nat.lt_of_lt_of_le (Nat.lt_succ_of_lt (Nat.lt_succ_self _)) hl1) [.int .i64 x0, .slice d1 x1.length e1]
theorem yA (x : Inst) (v0 v1 : Value) (w : World) (hx : Rd w [v0, v1] x) (hc : iw x ≤ 1048576) :
 Calls prog 13 #[.agg #[v0, v1]] w fun e w' => ∃ u0 u1, e = .returned (.agg #[u0, u1]) ∧ aQ w.heap.size w' [u0, u1] x ∧ Below w.heap.size w w' := by
 obtain ⟨x0, x1⟩ := x
 simp only [iw] at hc
 have lT := au rfl hx
 obtain ⟨rfl, FV⟩ := aG lT.1
 have sO := qH lT.2
 obtain ⟨BH, tH, rfl, _⟩ := ah sO.out
 clear hx lT
 have hs := (((St.start w).alloc #[.int .i64 x0, .slice BH x1.length tH] 27 rfl).alloc #[.int .i64 0, .slice none 0 0] 46 (n := w.heap.size + 1) (by simp)).alloc #[.int .i64 x0, .slice none 0 0] 46 (n := w.heap.size + 1 + 1) (by simp)
 go_enter func13, ntmps13
 have hl1 := hs.hi
 go_wp2_with fail
 refine (Zt x1 _ _ (Rd.mono sO.out hs.bel) (by omega)).mono ?_
 rintro e w1 ⟨b1, rfl, Gy, hb1⟩
 have WC := aQ.iv Gy
 obtain ⟨d1, e1, rfl, _⟩ := ah (Iv.rd WC)
 have hs1 := hs.step hb1
 clear Gy
 obtain ⟨p0, p1, s0⟩ := hs1.c3 0 0 0 1 2 0
 have f0 := hs1.aC 2 rfl 0
 have s1 := hs1.c 2 1
 have f1 := hs1.aC 2 rfl 1
 have z0 := hs1.c 1 0
 have y0 := hs1.aC 1 rfl 0
 have z1 := hs1.c 1 1
 have y1 := hs1.aC 1 rfl 1
 have Ia := hs1.set (p := [_, _]) (by simp <;> omega) 1 (.slice d1 x1.length e1)
 have NM := WC.setCell (a := ⟨w.heap.size + 1 + 1, 1, none⟩) (Nat.lt_of_lt_of_le (Nat.lt_succ_self _) hl1) (.slice d1 x1.length e1)
 go_wp2
 have ivA := rF FV (NM)
 refine bodyPost_ret (v := .agg #[.int .i64 x0, .slice d1 x1.length e1]) (by simp [results, results13, go_sem, z0, y0, z1, y1]) rfl ⟨_, _,  rfl, ?_⟩
 exact Ia.Tz ivA (g := w.heap.size + 1) (by omega) (Nat.lt_of_lt_of_le (Nat.lt_succ_of_lt (Nat.lt_succ_self _)) hl1) [.int .i64 x0, .slice d1 x1.length e1]
theorem zJ (x : oW) (v0 v1 v2 v3 v4 : Value) (w : World) (hx : Rd w [v0, v1, v2, v3, v4] x) (hc : dU x ≤ 1048576) :
 Calls prog 34 #[.agg #[v0, v1, v2, v3, v4]] w fun e w' => ∃ u0 u1 u2 u3 u4, e = .returned (.agg #[u0, u1, u2, u3, u4]) ∧ aQ w.heap.size w' [u0, u1, u2, u3, u4] x ∧ Below w.heap.size w w' := by
 obtain ⟨x0, x1, x2, x3, x4⟩ := x
 simp only [dU] at hc
 have lT := au rfl hx
 obtain ⟨rfl, FV⟩ := aG lT.1
 have Ei := au rfl lT.2
 have sO := qH Ei.1
 obtain ⟨BH, tH, rfl, _⟩ := ah sO.out
 have Zo := au rfl Ei.2
 have Wy := qH Zo.1
 obtain ⟨ax2, cx2, rfl, _⟩ := ah Wy.out
 have Zp := au rfl Zo.2
 have Zq := qH Zp.1
 obtain ⟨ax3, cx3, rfl, _⟩ := ah Zq.out
 have Zr := qH Zp.2
 obtain ⟨ax4, cx4, rfl, _⟩ := ah Zr.out
 clear hx lT Ei Zo Zp
 have hs := (((St.start w).alloc #[.int .i64 x0, .slice BH x1.length tH, .slice ax2 x2.length cx2, .slice ax3 x3.length cx3, .slice ax4 x4.length cx4] 71 rfl).alloc #[.int .i64 0, .slice none 0 0, .slice none 0 0, .slice none 0 0, .slice none 0 0] 37 (n := w.heap.size + 1) (by simp)).alloc #[.int .i64 x0, .slice none 0 0, .slice none 0 0, .slice none 0 0, .slice none 0 0] 37 (n := w.heap.size + 1 + 1) (by simp)
 go_enter func34, ntmps34
 have hl1 := hs.hi
 go_wp2_with fail
 refine (yw x1 _ _ (Rd.mono sO.out hs.bel) (by omega)).mono ?_
 rintro e w1 ⟨b1, rfl, Gy, hb1⟩
 have WC := aQ.iv Gy
 obtain ⟨d1, e1, rfl, _⟩ := ah (Iv.rd WC)
 have hs1 := hs.step hb1
 clear Gy
 obtain ⟨p0, p1, p2, p3, p4, s0⟩ := hs1.c6 0 0 0 1 0 2 0 3 0 4 2 0
 have f0 := hs1.aC 2 rfl 0
 have s1 := hs1.c 2 1
 have f1 := hs1.aC 2 rfl 1
 have s2 := hs1.c 2 2
 have f2 := hs1.aC 2 rfl 2
 have s3 := hs1.c 2 3
 have f3 := hs1.aC 2 rfl 3
 have s4 := hs1.c 2 4
 have f4 := hs1.aC 2 rfl 4
 have z0 := hs1.c 1 0
 have y0 := hs1.aC 1 rfl 0
 have z1 := hs1.c 1 1
 have y1 := hs1.aC 1 rfl 1
 have z2 := hs1.c 1 2
 have y2 := hs1.aC 1 rfl 2
 have z3 := hs1.c 1 3
 have y3 := hs1.aC 1 rfl 3
 have z4 := hs1.c 1 4
 have y4 := hs1.aC 1 rfl 4
 have Ia := hs1.set (p := [_, _]) (by simp <;> omega) 1 (.slice d1 x1.length e1)
 have NM := WC.setCell (a := ⟨w.heap.size + 1 + 1, 1, none⟩) (Nat.lt_of_lt_of_le (Nat.lt_succ_self _) hl1) (.slice d1 x1.length e1)
 have hl2 := Ia.hi
 go_wp2_with fail
 refine (NQ x2 _ _ (Rd.mono Wy.out Ia.bel) (by omega)).mono ?_
 rintro e w2 ⟨b2, rfl, fr2, hb2⟩
 have iv2 := aQ.iv fr2
 obtain ⟨d2, e2, rfl, _⟩ := ah (Iv.rd iv2)
 have hs2 := Ia.step hb2
 have ak4 := NM.mono hb2
 clear fr2 p0 p1 p2 p3 p4 s0 f0 s1 f1 s2 f2 s3 f3 s4 f4 z0 y0 z1 y1 z2 y2 z3 y3 z4 y4
 obtain ⟨p0, p1, p2, p3, p4, s0⟩ := hs2.c6 0 0 0 1 0 2 0 3 0 4 2 0
 have f0 := hs2.aC 2 rfl 0
 have s1 := hs2.c 2 1
 have f1 := hs2.aC 2 rfl 1
 have s2 := hs2.c 2 2
 have f2 := hs2.aC 2 rfl 2
 have s3 := hs2.c 2 3
 have f3 := hs2.aC 2 rfl 3
 have s4 := hs2.c 2 4
 have f4 := hs2.aC 2 rfl 4
 have z0 := hs2.c 1 0
 have y0 := hs2.aC 1 rfl 0
 have z1 := hs2.c 1 1
 have y1 := hs2.aC 1 rfl 1
 have z2 := hs2.c 1 2
 have y2 := hs2.aC 1 rfl 2
 have z3 := hs2.c 1 3
 have y3 := hs2.aC 1 rfl 3
 have z4 := hs2.c 1 4
 have y4 := hs2.aC 1 rfl 4
 have agW := hs2.set (p := [_, _]) (by simp <;> omega) 2 (.slice d2 x2.length e2)
 have agX := ak4.setCell (a := ⟨w.heap.size + 1 + 1, 2, none⟩) (Nat.lt_of_lt_of_le (Nat.lt_succ_self _) hl1) (.slice d2 x2.length e2)
 have aps := iv2.setCell (a := ⟨w.heap.size + 1 + 1, 2, none⟩) (Nat.lt_of_lt_of_le (Nat.lt_succ_self _) hl2) (.slice d2 x2.length e2)
 have hl3 := agW.hi
 go_wp2_with fail
 refine (J7 x3 _ _ (Rd.mono Zq.out agW.bel) (by omega)).mono ?_
 rintro e w3 ⟨b3, rfl, fr3, hb3⟩
 have iv3 := aQ.iv fr3
 obtain ⟨d3, e3, rfl, _⟩ := ah (Iv.rd iv3)
 have hs3 := agW.step hb3
 have adA := agX.mono hb3
 have ak5 := aps.mono hb3
 clear fr3 p0 p1 p2 p3 p4 s0 f0 s1 f1 s2 f2 s3 f3 s4 f4 z0 y0 z1 y1 z2 y2 z3 y3 z4 y4
 obtain ⟨p0, p1, p2, p3, p4, s0⟩ := hs3.c6 0 0 0 1 0 2 0 3 0 4 2 0
 have f0 := hs3.aC 2 rfl 0
 have s1 := hs3.c 2 1
 have f1 := hs3.aC 2 rfl 1
 have s2 := hs3.c 2 2
 have f2 := hs3.aC 2 rfl 2
 have s3 := hs3.c 2 3
 have f3 := hs3.aC 2 rfl 3
 have s4 := hs3.c 2 4
 have f4 := hs3.aC 2 rfl 4
 have z0 := hs3.c 1 0
 have y0 := hs3.aC 1 rfl 0
 have z1 := hs3.c 1 1
 have y1 := hs3.aC 1 rfl 1
 have z2 := hs3.c 1 2
 have y2 := hs3.aC 1 rfl 2
 have z3 := hs3.c 1 3
 have y3 := hs3.aC 1 rfl 3
 have z4 := hs3.c 1 4
 have y4 := hs3.aC 1 rfl 4
 have agY := hs3.set (p := [_, _]) (by simp <;> omega) 3 (.slice d3 x3.length e3)
 have Zv := adA.setCell (a := ⟨w.heap.size + 1 + 1, 3, none⟩) (Nat.lt_of_lt_of_le (Nat.lt_succ_self _) hl1) (.slice d3 x3.length e3)
 have agZ := ak5.setCell (a := ⟨w.heap.size + 1 + 1, 3, none⟩) (Nat.lt_of_lt_of_le (Nat.lt_succ_self _) hl2) (.slice d3 x3.length e3)
 have apt := iv3.setCell (a := ⟨w.heap.size + 1 + 1, 3, none⟩) (Nat.lt_of_lt_of_le (Nat.lt_succ_self _) hl3) (.slice d3 x3.length e3)
 have hl4 := agY.hi
 go_wp2_with fail
 refine (yw x4 _ _ (Rd.mono Zr.out agY.bel) (by omega)).mono ?_
 rintro e w4 ⟨b4, rfl, fr4, hb4⟩
 have iv4 := aQ.iv fr4
 obtain ⟨d4, e4, rfl, _⟩ := ah (Iv.rd iv4)
 have hs4 := agY.step hb4
 have XW := Zv.mono hb4
 have adC := agZ.mono hb4
 have ak6 := apt.mono hb4
 clear fr4 p0 p1 p2 p3 p4 s0 f0 s1 f1 s2 f2 s3 f3 s4 f4 z0 y0 z1 y1 z2 y2 z3 y3 z4 y4
 obtain ⟨p0, p1, p2, p3, p4, s0⟩ := hs4.c6 0 0 0 1 0 2 0 3 0 4 2 0
 have f0 := hs4.aC 2 rfl 0
 have s1 := hs4.c 2 1
 have f1 := hs4.aC 2 rfl 1
 have s2 := hs4.c 2 2
 have f2 := hs4.aC 2 rfl 2
 have s3 := hs4.c 2 3
 have f3 := hs4.aC 2 rfl 3
 have s4 := hs4.c 2 4
 have f4 := hs4.aC 2 rfl 4
 have z0 := hs4.c 1 0
 have y0 := hs4.aC 1 rfl 0
 have z1 := hs4.c 1 1
 have y1 := hs4.aC 1 rfl 1
 have z2 := hs4.c 1 2
 have y2 := hs4.aC 1 rfl 2
 have z3 := hs4.c 1 3
 have y3 := hs4.aC 1 rfl 3
 have z4 := hs4.c 1 4
 have y4 := hs4.aC 1 rfl 4
 have apu := hs4.set (p := [_, _]) (by simp <;> omega) 4 (.slice d4 x4.length e4)
 have TI := XW.setCell (a := ⟨w.heap.size + 1 + 1, 4, none⟩) (Nat.lt_of_lt_of_le (Nat.lt_succ_self _) hl1) (.slice d4 x4.length e4)
 have Zw := adC.setCell (a := ⟨w.heap.size + 1 + 1, 4, none⟩) (Nat.lt_of_lt_of_le (Nat.lt_succ_self _) hl2) (.slice d4 x4.length e4)
 have ag0 := ak6.setCell (a := ⟨w.heap.size + 1 + 1, 4, none⟩) (Nat.lt_of_lt_of_le (Nat.lt_succ_self _) hl3) (.slice d4 x4.length e4)
 have apv := iv4.setCell (a := ⟨w.heap.size + 1 + 1, 4, none⟩) (Nat.lt_of_lt_of_le (Nat.lt_succ_self _) hl4) (.slice d4 x4.length e4)
 go_wp2
 have hz1 := hb1.size
 have hz2 := hb2.size
 have hz3 := hb3.size
 have Zx := hb4.size
 simp only [size_setCell] at hz2 hz3 Zx
 have ivA := rF FV (Gw TI (Gw Zw (Gw ag0 (apv) (by first | omega | (simp only [size_setCell]; omega)) (by first | omega | (simp only [size_setCell]; omega)) (by first | omega | (simp only [size_setCell]; omega))) (by first | omega | (simp only [size_setCell]; omega)) (by first | omega | (simp only [size_setCell]; omega)) (by first | omega | (simp only [size_setCell]; omega))) (by first | omega | (simp only [size_setCell]; omega)) (by first | omega | (simp only [size_setCell]; omega)) (by first | omega | (simp only [size_setCell]; omega)))
 refine bodyPost_ret (v := .agg #[.int .i64 x0, .slice d1 x1.length e1, .slice d2 x2.length e2, .slice d3 x3.length e3, .slice d4 x4.length e4]) (by simp [results, results34, go_sem, z0, y0, z1, y1, z2, y2, z3, y3, z4, y4]) rfl ⟨_, _, _, _, _,  rfl, ?_⟩
 exact apu.Tz ivA (g := w.heap.size + 1) (by omega) (Nat.lt_of_lt_of_le (Nat.lt_succ_of_lt (Nat.lt_succ_self _)) hl1) [.int .i64 x0, .slice d1 x1.length e1, .slice d2 x2.length e2, .slice d3 x3.length e3, .slice d4 x4.length e4]
instance atY : DecidableEq (List (Int × Int × Int)) := inferInstance
instance atZ : DecidableEq (List (Int × Int × Int) × List Int) := instDecidableEqProd
instance at1 : DecidableEq (List (Int × Int × Int) × List (Int × Int × Int) × List Int) := instDecidableEqProd
instance at6 : DecidableEq (List Int × List (Int × Int × Int) × List (Int × Int × Int) × List Int) := instDecidableEqProd
instance at7 : DecidableEq oW := instDecidableEqProd
theorem mG {α : Type} {l1 l2 : List α} {k : Nat} (h1 : k < l1.length) (h2 : k < l2.length) (h : l1.take k = l2.take k) (e : l1[k] = l2[k]) : l1.take (k + 1) = l2.take (k + 1) := by
 rw [List.take_succ_eq_append_getElem h1, List.take_succ_eq_append_getElem h2, h, e]
theorem vM {α : Type} {l1 l2 : List α} {k : Nat} (h1 : k < l1.length) (h2 : k < l2.length) (e : ¬ l1[k] = l2[k]) : ¬ l1 = l2 := by rintro rfl; exact e rfl
theorem oP {α : Type} {l1 l2 : List α} {n : Nat} (h1 : l1.length = n) (h2 : l2.length = n) (h : l1.take n = l2.take n) : l1 = l2 := by
 rwa [List.take_of_length_le (by omega), List.take_of_length_le (by omega)] at h
theorem uD (l1 l2 : List Int) (v1 v2 : Value) (w : World) (r1 : Rd w [v1] l1) (r2 : Rd w [v2] l2) :
 Calls prog 66 #[v1, v2] w fun e w' => e = .returned (.bool (decide (l1 = l2))) ∧ Below w.heap.size w w' :=
 (TA l1 l2 v1 v2 w r1 r2).mono fun e w' ⟨he, n, hw⟩ => ⟨he, hw ▸ dQ _ _⟩
theorem Qe (l1 l2 : List (List Int)) (v1 v2 : Value) (w : World) (r1 : Rd w [v1] l1) (r2 : Rd w [v2] l2) :
 Calls prog 258 #[v1, v2] w fun e w' => e = .returned (.bool (decide (l1 = l2))) ∧ Below w.heap.size w w' := by
 obtain ⟨a1, c1, rfl, h1⟩ := ah r1
 obtain ⟨a2, c2, rfl, h2⟩ := ah r2
 clear r1 r2
 have b1 := (aN h1).2
 have b2 := (aN h2).2
 unfold maxLen at b1 b2
 have G1 := qH h1
 have G2 := qH h2
 clear h1 h2
 by_cases hl : l1.length = l2.length
 rotate_left
 · have hl' : ((l1.length : Int) != l2.length) = true := by simp; omega
   have HL := qH hl
   clear hl
   go_enter func258, ntmps258
   go_wp2_with fail
   go_ret
   refine ⟨ak ?_, Below.refl _ _⟩
   symm
   simp only [decide_eq_false_iff_not]
   rintro rfl
   exact HL.out rfl
 generalize hn1 : l1.length = n1 at *
 generalize hn2 : l2.length = n2 at *
 have H1 := qH hn1
 have H2 := qH hn2
 clear hn1 hn2
 subst hl
 have hl' : ((n1 : Int) != n1) = false := by simp
 go_enter func258, ntmps258
 go_wp2_with fail
 go_loopw [5] (fun i wr => ∃ k : Nat, k ≤ n1 ∧ i = .int .i64 k ∧ Hid (Below w.heap.size w wr) ∧ Hid (l1.take k = l2.take k)) (fun i _ => n1 - (intOf i).toNat)
 case atStart => exact ⟨0, Nat.zero_le _, rfl, Below.refl _ _, by simp [Hid]⟩
 obtain ⟨k, hk, rfl, hbl, hr⟩ := hrel
 by_cases hlt : k < n1
 rotate_left
 · obtain rfl : k = n1 := by omega
   go_wp2_with fail
   go_ret
   exact ⟨ak (by simp [oP H1.out H2.out hr.out]), hbl.out⟩
 have k1 : k < l1.length := by rw [H1.out]; exact hlt
 have k2 : k < l2.length := by rw [H2.out]; exact hlt
 obtain ⟨b1, o1, u0, rfl, q0, hx⟩ := bF rfl (aS hbl.out G1.out) k k1
 obtain ⟨b2, o2, t0, rfl, p0, hy⟩ := bF rfl (aS hbl.out G2.out) k k2
 have HX := qH hx
 have HY := qH hy
 clear hx hy
 by_cases he : l1[k] = l2[k]
 · have HE := qH he
   clear he
   go_wp2_with fail
   refine BG (fun w' => cV w' b1 (o1 + k) u0 ∧ cV w' b2 (o2 + k) t0) [(0, 0), (1, 0), (2, 0), (3, 0), (4, 0), (5, 0), (6, 0), (7, 0), (8, 1), (9, 0)] ?_ ?_
   · exact ⟨q0, p0⟩
   refine nH ?_
   refine wU fun K hK => ?_
   go_wp2_with (go_at_call 66; refine (uD l1[k] l2[k] _ _ _ (Rd.mono HX.out (belowD _)) (Rd.mono HY.out (belowD _))).mono ?_; rintro e w1 ⟨rfl, hb1⟩)
   rw [decide_eq_true HE.out]
   refine ⟨(iQ hb1 q0 p0:), ?_⟩
   refine nH ?_
   refine elN ?_
   go_wp2_with fail
   go_roundw
   case rel => exact ⟨k + 1, by omega, by go_num, hbl.out.drew.trans (hb1.mono hbl.out.size), mG k1 k2 hr.out HE.out⟩
   simp [intOf]; omega
 have HE := qH he
 clear he
 go_wp2_with fail
 refine BG (fun w' => cV w' b1 (o1 + k) u0 ∧ cV w' b2 (o2 + k) t0) [(0, 0), (1, 0), (2, 0), (3, 0), (4, 0), (5, 0), (6, 0), (7, 0), (8, 1), (9, 0)] ?_ ?_
 · exact ⟨q0, p0⟩
 refine nH ?_
 refine wU fun K hK => ?_
 go_wp2_with (go_at_call 66; refine (uD l1[k] l2[k] _ _ _ (Rd.mono HX.out (belowD _)) (Rd.mono HY.out (belowD _))).mono ?_; rintro e w1 ⟨rfl, hb1⟩)
 rw [decide_eq_false HE.out]
 refine ⟨(iQ hb1 q0 p0:), ?_⟩
 refine nH ?_
 refine elN ?_
 go_wp2_with fail
 go_ret
 exact ⟨ak (by simp [vM k1 k2 HE.out]), hbl.out.drew.trans (hb1.mono hbl.out.size)⟩
theorem WE (x y : nI) (v0 v1 u0 u1 : Value) (w : World) (hx : Rd w [v0, v1] x) (hy : Rd w [u0, u1] y) :
 Calls prog 134 #[.agg #[v0, v1], .agg #[u0, u1]] w fun e w' => e = .returned (.bool (decide (x = y))) ∧ Below w.heap.size w w' := by
 obtain ⟨x0, x1⟩ := x
 obtain ⟨y0, y1⟩ := y
 have lT := au rfl hx
 obtain ⟨rfl, FV⟩ := aG lT.1
 have sO := qH lT.2
 obtain ⟨BH, tH, rfl, _⟩ := ah sO.out
 clear hx lT
 have Ej := au rfl hy
 obtain ⟨rfl, Iy0⟩ := aG Ej.1
 have Lc := qH Ej.2
 obtain ⟨Zy, Zz, rfl, _⟩ := ah Lc.out
 clear hy Ej
 have hs := ((St.start w).alloc #[.int .i64 x0, .slice BH x1.length tH] 150 rfl).alloc #[.int .i64 y0, .slice Zy y1.length Zz] 150 (n := w.heap.size + 1) (by simp)
 go_enter func134, ntmps134
 by_cases E0 : x0 = y0
 rotate_left
 · have hb0 : (x0 != y0) = true := by simpa using E0
   have F := qH E0
   clear E0
   go_wp2_with fail
   go_ret
   exact ⟨ak (by simp [F.out]), hs.bel⟩
 subst E0
 have hb0 : (x0 != x0) = false := by simp
 go_wp2_with fail
 refine (uD x1 y1 _ _ _ (Rd.mono sO.out hs.bel) (Rd.mono Lc.out hs.bel)).mono ?_
 rintro e w1 ⟨rfl, hc1⟩
 have hs1 := hs.step hc1
 by_cases E1 : x1 = y1
 rotate_left
 · rw [decide_eq_false E1]
   have F := qH E1
   clear E1
   go_wp2_with fail
   go_ret
   exact ⟨ak (by simp [F.out]), hs1.bel⟩
 rw [decide_eq_true E1]
 have G1 := qH E1
 clear E1
 obtain ⟨p0, q0, p1, q1⟩ := hs1.c4 0 0 1 0 0 1 1 1
 go_wp2_with fail
 go_ret
 exact ⟨ak (by simp [G1.out]), hs1.bel⟩
theorem WG (x y : bH) (v0 v1 u0 u1 : Value) (w : World) (hx : Rd w [v0, v1] x) (hy : Rd w [u0, u1] y) :
 Calls prog 133 #[.agg #[v0, v1], .agg #[u0, u1]] w fun e w' => e = .returned (.bool (decide (x = y))) ∧ Below w.heap.size w w' := by
 obtain ⟨x0, x1⟩ := x
 obtain ⟨y0, y1⟩ := y
 have lT := au rfl hx
 obtain ⟨rfl, FV⟩ := aG lT.1
 have sO := qH lT.2
 obtain ⟨BH, tH, rfl, _⟩ := ah sO.out
 clear hx lT
 have Ej := au rfl hy
 obtain ⟨rfl, Iy0⟩ := aG Ej.1
 have Lc := qH Ej.2
 obtain ⟨Zy, Zz, rfl, _⟩ := ah Lc.out
 clear hy Ej
 have hs := ((St.start w).alloc #[.int .i64 x0, .slice BH x1.length tH] 118 rfl).alloc #[.int .i64 y0, .slice Zy y1.length Zz] 118 (n := w.heap.size + 1) (by simp)
 go_enter func133, ntmps133
 by_cases E0 : x0 = y0
 rotate_left
 · have hb0 : (x0 != y0) = true := by simpa using E0
   have F := qH E0
   clear E0
   go_wp2_with fail
   go_ret
   exact ⟨ak (by simp [F.out]), hs.bel⟩
 subst E0
 have hb0 : (x0 != x0) = false := by simp
 go_wp2_with fail
 refine (Qe x1 y1 _ _ _ (Rd.mono sO.out hs.bel) (Rd.mono Lc.out hs.bel)).mono ?_
 rintro e w1 ⟨rfl, hc1⟩
 have hs1 := hs.step hc1
 by_cases E1 : x1 = y1
 rotate_left
 · rw [decide_eq_false E1]
   have F := qH E1
   clear E1
   go_wp2_with fail
   go_ret
   exact ⟨ak (by simp [F.out]), hs1.bel⟩
 rw [decide_eq_true E1]
 have G1 := qH E1
 clear E1
 obtain ⟨p0, q0, p1, q1⟩ := hs1.c4 0 0 1 0 0 1 1 1
 go_wp2_with fail
 go_ret
 exact ⟨ak (by simp [G1.out]), hs1.bel⟩
theorem ET (x y : (Int × Int × Int)) (v0 v1 v2 u0 u1 u2 : Value) (w : World) (hx : Rd w [v0, v1, v2] x) (hy : Rd w [u0, u1, u2] y) :
 Calls prog 131 #[.agg #[v0, v1, v2], .agg #[u0, u1, u2]] w fun e w' => e = .returned (.bool (decide (x = y))) ∧ Below w.heap.size w w' := by
 obtain ⟨x0, x1, x2⟩ := x
 obtain ⟨y0, y1, y2⟩ := y
 have lT := au rfl hx
 obtain ⟨rfl, FV⟩ := aG lT.1
 have Ei := au rfl lT.2
 obtain ⟨rfl, Ix1⟩ := aG Ei.1
 obtain ⟨rfl, Ix2⟩ := aG Ei.2
 clear hx lT Ei
 have Ej := au rfl hy
 obtain ⟨rfl, Iy0⟩ := aG Ej.1
 have ZA := au rfl Ej.2
 obtain ⟨rfl, Iy1⟩ := aG ZA.1
 obtain ⟨rfl, Iy2⟩ := aG ZA.2
 clear hy Ej ZA
 have hs := ((St.start w).alloc #[.int .i64 x0, .int .i64 x1, .int .i64 x2] 180 rfl).alloc #[.int .i64 y0, .int .i64 y1, .int .i64 y2] 180 (n := w.heap.size + 1) (by simp)
 go_enter func131, ntmps131
 by_cases E0 : x0 = y0
 rotate_left
 · have hb0 : (x0 != y0) = true := by simpa using E0
   have F := qH E0
   clear E0
   go_wp2_with fail
   go_ret
   exact ⟨ak (by simp [F.out]), hs.bel⟩
 subst E0
 have hb0 : (x0 != x0) = false := by simp
 by_cases E1 : x1 = y1
 rotate_left
 · have hb1 : (x1 != y1) = true := by simpa using E1
   have F := qH E1
   clear E1
   go_wp2_with fail
   go_ret
   exact ⟨ak (by simp [F.out]), hs.bel⟩
 subst E1
 have hb1 : (x1 != x1) = false := by simp
 by_cases E2 : x2 = y2
 rotate_left
 · have hb2 : (x2 != y2) = true := by simpa using E2
   have F := qH E2
   clear E2
   go_wp2_with fail
   go_ret
   exact ⟨ak (by simp [F.out]), hs.bel⟩
 subst E2
 have hb2 : (x2 != x2) = false := by simp
 go_wp2_with fail
 go_ret
 exact ⟨ak (by simp []), hs.bel⟩
theorem C9 (x y : (Int × Int × Int)) (v0 v1 v2 u0 u1 u2 : Value) (w : World) (hx : Rd w [v0, v1, v2] x) (hy : Rd w [u0, u1, u2] y) :
 Calls prog 132 #[.agg #[v0, v1, v2], .agg #[u0, u1, u2]] w fun e w' => e = .returned (.bool (decide (x = y))) ∧ Below w.heap.size w w' := by
 obtain ⟨x0, x1, x2⟩ := x
 obtain ⟨y0, y1, y2⟩ := y
 have lT := au rfl hx
 obtain ⟨rfl, FV⟩ := aG lT.1
 have Ei := au rfl lT.2
 obtain ⟨rfl, Ix1⟩ := aG Ei.1
 obtain ⟨rfl, Ix2⟩ := aG Ei.2
 clear hx lT Ei
 have Ej := au rfl hy
 obtain ⟨rfl, Iy0⟩ := aG Ej.1
 have ZA := au rfl Ej.2
 obtain ⟨rfl, Iy1⟩ := aG ZA.1
 obtain ⟨rfl, Iy2⟩ := aG ZA.2
 clear hy Ej ZA
 have hs := ((St.start w).alloc #[.int .i64 x0, .int .i64 x1, .int .i64 x2] 169 rfl).alloc #[.int .i64 y0, .int .i64 y1, .int .i64 y2] 169 (n := w.heap.size + 1) (by simp)
 go_enter func132, ntmps132
 by_cases E0 : x0 = y0
 rotate_left
 · have hb0 : (x0 != y0) = true := by simpa using E0
   have F := qH E0
   clear E0
   go_wp2_with fail
   go_ret
   exact ⟨ak (by simp [F.out]), hs.bel⟩
 subst E0
 have hb0 : (x0 != x0) = false := by simp
 by_cases E1 : x1 = y1
 rotate_left
 · have hb1 : (x1 != y1) = true := by simpa using E1
   have F := qH E1
   clear E1
   go_wp2_with fail
   go_ret
   exact ⟨ak (by simp [F.out]), hs.bel⟩
 subst E1
 have hb1 : (x1 != x1) = false := by simp
 by_cases E2 : x2 = y2
 rotate_left
 · have hb2 : (x2 != y2) = true := by simpa using E2
   have F := qH E2
   clear E2
   go_wp2_with fail
   go_ret
   exact ⟨ak (by simp [F.out]), hs.bel⟩
 subst E2
 have hb2 : (x2 != x2) = false := by simp
 go_wp2_with fail
 go_ret
 exact ⟨ak (by simp []), hs.bel⟩
theorem ZB (l1 l2 : List (nI)) (v1 v2 : Value) (w : World) (r1 : Rd w [v1] l1) (r2 : Rd w [v2] l2) :
 Calls prog 70 #[v1, v2] w fun e w' => e = .returned (.bool (decide (l1 = l2))) ∧ Below w.heap.size w w' := by
 obtain ⟨a1, c1, rfl, h1⟩ := ah r1
 obtain ⟨a2, c2, rfl, h2⟩ := ah r2
 clear r1 r2
 have b1 := (aN h1).2
 have b2 := (aN h2).2
 unfold maxLen at b1 b2
 have G1 := qH h1
 have G2 := qH h2
 clear h1 h2
 by_cases hl : l1.length = l2.length
 rotate_left
 · have hl' : ((l1.length : Int) != l2.length) = true := by simp; omega
   have HL := qH hl
   clear hl
   go_enter func70, ntmps70
   go_wp2_with fail
   go_ret
   refine ⟨ak ?_, Below.refl _ _⟩
   symm
   simp only [decide_eq_false_iff_not]
   rintro rfl
   exact HL.out rfl
 generalize hn1 : l1.length = n1 at *
 generalize hn2 : l2.length = n2 at *
 have H1 := qH hn1
 have H2 := qH hn2
 clear hn1 hn2
 subst hl
 have hl' : ((n1 : Int) != n1) = false := by simp
 go_enter func70, ntmps70
 go_wp2_with fail
 go_loopw [5] (fun i wr => ∃ k : Nat, k ≤ n1 ∧ i = .int .i64 k ∧ Hid (Below w.heap.size w wr) ∧ Hid (l1.take k = l2.take k)) (fun i _ => n1 - (intOf i).toNat)
 case atStart => exact ⟨0, Nat.zero_le _, rfl, Below.refl _ _, by simp [Hid]⟩
 obtain ⟨k, hk, rfl, hbl, hr⟩ := hrel
 by_cases hlt : k < n1
 rotate_left
 · obtain rfl : k = n1 := by omega
   go_wp2_with fail
   go_ret
   exact ⟨ak (by simp [oP H1.out H2.out hr.out]), hbl.out⟩
 have k1 : k < l1.length := by rw [H1.out]; exact hlt
 have k2 : k < l2.length := by rw [H2.out]; exact hlt
 obtain ⟨b1, o1, u0, u1, rfl, q0, q1, hx⟩ := dP rfl (aS hbl.out G1.out) k k1
 obtain ⟨b2, o2, t0, t1, rfl, p0, p1, hy⟩ := dP rfl (aS hbl.out G2.out) k k2
 have HX := qH hx
 have HY := qH hy
 clear hx hy
 by_cases he : l1[k] = l2[k]
 · have HE := qH he
   clear he
   go_wp2_with fail
   refine BG (fun w' => cV w' b1 (o1 + k * 2) u0 ∧ cV w' b1 (o1 + k * 2 + 1) u1 ∧ cV w' b2 (o2 + k * 2) t0 ∧ cV w' b2 (o2 + k * 2 + 1) t1) [(0, 0), (1, 0), (2, 0), (3, 0), (4, 0), (5, 0), (6, 0), (7, 0), (8, 1), (9, 0)] ?_ ?_
   · exact ⟨q0, q1, p0, p1⟩
   refine nH ?_
   refine wU fun K hK => ?_
   go_wp2_with (go_at_call 134; refine (WE l1[k] l2[k] _ _ _ _ _ (Rd.mono HX.out (belowD _)) (Rd.mono HY.out (belowD _))).mono ?_; rintro e w1 ⟨rfl, hb1⟩)
   rw [decide_eq_true HE.out]
   refine ⟨(jc hb1 q0 q1 p0 p1:), ?_⟩
   refine nH ?_
   refine elN ?_
   go_wp2_with fail
   go_roundw
   case rel => exact ⟨k + 1, by omega, by go_num, hbl.out.drew.trans (hb1.mono hbl.out.size), mG k1 k2 hr.out HE.out⟩
   simp [intOf]; omega
 have HE := qH he
 clear he
 go_wp2_with fail
 refine BG (fun w' => cV w' b1 (o1 + k * 2) u0 ∧ cV w' b1 (o1 + k * 2 + 1) u1 ∧ cV w' b2 (o2 + k * 2) t0 ∧ cV w' b2 (o2 + k * 2 + 1) t1) [(0, 0), (1, 0), (2, 0), (3, 0), (4, 0), (5, 0), (6, 0), (7, 0), (8, 1), (9, 0)] ?_ ?_
 · exact ⟨q0, q1, p0, p1⟩
 refine nH ?_
 refine wU fun K hK => ?_
 go_wp2_with (go_at_call 134; refine (WE l1[k] l2[k] _ _ _ _ _ (Rd.mono HX.out (belowD _)) (Rd.mono HY.out (belowD _))).mono ?_; rintro e w1 ⟨rfl, hb1⟩)
 rw [decide_eq_false HE.out]
 refine ⟨(jc hb1 q0 q1 p0 p1:), ?_⟩
 refine nH ?_
 refine elN ?_
 go_wp2_with fail
 go_ret
 exact ⟨ak (by simp [vM k1 k2 HE.out]), hbl.out.drew.trans (hb1.mono hbl.out.size)⟩
theorem ZC (l1 l2 : List (bH)) (v1 v2 : Value) (w : World) (r1 : Rd w [v1] l1) (r2 : Rd w [v2] l2) :
 Calls prog 69 #[v1, v2] w fun e w' => e = .returned (.bool (decide (l1 = l2))) ∧ Below w.heap.size w w' := by
 obtain ⟨a1, c1, rfl, h1⟩ := ah r1
 obtain ⟨a2, c2, rfl, h2⟩ := ah r2
 clear r1 r2
 have b1 := (aN h1).2
 have b2 := (aN h2).2
 unfold maxLen at b1 b2
 have G1 := qH h1
 have G2 := qH h2
 clear h1 h2
 by_cases hl : l1.length = l2.length
 rotate_left
 · have hl' : ((l1.length : Int) != l2.length) = true := by simp; omega
   have HL := qH hl
   clear hl
   go_enter func69, ntmps69
   go_wp2_with fail
   go_ret
   refine ⟨ak ?_, Below.refl _ _⟩
   symm
   simp only [decide_eq_false_iff_not]
   rintro rfl
   exact HL.out rfl
 generalize hn1 : l1.length = n1 at *
 generalize hn2 : l2.length = n2 at *
 have H1 := qH hn1
 have H2 := qH hn2
 clear hn1 hn2
 subst hl
 have hl' : ((n1 : Int) != n1) = false := by simp
 go_enter func69, ntmps69
 go_wp2_with fail
 go_loopw [5] (fun i wr => ∃ k : Nat, k ≤ n1 ∧ i = .int .i64 k ∧ Hid (Below w.heap.size w wr) ∧ Hid (l1.take k = l2.take k)) (fun i _ => n1 - (intOf i).toNat)
 case atStart => exact ⟨0, Nat.zero_le _, rfl, Below.refl _ _, by simp [Hid]⟩
 obtain ⟨k, hk, rfl, hbl, hr⟩ := hrel
 by_cases hlt : k < n1
 rotate_left
 · obtain rfl : k = n1 := by omega
   go_wp2_with fail
   go_ret
   exact ⟨ak (by simp [oP H1.out H2.out hr.out]), hbl.out⟩
 have k1 : k < l1.length := by rw [H1.out]; exact hlt
 have k2 : k < l2.length := by rw [H2.out]; exact hlt
 obtain ⟨b1, o1, u0, u1, rfl, q0, q1, hx⟩ := dP rfl (aS hbl.out G1.out) k k1
 obtain ⟨b2, o2, t0, t1, rfl, p0, p1, hy⟩ := dP rfl (aS hbl.out G2.out) k k2
 have HX := qH hx
 have HY := qH hy
 clear hx hy
 by_cases he : l1[k] = l2[k]
 · have HE := qH he
   clear he
   go_wp2_with fail
   refine BG (fun w' => cV w' b1 (o1 + k * 2) u0 ∧ cV w' b1 (o1 + k * 2 + 1) u1 ∧ cV w' b2 (o2 + k * 2) t0 ∧ cV w' b2 (o2 + k * 2 + 1) t1) [(0, 0), (1, 0), (2, 0), (3, 0), (4, 0), (5, 0), (6, 0), (7, 0), (8, 1), (9, 0)] ?_ ?_
   · exact ⟨q0, q1, p0, p1⟩
   refine nH ?_
   refine wU fun K hK => ?_
   go_wp2_with (go_at_call 133; refine (WG l1[k] l2[k] _ _ _ _ _ (Rd.mono HX.out (belowD _)) (Rd.mono HY.out (belowD _))).mono ?_; rintro e w1 ⟨rfl, hb1⟩)
   rw [decide_eq_true HE.out]
   refine ⟨(jc hb1 q0 q1 p0 p1:), ?_⟩
   refine nH ?_
   refine elN ?_
   go_wp2_with fail
   go_roundw
   case rel => exact ⟨k + 1, by omega, by go_num, hbl.out.drew.trans (hb1.mono hbl.out.size), mG k1 k2 hr.out HE.out⟩
   simp [intOf]; omega
 have HE := qH he
 clear he
 go_wp2_with fail
 refine BG (fun w' => cV w' b1 (o1 + k * 2) u0 ∧ cV w' b1 (o1 + k * 2 + 1) u1 ∧ cV w' b2 (o2 + k * 2) t0 ∧ cV w' b2 (o2 + k * 2 + 1) t1) [(0, 0), (1, 0), (2, 0), (3, 0), (4, 0), (5, 0), (6, 0), (7, 0), (8, 1), (9, 0)] ?_ ?_
 · exact ⟨q0, q1, p0, p1⟩
 refine nH ?_
 refine wU fun K hK => ?_
 go_wp2_with (go_at_call 133; refine (WG l1[k] l2[k] _ _ _ _ _ (Rd.mono HX.out (belowD _)) (Rd.mono HY.out (belowD _))).mono ?_; rintro e w1 ⟨rfl, hb1⟩)
 rw [decide_eq_false HE.out]
 refine ⟨(jc hb1 q0 q1 p0 p1:), ?_⟩
 refine nH ?_
 refine elN ?_
 go_wp2_with fail
 go_ret
 exact ⟨ak (by simp [vM k1 k2 HE.out]), hbl.out.drew.trans (hb1.mono hbl.out.size)⟩
theorem NR (l1 l2 : List ((Int × Int × Int))) (v1 v2 : Value) (w : World) (r1 : Rd w [v1] l1) (r2 : Rd w [v2] l2) :
 Calls prog 67 #[v1, v2] w fun e w' => e = .returned (.bool (decide (l1 = l2))) ∧ Below w.heap.size w w' := by
 obtain ⟨a1, c1, rfl, h1⟩ := ah r1
 obtain ⟨a2, c2, rfl, h2⟩ := ah r2
 clear r1 r2
 have b1 := (aN h1).2
 have b2 := (aN h2).2
 unfold maxLen at b1 b2
 have G1 := qH h1
 have G2 := qH h2
 clear h1 h2
 by_cases hl : l1.length = l2.length
 rotate_left
 · have hl' : ((l1.length : Int) != l2.length) = true := by simp; omega
   have HL := qH hl
   clear hl
   go_enter func67, ntmps67
   go_wp2_with fail
   go_ret
   refine ⟨ak ?_, Below.refl _ _⟩
   symm
   simp only [decide_eq_false_iff_not]
   rintro rfl
   exact HL.out rfl
 generalize hn1 : l1.length = n1 at *
 generalize hn2 : l2.length = n2 at *
 have H1 := qH hn1
 have H2 := qH hn2
 clear hn1 hn2
 subst hl
 have hl' : ((n1 : Int) != n1) = false := by simp
 go_enter func67, ntmps67
 go_wp2_with fail
 go_loopw [5] (fun i wr => ∃ k : Nat, k ≤ n1 ∧ i = .int .i64 k ∧ Hid (Below w.heap.size w wr) ∧ Hid (l1.take k = l2.take k)) (fun i _ => n1 - (intOf i).toNat)
 case atStart => exact ⟨0, Nat.zero_le _, rfl, Below.refl _ _, by simp [Hid]⟩
 obtain ⟨k, hk, rfl, hbl, hr⟩ := hrel
 by_cases hlt : k < n1
 rotate_left
 · obtain rfl : k = n1 := by omega
   go_wp2_with fail
   go_ret
   exact ⟨ak (by simp [oP H1.out H2.out hr.out]), hbl.out⟩
 have k1 : k < l1.length := by rw [H1.out]; exact hlt
 have k2 : k < l2.length := by rw [H2.out]; exact hlt
 obtain ⟨b1, o1, u0, u1, u2, rfl, q0, q1, q2, hx⟩ := gU rfl (aS hbl.out G1.out) k k1
 obtain ⟨b2, o2, t0, t1, t2, rfl, p0, p1, p2, hy⟩ := gU rfl (aS hbl.out G2.out) k k2
 have HX := qH hx
 have HY := qH hy
 clear hx hy
 by_cases he : l1[k] = l2[k]
 · have HE := qH he
   clear he
   go_wp2_with fail
   refine BG (fun w' => cV w' b1 (o1 + k * 3) u0 ∧ cV w' b1 (o1 + k * 3 + 1) u1 ∧ cV w' b1 (o1 + k * 3 + 2) u2 ∧ cV w' b2 (o2 + k * 3) t0 ∧ cV w' b2 (o2 + k * 3 + 1) t1 ∧ cV w' b2 (o2 + k * 3 + 2) t2) [(0, 0), (1, 0), (2, 0), (3, 0), (4, 0), (5, 0), (6, 0), (7, 0), (8, 1), (9, 0)] ?_ ?_
   · exact ⟨q0, q1, q2, p0, p1, p2⟩
   refine nH ?_
   refine wU fun K hK => ?_
   go_wp2_with (go_at_call 131; refine (ET l1[k] l2[k] _ _ _ _ _ _ _ (Rd.mono HX.out (belowD _)) (Rd.mono HY.out (belowD _))).mono ?_; rintro e w1 ⟨rfl, hb1⟩)
   rw [decide_eq_true HE.out]
   refine ⟨(uZ hb1 q0 q1 q2 p0 p1 p2:), ?_⟩
   refine nH ?_
   refine elN ?_
   go_wp2_with fail
   go_roundw
   case rel => exact ⟨k + 1, by omega, by go_num, hbl.out.drew.trans (hb1.mono hbl.out.size), mG k1 k2 hr.out HE.out⟩
   simp [intOf]; omega
 have HE := qH he
 clear he
 go_wp2_with fail
 refine BG (fun w' => cV w' b1 (o1 + k * 3) u0 ∧ cV w' b1 (o1 + k * 3 + 1) u1 ∧ cV w' b1 (o1 + k * 3 + 2) u2 ∧ cV w' b2 (o2 + k * 3) t0 ∧ cV w' b2 (o2 + k * 3 + 1) t1 ∧ cV w' b2 (o2 + k * 3 + 2) t2) [(0, 0), (1, 0), (2, 0), (3, 0), (4, 0), (5, 0), (6, 0), (7, 0), (8, 1), (9, 0)] ?_ ?_
 · exact ⟨q0, q1, q2, p0, p1, p2⟩
 refine nH ?_
 refine wU fun K hK => ?_
 go_wp2_with (go_at_call 131; refine (ET l1[k] l2[k] _ _ _ _ _ _ _ (Rd.mono HX.out (belowD _)) (Rd.mono HY.out (belowD _))).mono ?_; rintro e w1 ⟨rfl, hb1⟩)
 rw [decide_eq_false HE.out]
 refine ⟨(uZ hb1 q0 q1 q2 p0 p1 p2:), ?_⟩
 refine nH ?_
 refine elN ?_
 go_wp2_with fail
 go_ret
 exact ⟨ak (by simp [vM k1 k2 HE.out]), hbl.out.drew.trans (hb1.mono hbl.out.size)⟩
theorem J8 (l1 l2 : List ((Int × Int × Int))) (v1 v2 : Value) (w : World) (r1 : Rd w [v1] l1) (r2 : Rd w [v2] l2) :
 Calls prog 68 #[v1, v2] w fun e w' => e = .returned (.bool (decide (l1 = l2))) ∧ Below w.heap.size w w' := by
 obtain ⟨a1, c1, rfl, h1⟩ := ah r1
 obtain ⟨a2, c2, rfl, h2⟩ := ah r2
 clear r1 r2
 have b1 := (aN h1).2
 have b2 := (aN h2).2
 unfold maxLen at b1 b2
 have G1 := qH h1
 have G2 := qH h2
 clear h1 h2
 by_cases hl : l1.length = l2.length
 rotate_left
 · have hl' : ((l1.length : Int) != l2.length) = true := by simp; omega
   have HL := qH hl
   clear hl
   go_enter func68, ntmps68
   go_wp2_with fail
   go_ret
   refine ⟨ak ?_, Below.refl _ _⟩
   symm
   simp only [decide_eq_false_iff_not]
   rintro rfl
   exact HL.out rfl
 generalize hn1 : l1.length = n1 at *
 generalize hn2 : l2.length = n2 at *
 have H1 := qH hn1
 have H2 := qH hn2
 clear hn1 hn2
 subst hl
 have hl' : ((n1 : Int) != n1) = false := by simp
 go_enter func68, ntmps68
 go_wp2_with fail
 go_loopw [5] (fun i wr => ∃ k : Nat, k ≤ n1 ∧ i = .int .i64 k ∧ Hid (Below w.heap.size w wr) ∧ Hid (l1.take k = l2.take k)) (fun i _ => n1 - (intOf i).toNat)
 case atStart => exact ⟨0, Nat.zero_le _, rfl, Below.refl _ _, by simp [Hid]⟩
 obtain ⟨k, hk, rfl, hbl, hr⟩ := hrel
 by_cases hlt : k < n1
 rotate_left
 · obtain rfl : k = n1 := by omega
   go_wp2_with fail
   go_ret
   exact ⟨ak (by simp [oP H1.out H2.out hr.out]), hbl.out⟩
 have k1 : k < l1.length := by rw [H1.out]; exact hlt
 have k2 : k < l2.length := by rw [H2.out]; exact hlt
 obtain ⟨b1, o1, u0, u1, u2, rfl, q0, q1, q2, hx⟩ := gU rfl (aS hbl.out G1.out) k k1
 obtain ⟨b2, o2, t0, t1, t2, rfl, p0, p1, p2, hy⟩ := gU rfl (aS hbl.out G2.out) k k2
 have HX := qH hx
 have HY := qH hy
 clear hx hy
 by_cases he : l1[k] = l2[k]
 · have HE := qH he
   clear he
   go_wp2_with fail
   refine BG (fun w' => cV w' b1 (o1 + k * 3) u0 ∧ cV w' b1 (o1 + k * 3 + 1) u1 ∧ cV w' b1 (o1 + k * 3 + 2) u2 ∧ cV w' b2 (o2 + k * 3) t0 ∧ cV w' b2 (o2 + k * 3 + 1) t1 ∧ cV w' b2 (o2 + k * 3 + 2) t2) [(0, 0), (1, 0), (2, 0), (3, 0), (4, 0), (5, 0), (6, 0), (7, 0), (8, 1), (9, 0)] ?_ ?_
   · exact ⟨q0, q1, q2, p0, p1, p2⟩
   refine nH ?_
   refine wU fun K hK => ?_
   go_wp2_with (go_at_call 132; refine (C9 l1[k] l2[k] _ _ _ _ _ _ _ (Rd.mono HX.out (belowD _)) (Rd.mono HY.out (belowD _))).mono ?_; rintro e w1 ⟨rfl, hb1⟩)
   rw [decide_eq_true HE.out]
   refine ⟨(uZ hb1 q0 q1 q2 p0 p1 p2:), ?_⟩
   refine nH ?_
   refine elN ?_
   go_wp2_with fail
   go_roundw
   case rel => exact ⟨k + 1, by omega, by go_num, hbl.out.drew.trans (hb1.mono hbl.out.size), mG k1 k2 hr.out HE.out⟩
   simp [intOf]; omega
 have HE := qH he
 clear he
 go_wp2_with fail
 refine BG (fun w' => cV w' b1 (o1 + k * 3) u0 ∧ cV w' b1 (o1 + k * 3 + 1) u1 ∧ cV w' b1 (o1 + k * 3 + 2) u2 ∧ cV w' b2 (o2 + k * 3) t0 ∧ cV w' b2 (o2 + k * 3 + 1) t1 ∧ cV w' b2 (o2 + k * 3 + 2) t2) [(0, 0), (1, 0), (2, 0), (3, 0), (4, 0), (5, 0), (6, 0), (7, 0), (8, 1), (9, 0)] ?_ ?_
 · exact ⟨q0, q1, q2, p0, p1, p2⟩
 refine nH ?_
 refine wU fun K hK => ?_
 go_wp2_with (go_at_call 132; refine (C9 l1[k] l2[k] _ _ _ _ _ _ _ (Rd.mono HX.out (belowD _)) (Rd.mono HY.out (belowD _))).mono ?_; rintro e w1 ⟨rfl, hb1⟩)
 rw [decide_eq_false HE.out]
 refine ⟨(uZ hb1 q0 q1 q2 p0 p1 p2:), ?_⟩
 refine nH ?_
 refine elN ?_
 go_wp2_with fail
 go_ret
 exact ⟨ak (by simp [vM k1 k2 HE.out]), hbl.out.drew.trans (hb1.mono hbl.out.size)⟩
theorem NS (x y : dB) (v0 v1 u0 u1 : Value) (w : World) (hx : Rd w [v0, v1] x) (hy : Rd w [u0, u1] y) :
 Calls prog 17 #[.agg #[v0, v1], .agg #[u0, u1]] w fun e w' => e = .returned (.bool (decide (x = y))) ∧ Below w.heap.size w w' := by
 obtain ⟨x0, x1⟩ := x
 obtain ⟨y0, y1⟩ := y
 have lT := au rfl hx
 obtain ⟨rfl, FV⟩ := aG lT.1
 have sO := qH lT.2
 obtain ⟨BH, tH, rfl, _⟩ := ah sO.out
 clear hx lT
 have Ej := au rfl hy
 obtain ⟨rfl, Iy0⟩ := aG Ej.1
 have Lc := qH Ej.2
 obtain ⟨Zy, Zz, rfl, _⟩ := ah Lc.out
 clear hy Ej
 have hs := ((St.start w).alloc #[.int .i64 x0, .slice BH x1.length tH] 42 rfl).alloc #[.int .i64 y0, .slice Zy y1.length Zz] 42 (n := w.heap.size + 1) (by simp)
 go_enter func17, ntmps17
 by_cases E0 : x0 = y0
 rotate_left
 · have hb0 : (x0 != y0) = true := by simpa using E0
   have F := qH E0
   clear E0
   go_wp2_with fail
   go_ret
   exact ⟨ak (by simp [F.out]), hs.bel⟩
 subst E0
 have hb0 : (x0 != x0) = false := by simp
 go_wp2_with fail
 refine (ZC x1 y1 _ _ _ (Rd.mono sO.out hs.bel) (Rd.mono Lc.out hs.bel)).mono ?_
 rintro e w1 ⟨rfl, hc1⟩
 have hs1 := hs.step hc1
 by_cases E1 : x1 = y1
 rotate_left
 · rw [decide_eq_false E1]
   have F := qH E1
   clear E1
   go_wp2_with fail
   go_ret
   exact ⟨ak (by simp [F.out]), hs1.bel⟩
 rw [decide_eq_true E1]
 have G1 := qH E1
 clear E1
 obtain ⟨p0, q0, p1, q1⟩ := hs1.c4 0 0 1 0 0 1 1 1
 go_wp2_with fail
 go_ret
 exact ⟨ak (by simp [G1.out]), hs1.bel⟩
theorem NT (x y : Inst) (v0 v1 u0 u1 : Value) (w : World) (hx : Rd w [v0, v1] x) (hy : Rd w [u0, u1] y) :
 Calls prog 18 #[.agg #[v0, v1], .agg #[u0, u1]] w fun e w' => e = .returned (.bool (decide (x = y))) ∧ Below w.heap.size w w' := by
 obtain ⟨x0, x1⟩ := x
 obtain ⟨y0, y1⟩ := y
 have lT := au rfl hx
 obtain ⟨rfl, FV⟩ := aG lT.1
 have sO := qH lT.2
 obtain ⟨BH, tH, rfl, _⟩ := ah sO.out
 clear hx lT
 have Ej := au rfl hy
 obtain ⟨rfl, Iy0⟩ := aG Ej.1
 have Lc := qH Ej.2
 obtain ⟨Zy, Zz, rfl, _⟩ := ah Lc.out
 clear hy Ej
 have hs := ((St.start w).alloc #[.int .i64 x0, .slice BH x1.length tH] 46 rfl).alloc #[.int .i64 y0, .slice Zy y1.length Zz] 46 (n := w.heap.size + 1) (by simp)
 go_enter func18, ntmps18
 by_cases E0 : x0 = y0
 rotate_left
 · have hb0 : (x0 != y0) = true := by simpa using E0
   have F := qH E0
   clear E0
   go_wp2_with fail
   go_ret
   exact ⟨ak (by simp [F.out]), hs.bel⟩
 subst E0
 have hb0 : (x0 != x0) = false := by simp
 go_wp2_with fail
 refine (ZB x1 y1 _ _ _ (Rd.mono sO.out hs.bel) (Rd.mono Lc.out hs.bel)).mono ?_
 rintro e w1 ⟨rfl, hc1⟩
 have hs1 := hs.step hc1
 by_cases E1 : x1 = y1
 rotate_left
 · rw [decide_eq_false E1]
   have F := qH E1
   clear E1
   go_wp2_with fail
   go_ret
   exact ⟨ak (by simp [F.out]), hs1.bel⟩
 rw [decide_eq_true E1]
 have G1 := qH E1
 clear E1
 obtain ⟨p0, q0, p1, q1⟩ := hs1.c4 0 0 1 0 0 1 1 1
 go_wp2_with fail
 go_ret
 exact ⟨ak (by simp [G1.out]), hs1.bel⟩
theorem Qg (x y : oW) (v0 v1 v2 v3 v4 u0 u1 u2 u3 u4 : Value) (w : World) (hx : Rd w [v0, v1, v2, v3, v4] x) (hy : Rd w [u0, u1, u2, u3, u4] y) :
 Calls prog 16 #[.agg #[v0, v1, v2, v3, v4], .agg #[u0, u1, u2, u3, u4]] w fun e w' => e = .returned (.bool (decide (x = y))) ∧ Below w.heap.size w w' := by
 obtain ⟨x0, x1, x2, x3, x4⟩ := x
 obtain ⟨y0, y1, y2, y3, y4⟩ := y
 have lT := au rfl hx
 obtain ⟨rfl, FV⟩ := aG lT.1
 have Ei := au rfl lT.2
 have sO := qH Ei.1
 obtain ⟨BH, tH, rfl, _⟩ := ah sO.out
 have Zo := au rfl Ei.2
 have Wy := qH Zo.1
 obtain ⟨ax2, cx2, rfl, _⟩ := ah Wy.out
 have Zp := au rfl Zo.2
 have Zq := qH Zp.1
 obtain ⟨ax3, cx3, rfl, _⟩ := ah Zq.out
 have Zr := qH Zp.2
 obtain ⟨ax4, cx4, rfl, _⟩ := ah Zr.out
 clear hx lT Ei Zo Zp
 have Ej := au rfl hy
 obtain ⟨rfl, Iy0⟩ := aG Ej.1
 have ZA := au rfl Ej.2
 have Lc := qH ZA.1
 obtain ⟨Zy, Zz, rfl, _⟩ := ah Lc.out
 have ty2 := au rfl ZA.2
 have Ry2 := qH ty2.1
 obtain ⟨ay2, cy2, rfl, _⟩ := ah Ry2.out
 have ty3 := au rfl ty2.2
 have Ry3 := qH ty3.1
 obtain ⟨ay3, cy3, rfl, _⟩ := ah Ry3.out
 have Ry4 := qH ty3.2
 obtain ⟨ay4, cy4, rfl, _⟩ := ah Ry4.out
 clear hy Ej ZA ty2 ty3
 have hs := ((St.start w).alloc #[.int .i64 x0, .slice BH x1.length tH, .slice ax2 x2.length cx2, .slice ax3 x3.length cx3, .slice ax4 x4.length cx4] 37 rfl).alloc #[.int .i64 y0, .slice Zy y1.length Zz, .slice ay2 y2.length cy2, .slice ay3 y3.length cy3, .slice ay4 y4.length cy4] 37 (n := w.heap.size + 1) (by simp)
 go_enter func16, ntmps16
 by_cases E0 : x0 = y0
 rotate_left
 · have hb0 : (x0 != y0) = true := by simpa using E0
   have F := qH E0
   clear E0
   go_wp2_with fail
   go_ret
   exact ⟨ak (by simp [F.out]), hs.bel⟩
 subst E0
 have hb0 : (x0 != x0) = false := by simp
 go_wp2_with fail
 refine (uD x1 y1 _ _ _ (Rd.mono sO.out hs.bel) (Rd.mono Lc.out hs.bel)).mono ?_
 rintro e w1 ⟨rfl, hc1⟩
 have hs1 := hs.step hc1
 by_cases E1 : x1 = y1
 rotate_left
 · rw [decide_eq_false E1]
   have F := qH E1
   clear E1
   go_wp2_with fail
   go_ret
   exact ⟨ak (by simp [F.out]), hs1.bel⟩
 rw [decide_eq_true E1]
 have G1 := qH E1
 clear E1
 obtain ⟨p0, q0, p1, q1, p2, q2, p3, q3⟩ := hs1.c8 0 0 1 0 0 1 1 1 0 2 1 2 0 3 1 3
 obtain ⟨p4, q4⟩ := hs1.c2 0 4 1 4
 go_wp2_with fail
 refine (NR x2 y2 _ _ _ (Rd.mono Wy.out hs1.bel) (Rd.mono Ry2.out hs1.bel)).mono ?_
 rintro e w2 ⟨rfl, hc2⟩
 have hs2 := hs1.step hc2
 by_cases E2 : x2 = y2
 rotate_left
 · rw [decide_eq_false E2]
   have F := qH E2
   clear E2
   go_wp2_with fail
   go_ret
   exact ⟨ak (by simp [F.out]), hs2.bel⟩
 rw [decide_eq_true E2]
 have G2 := qH E2
 clear E2 p0 q0 p1 q1 p2 q2 p3 q3 p4 q4
 obtain ⟨p0, q0, p1, q1, p2, q2, p3, q3⟩ := hs2.c8 0 0 1 0 0 1 1 1 0 2 1 2 0 3 1 3
 obtain ⟨p4, q4⟩ := hs2.c2 0 4 1 4
 go_wp2_with fail
 refine (J8 x3 y3 _ _ _ (Rd.mono Zq.out hs2.bel) (Rd.mono Ry3.out hs2.bel)).mono ?_
 rintro e w3 ⟨rfl, hc3⟩
 have hs3 := hs2.step hc3
 by_cases E3 : x3 = y3
 rotate_left
 · rw [decide_eq_false E3]
   have F := qH E3
   clear E3
   go_wp2_with fail
   go_ret
   exact ⟨ak (by simp [F.out]), hs3.bel⟩
 rw [decide_eq_true E3]
 have G3 := qH E3
 clear E3 p0 q0 p1 q1 p2 q2 p3 q3 p4 q4
 obtain ⟨p0, q0, p1, q1, p2, q2, p3, q3⟩ := hs3.c8 0 0 1 0 0 1 1 1 0 2 1 2 0 3 1 3
 obtain ⟨p4, q4⟩ := hs3.c2 0 4 1 4
 go_wp2_with fail
 refine (uD x4 y4 _ _ _ (Rd.mono Zr.out hs3.bel) (Rd.mono Ry4.out hs3.bel)).mono ?_
 rintro e w4 ⟨rfl, hc4⟩
 have hs4 := hs3.step hc4
 by_cases E4 : x4 = y4
 rotate_left
 · rw [decide_eq_false E4]
   have F := qH E4
   clear E4
   go_wp2_with fail
   go_ret
   exact ⟨ak (by simp [F.out]), hs4.bel⟩
 rw [decide_eq_true E4]
 have G4 := qH E4
 clear E4 p0 q0 p1 q1 p2 q2 p3 q3 p4 q4
 obtain ⟨p0, q0, p1, q1, p2, q2, p3, q3⟩ := hs4.c8 0 0 1 0 0 1 1 1 0 2 1 2 0 3 1 3
 obtain ⟨p4, q4⟩ := hs4.c2 0 4 1 4
 go_wp2_with fail
 go_ret
 exact ⟨ak (by simp [G1.out, G2.out, G3.out, G4.out]), hs4.bel⟩
theorem NU (x : dB) (v0 v1 u0 u1 : Value) (w : World) (hx : Rd w [v0, v1] x) (hy : Rd w [u0, u1] x) :
 Calls prog 17 #[.agg #[v0, v1], .agg #[u0, u1]] w fun e w' => e = .returned (.bool true) ∧ Below w.heap.size w w' :=
 (NS x x v0 v1 u0 u1 w hx hy).mono fun e w' ⟨he, hb⟩ => ⟨by rw [he]; simp, hb⟩
theorem NV (x : Inst) (v0 v1 u0 u1 : Value) (w : World) (hx : Rd w [v0, v1] x) (hy : Rd w [u0, u1] x) :
 Calls prog 18 #[.agg #[v0, v1], .agg #[u0, u1]] w fun e w' => e = .returned (.bool true) ∧ Below w.heap.size w w' :=
 (NT x x v0 v1 u0 u1 w hx hy).mono fun e w' ⟨he, hb⟩ => ⟨by rw [he]; simp, hb⟩
theorem Qh (x : oW) (v0 v1 v2 v3 v4 u0 u1 u2 u3 u4 : Value) (w : World) (hx : Rd w [v0, v1, v2, v3, v4] x) (hy : Rd w [u0, u1, u2, u3, u4] x) :
 Calls prog 16 #[.agg #[v0, v1, v2, v3, v4], .agg #[u0, u1, u2, u3, u4]] w fun e w' => e = .returned (.bool true) ∧ Below w.heap.size w w' :=
 (Qg x x v0 v1 v2 v3 v4 u0 u1 u2 u3 u4 w hx hy).mono fun e w' ⟨he, hb⟩ => ⟨by rw [he]; simp, hb⟩
theorem EU {cur : Array Value} {o : Nat} {v : Value} (vs : List Value) (h : cur[o]? = some v) : kQ cur o (v :: vs) = kQ cur (o + 1) vs := by
 rw [kQ]
 congr 1
 apply Array.ext_getElem?
 intro i
 by_cases hi : o = i
 · subst hi
   have := (Array.getElem?_eq_some_iff.1 h).1
   rw [Array.getElem?_setIfInBounds_self_of_lt this, h]
 rw [Array.getElem?_setIfInBounds_ne hi]
open Go.ChangeShapes Go.WideShapes Go.Deep Go.Joins
def Opens (P : Program) (t : TypeId) (α : Type) [Rep α] : Prop :=
 ∀ {H : Type} {enc : TypeId × Value → H} {w : World} {base : Nat} {spare : Nat → Bool} {held : Bool} {fuel : Nat} {cs : List Value} {x : DataW H × List MemPlace},
  DataW.trod enc P w base spare held fuel t cs = some x → ∃ a : α, Rd w cs a
variable {P : Program} {t : TypeId}
theorem EW {α : Type} {p : Nat → α → Prop} : ∀ n, (∀ i, i < n → ∃ y, p i y) → ∃ l : List α, l.length = n ∧ ∀ i (h : i < l.length), p i l[i]
 | 0, _ => ⟨[], rfl, fun i h => absurd h (Nat.not_lt_zero _)⟩
 | n + 1, h => by
  obtain ⟨l, hl, hp⟩ := EW n (fun i hi => h i (by omega))
  obtain ⟨y, hy⟩ := h n (by omega)
  refine ⟨l ++ [y], by simp [hl], fun i hi => ?_⟩
  by_cases hlt : i < l.length
  · rw [List.getElem_append_left hlt]; exact hp i hlt
  · have : i = l.length := by simp at hi; omega
    subst this
    rw [List.getElem_append_right (by omega)]
    simp only [Nat.sub_self, List.getElem_cons_zero]
    rw [hl]; exact hy
theorem XY (ht : P.underlying t = some (.int .i64)) : Opens P t Int := by
 intro H enc w base spare held fuel cs x h
 obtain ⟨n, rfl, _, hw⟩ := DataW.trod_int ht h
 refine ⟨n, rfl, ?_⟩
 simp [Lit.wf, IntKind.min, IntKind.max, IntKind.signed, IntKind.bits] at hw
 exact ⟨by omega, by omega⟩
theorem qG {α : Type} [Rep α] {e : TypeId} (ht : P.underlying t = some (.slice e)) (hC : P.cellsOf e = sz α) (hz : 0 < sz α) (he : Opens P e α) : Opens P t (List α) := by
 intro H enc w base spare held fuel cs x h
 rcases open_slice ht h with ⟨rfl, _⟩ | ⟨a, len, cap, m, n, D, Pl, rfl, hb, hl, hm, hmm, _, hi⟩
 · exact ⟨[], none, 0, rfl, Nat.zero_le _, Nat.zero_le _, fun i hi => absurd hi (Nat.not_lt_zero _)⟩
 have hlm : len ≤ m := by rw [hmm]; split <;> omega
 obtain ⟨l, hll, hp⟩ := EW (p := fun i (y : α) => ∃ cs', Rd w cs' y ∧ w.cells? base (a.add (i * P.cellsOf e)) (P.cellsOf e) = some cs') len (fun i hlt => by
  obtain ⟨cs', h1, h2⟩ := hi i (by omega)
  obtain ⟨y, hy⟩ := he h2
  exact ⟨y, cs', hy, h1⟩)
 subst hll
 refine ⟨l, some a, cap, rfl, hl, hm, fun i hil => ?_⟩
 obtain ⟨cs', hy, hc⟩ := hp i hil
 obtain ⟨_, hcl, hat⟩ := World.cells?_some hc
 obtain ⟨b, off, spot⟩ := a
 have hspot : spot = none := by
  obtain ⟨cs0, _, hc0⟩ := hp 0 (by omega)
  obtain ⟨_, hcl0, apE⟩ := World.cells?_some hc0
  have h0 := apE 0 (by omega)
  rw [List.getElem?_eq_getElem (by omega)] at h0
  simpa [Addr.add] using World.cell?_spot h0
 subst hspot
 refine ⟨b, off, cs', rfl, hy, fun k hk => ?_⟩
 have := hat k (by omega)
 rw [hC] at this
 rw [← this, add_add]
 unfold Addr.add
 split
 · rename_i hz; rw [Nat.add_assoc, hz]; rfl
 simp [Nat.add_assoc]
theorem rC {α0 α1 : Type} [Rep α0] [Rep α1] {f0 f1 : Field} (hs : P.underlying t = some (.struct #[f0, f1])) (hone : oneCellFields P #[f0, f1] = true) (hC : P.cellsOf t = 2) (h0 : Opens P f0.type α0) (h1 : Opens P f1.type α1) (z0 : sz α0 = 1) : Opens P t (α0 × α1) := by
 intro H enc w base spare held fuel cs x h
 obtain ⟨xs, n, _, _, hcl, hlen, hg⟩ := DataW.trod_struct hs h
 rw [hC] at hcl
 match cs, hcl with
 | [c0, c1], _ =>
  match xs, hlen with
  | [y0, y1], _ =>
   obtain ⟨o0, k0⟩ := hone_of hone 0 f0 rfl
   have g0 := hg 0 f0 rfl
   rw [o0, k0] at g0
   obtain ⟨a0, r0⟩ := h0 (cs := [c0]) (x := y0) (by simpa using g0)
   obtain ⟨o1, k1⟩ := hone_of hone 1 f1 rfl
   have g1 := hg 1 f1 rfl
   rw [o1, k1] at g1
   obtain ⟨a1, r1⟩ := h1 (cs := [c1]) (x := y1) (by simpa using g1)
   exact ⟨(a0, a1), ru r0 (r1)⟩
theorem Bf {α0 α1 α2 : Type} [Rep α0] [Rep α1] [Rep α2] {f0 f1 f2 : Field} (hs : P.underlying t = some (.struct #[f0, f1, f2])) (hone : oneCellFields P #[f0, f1, f2] = true) (hC : P.cellsOf t = 3) (h0 : Opens P f0.type α0) (h1 : Opens P f1.type α1) (h2 : Opens P f2.type α2) (z0 : sz α0 = 1) (z1 : sz α1 = 1) : Opens P t (α0 × α1 × α2) := by
 intro H enc w base spare held fuel cs x h
 obtain ⟨xs, n, _, _, hcl, hlen, hg⟩ := DataW.trod_struct hs h
 rw [hC] at hcl
 match cs, hcl with
 | [c0, c1, c2], _ =>
  match xs, hlen with
  | [y0, y1, y2], _ =>
   obtain ⟨o0, k0⟩ := hone_of hone 0 f0 rfl
   have g0 := hg 0 f0 rfl
   rw [o0, k0] at g0
   obtain ⟨a0, r0⟩ := h0 (cs := [c0]) (x := y0) (by simpa using g0)
   obtain ⟨o1, k1⟩ := hone_of hone 1 f1 rfl
   have g1 := hg 1 f1 rfl
   rw [o1, k1] at g1
   obtain ⟨a1, r1⟩ := h1 (cs := [c1]) (x := y1) (by simpa using g1)
   obtain ⟨o2, k2⟩ := hone_of hone 2 f2 rfl
   have g2 := hg 2 f2 rfl
   rw [o2, k2] at g2
   obtain ⟨a2, r2⟩ := h2 (cs := [c2]) (x := y2) (by simpa using g2)
   exact ⟨(a0, a1, a2), ru r0 (ru r1 (r2))⟩
theorem J9 {α0 α1 α2 α3 α4 : Type} [Rep α0] [Rep α1] [Rep α2] [Rep α3] [Rep α4] {f0 f1 f2 f3 f4 : Field} (hs : P.underlying t = some (.struct #[f0, f1, f2, f3, f4])) (hone : oneCellFields P #[f0, f1, f2, f3, f4] = true) (hC : P.cellsOf t = 5) (h0 : Opens P f0.type α0) (h1 : Opens P f1.type α1) (h2 : Opens P f2.type α2) (h3 : Opens P f3.type α3) (h4 : Opens P f4.type α4) (z0 : sz α0 = 1) (z1 : sz α1 = 1) (z2 : sz α2 = 1) (z3 : sz α3 = 1) : Opens P t (α0 × α1 × α2 × α3 × α4) := by
 intro H enc w base spare held fuel cs x h
 obtain ⟨xs, n, _, _, hcl, hlen, hg⟩ := DataW.trod_struct hs h
 rw [hC] at hcl
 match cs, hcl with
 | [c0, c1, c2, c3, c4], _ =>
  match xs, hlen with
  | [y0, y1, y2, y3, y4], _ =>
   obtain ⟨o0, k0⟩ := hone_of hone 0 f0 rfl
   have g0 := hg 0 f0 rfl
   rw [o0, k0] at g0
   obtain ⟨a0, r0⟩ := h0 (cs := [c0]) (x := y0) (by simpa using g0)
   obtain ⟨o1, k1⟩ := hone_of hone 1 f1 rfl
   have g1 := hg 1 f1 rfl
   rw [o1, k1] at g1
   obtain ⟨a1, r1⟩ := h1 (cs := [c1]) (x := y1) (by simpa using g1)
   obtain ⟨o2, k2⟩ := hone_of hone 2 f2 rfl
   have g2 := hg 2 f2 rfl
   rw [o2, k2] at g2
   obtain ⟨a2, r2⟩ := h2 (cs := [c2]) (x := y2) (by simpa using g2)
   obtain ⟨o3, k3⟩ := hone_of hone 3 f3 rfl
   have g3 := hg 3 f3 rfl
   rw [o3, k3] at g3
   obtain ⟨a3, r3⟩ := h3 (cs := [c3]) (x := y3) (by simpa using g3)
   obtain ⟨o4, k4⟩ := hone_of hone 4 f4 rfl
   have g4 := hg 4 f4 rfl
   rw [o4, k4] at g4
   obtain ⟨a4, r4⟩ := h4 (cs := [c4]) (x := y4) (by simpa using g4)
   exact ⟨(a0, a1, a2, a3, a4), ru r0 (ru r1 (ru r2 (ru r3 (r4))))⟩
theorem iG : Opens prog 2 Int := XY Tryz.underlying2
theorem tJ : Opens prog 28 (List Int) := qG Tryz.underlying28 (by kernel_rfl) (by decide) iG
theorem Ko : Opens prog 97 (List (List Int)) := qG Tryz.underlying97 (by kernel_rfl) (by decide) tJ
theorem XZ : Opens prog 159 nI := rC Tryz.underlying159 (by kernel_rfl) (by kernel_rfl) iG tJ rfl
theorem X0 : Opens prog 157 bH := rC Tryz.underlying157 (by kernel_rfl) (by kernel_rfl) iG Ko rfl
theorem Kq : Opens prog 237 (Int × Int × Int) := Bf Tryz.underlying237 (by kernel_rfl) (by kernel_rfl) iG iG iG rfl rfl
theorem Ib : Opens prog 239 (Int × Int × Int) := Bf Tryz.underlying239 (by kernel_rfl) (by kernel_rfl) iG iG iG rfl rfl
theorem TK : Opens prog 25 (List (nI)) := qG Tryz.underlying25 (by kernel_rfl) (by decide) XZ
theorem TL : Opens prog 22 (List (bH)) := qG Tryz.underlying22 (by kernel_rfl) (by decide) X0
theorem Ic : Opens prog 68 (List ((Int × Int × Int))) := qG Tryz.underlying68 (by kernel_rfl) (by decide) Kq
theorem FW : Opens prog 69 (List ((Int × Int × Int))) := qG Tryz.underlying69 (by kernel_rfl) (by decide) Ib
theorem Ie : Opens prog 24 dB := rC Tryz.underlying24 (by kernel_rfl) (by kernel_rfl) iG TL rfl
theorem Ig : Opens prog 27 Inst := rC Tryz.underlying27 (by kernel_rfl) (by kernel_rfl) iG TK rfl
theorem Kr : Opens prog 71 oW := J9 Tryz.underlying71 (by kernel_rfl) (by kernel_rfl) iG tJ Ic FW tJ rfl rfl rfl rfl
theorem afl {α : Type} {l : List α} (h : l.length = 2) : ∃ a0 a1, l = [a0, a1] := by
 match l, h with
 | [a0, a1], _ => exact ⟨a0, a1, rfl⟩
theorem ak9 {α : Type} {l : List α} (h : l.length = 5) : ∃ a0 a1 a2 a3 a4, l = [a0, a1, a2, a3, a4] := by
 match l, h with
 | [a0, a1, a2, a3, a4], _ => exact ⟨a0, a1, a2, a3, a4, rfl⟩
end Go.Proofs.YtoblfnoaepbhfaaGreat
namespace Go.Proofs.YtoblfnoaepbhfaaGreat
open Go.Proofs.Tryz
open Go.RowKit
open Rep (Rd Own sz)
end Go.Proofs.YtoblfnoaepbhfaaGreat
