import Derived.Test.YtoblfnoaepbhfaaGreatBaseQz
import Derived.Test.YtoblfnoaepbhfaaGreatKindsQz
import Derived.Shelf.Abstract
import Derived.Lib.BufferMore
import Derived.Deep.RegionHeld3
import Derived.Deep.DeepCutAuto
import Derived.IntWalk
set_option linter.unusedSimpArgs false
set_option linter.unusedVariables false
set_option maxHeartbeats 4000000
set_option maxRecDepth 100000
namespace Go.Proofs.YtoblfnoaepbhfaaGreat
open Go.Proofs.Tryz
open Go.RowKit
abbrev pR := List Int × List Int
abbrev dF := List Int × Int × List Int
def Ld (l : List Int) : Bool := (l.take (l.length - 1)).all (fun a => a == 0)
def zK (l : List Int) : Int := l.getD (l.length - 1) 0
def flat (r : dF) : pR := (r.1 ++ [r.2.1], r.2.2)
def FX (p k : Int) (l m : List Int) : List Int := List.zipWith (fun a b => (a + k * b) % p) l m ++ l.drop m.length
def AU (p k : Int) (r s : pR) : pR := (FX p k r.1 s.1, FX p k r.2 s.2)
def bZ (p n : Int) (r : pR) : pR := AU p (n - 1 + p) r r
def uF (p k : Int) (l m : List Int) : List Int := List.zipWith (fun a b => (a - k * b) % p) l m
def rP (p k : Int) (r o : dF) : dF := (uF p k r.1 o.1, (r.2.1 - k * o.2.1) % p, uF p k r.2.2 o.2.2)
def uG (p k : Int) (l : List Int) : List Int := List.zipWith (fun a _ => a * k % p) l l
def jM (p k : Int) (r : dF) : dF := (uG p k r.1, r.2.1 * k % p, uG p k r.2.2)
structure NW (α : Type) where
 get : α → Nat → Int
 scale : α → Int → α
 less : α → α → Int → α
 dflt : α
def fM (p : Int) : NW pR := ⟨fun r u => r.1.getD u 0, fun r n => bZ p n r, fun r x n => AU p (p - n) r x, ([], [])⟩
def bJ (p : Int) : NW dF := ⟨fun r u => r.1.getD u 0, fun r n => jM p n r, fun r x n => if n = 0 then r else rP p n r x, ([], 0, [])⟩
def fH {α : Type} (d : α) (l : List α) (i j : Nat) : List α := (l.set i (l.getD j d)).set j (l.getD i d)
@[simp] theorem tK {α : Type} (d : α) (l : List α) (i j : Nat) : (fH d l i j).length = l.length := by simp [fH]
def dh {α : Type} (O : NW α) (u done : Nat) (x : α) (i : Nat) (r : α) : α := if i = done then r else O.less r x (O.get r u)
def wF {α : Type} (O : NW α) (u : Nat) (rows : List α) (done k : Nat) : List α :=
 let r1 := fH O.dflt rows done (done + k)
 let x := O.scale (r1.getD done O.dflt) (O.get (r1.getD done O.dflt) u)
 (r1.set done x).mapIdx (dh O u done x)
def jV {α : Type} (O : NW α) (u : Nat) (st : List α × List Int) : List α × List Int :=
 match (st.1.drop st.2.length).findIdx? (fun r => O.get r u != 0) with
 | none => st
 | some k => (wF O u st.1 st.2.length k, st.2 ++ [(u : Int)])
def dK {α : Type} (O : NW α) (rows : List α) : Nat → List α × List Int
 | 0 => (rows, [])
 | u + 1 => jV O u (dK O rows u)
theorem Qi (p n a b : Int) : (a + (p - n) * b) % p = (a - n * b) % p := by
 rw [show a + (p - n) * b = a - n * b + p * b by rw [Int.sub_mul]; omega, Int.add_mul_emod_self_left]
theorem EX (p n a : Int) : (a + (n - 1 + p) * a) % p = a * n % p := by
 rw [show a + (n - 1 + p) * a = a * n + p * a by rw [Int.add_mul, Int.sub_mul, Int.one_mul, Int.mul_comm n a]; omega, Int.add_mul_emod_self_left]
theorem ug {p k : Int} {l m : List Int} (h : l.length = m.length) : FX p k l m = List.zipWith (fun a b => (a + k * b) % p) l m := by
 unfold FX; rw [← h, List.drop_length, List.append_nil]
theorem EY {p k : Int} {l m : List Int} {a b : Int} (h : l.length = m.length) : FX p k (l ++ [a]) (m ++ [b]) = FX p k l m ++ [(a + k * b) % p] := by
 rw [ug (by simp [h]), ug h, List.zipWith_append h]; rfl
structure GoodS (p : Int) (U n : Nat) (r : dF) : Prop where
 len : r.1.length = U
 NY : r.2.2.length = n
 res : wz p r.1
 right : 0 ≤ r.2.1 ∧ r.2.1 < p
 Le : wz p r.2.2
theorem Aq {p : Int} (hp : 0 < p) (f : Int → Int → Int) (l m : List Int) : wz p (List.zipWith (fun a b => f a b % p) l m) := by
 intro a ha
 obtain ⟨i, hi, rfl⟩ := List.getElem_of_mem ha
 simp only [List.getElem_zipWith]
 exact ⟨Int.emod_nonneg _ (by omega), Int.emod_lt_of_pos _ hp⟩
theorem yB {p : Int} {U n : Nat} {r o : dF} (hp : 0 < p) (k : Int) (hr : GoodS p U n r) (ho : GoodS p U n o) : GoodS p U n (rP p k r o) :=
 ⟨by simp [rP, uF, hr.len, ho.len], by simp [rP, uF, hr.NY, ho.NY], Aq hp (fun a b => a - k * b) _ _, ⟨Int.emod_nonneg _ (by omega), Int.emod_lt_of_pos _ hp⟩, Aq hp (fun a b => a - k * b) _ _⟩
theorem rQ {p : Int} {U n : Nat} {r : dF} (hp : 0 < p) (k : Int) (hr : GoodS p U n r) : GoodS p U n (jM p k r) :=
 ⟨by simp [jM, uG, hr.len], by simp [jM, uG, hr.NY], Aq hp (fun a _ => a * k) _ _, ⟨Int.emod_nonneg _ (by omega), Int.emod_lt_of_pos _ hp⟩, Aq hp (fun a _ => a * k) _ _⟩
theorem Lh {p n : Int} {l m : List Int} (h : l.length = m.length) : FX p (p - n) l m = uF p n l m := by
 rw [ug h]; unfold uF; simp only [Qi]
theorem Ih {p : Int} {l m : List Int} (h : l.length = m.length) (hr : wz p l) : uF p 0 l m = l := by
 unfold uF
 apply List.ext_getElem
 · simp [h]
 intro i h1 h2
 simp only [List.getElem_zipWith, Int.zero_mul, Int.sub_zero]
 exact Int.emod_eq_of_lt (hr.get i h2).1 (hr.get i h2).2
theorem Lj {p : Int} {U n : Nat} {r o : dF} (k : Int) (hr : GoodS p U n r) (ho : GoodS p U n o) : flat (rP p k r o) = AU p (p - k) (flat r) (flat o) := by
 unfold flat AU rP
 simp only
 rw [EY (by rw [hr.len, ho.len]), Lh (by rw [hr.len, ho.len]), Lh (by rw [hr.NY, ho.NY]), Qi]
theorem TM {p : Int} {U n : Nat} {r o : dF} (hr : GoodS p U n r) (ho : GoodS p U n o) : rP p 0 r o = r := by
 unfold rP
 rw [Ih (by rw [hr.len, ho.len]) hr.res, Ih (by rw [hr.NY, ho.NY]) hr.Le, Int.zero_mul, Int.sub_zero, Int.emod_eq_of_lt hr.right.1 hr.right.2]
theorem Ii {p n : Int} {l : List Int} : FX p (n - 1 + p) l l = uG p n l := by
 rw [ug rfl]; unfold uG
 apply List.ext_getElem
 · simp
 intro i h1 h2
 simp only [List.getElem_zipWith]
 exact EX p n _
theorem TN {p : Int} (k : Int) (r : dF) : flat (jM p k r) = bZ p k (flat r) := by
 unfold flat bZ AU jM
 simp only
 rw [EY rfl, Ii, Ii, EX]
theorem flat_get {r : dF} {u : Nat} (h : u < r.1.length) : (flat r).1.getD u 0 = r.1.getD u 0 := by
 simp [flat, List.getD, List.getElem?_append_left h]
def qI (p : Int) (U n : Nat) (rows : List dF) : Prop := ∀ r, r ∈ rows → GoodS p U n r
theorem pU {p : Int} {U n : Nat} {rows : List dF} (h : qI p U n rows) (i : Nat) (hi : i < rows.length) (d : dF) : GoodS p U n (rows.getD i d) := by
 simp only [List.getD, List.getElem?_eq_getElem hi, Option.getD_some]; exact h _ (List.getElem_mem hi)
theorem wX {p : Int} {U n : Nat} {rows : List dF} (h : qI p U n rows) (i : Nat) {x : dF} (hx : GoodS p U n x) : qI p U n (rows.set i x) := by
 intro r hr
 rcases List.mem_or_eq_of_mem_set hr with h1 | h1
 · exact h r h1
 subst h1; exact hx
theorem wY {p : Int} {U n : Nat} {rows : List dF} (h : qI p U n rows) (d : dF) (i j : Nat) (hi : i < rows.length) (hj : j < rows.length) : qI p U n (fH d rows i j) :=
 wX (wX h i (pU h j hj d)) j (pU h i hi d)
theorem getD_map {α β : Type} (f : α → β) (l : List α) (i : Nat) (d : α) (e : β) (h : i < l.length) : (l.map f).getD i e = f (l.getD i d) := by simp [List.getD, h]
theorem X3 {α β : Type} (f : α → β) (l : List α) (i j : Nat) (d : α) (e : β) (hi : i < l.length) (hj : j < l.length) : fH e (l.map f) i j = (fH d l i j).map f := by
 unfold fH
 rw [getD_map f l i d e hi, getD_map f l j d e hj, List.map_set, List.map_set]
theorem Dc {α : Type} {q : α → Bool} {l : List α} {k : Nat} (h : l.findIdx? q = some k) : k < l.length := by
 rw [List.findIdx?_eq_some_iff_getElem] at h; exact h.1
theorem Gz {α : Type} (d : α) (l : List α) (i j : Nat) (hi : i < l.length) (hj : j < l.length) : (fH d l i j).getD i d = l.getD j d := by
 unfold fH
 simp only [List.getD, List.getElem?_set, List.length_set, hi, hj, if_true]
 by_cases h : j = i
 · subst h; simp
 simp [h, hi]
theorem X4 {p : Int} {U n : Nat} (hp : 0 < p) {u : Nat} {rows : List dF} {bs : List Int} (h : qI p U n rows) : qI p U n (jV (bJ p) u (rows, bs)).1 := by
 unfold jV
 simp only
 split
 · exact h
 rename_i k hk
 have hk1 := Dc hk
 simp only [List.length_drop] at hk1
 have hd : bs.length < rows.length := by omega
 have h1 := wY h (bJ p).dflt bs.length (bs.length + k) hd (by omega)
 have hx := pU h1 bs.length (by simpa using hd) (bJ p).dflt
 have hx' : GoodS p U n ((bJ p).scale ((fH (bJ p).dflt rows bs.length (bs.length + k)).getD bs.length (bJ p).dflt) ((bJ p).get ((fH (bJ p).dflt rows bs.length (bs.length + k)).getD bs.length (bJ p).dflt) u)) := rQ hp _ hx
 intro r hr
 unfold wF at hr
 simp only [List.mem_mapIdx] at hr
 obtain ⟨i, hi, rfl⟩ := hr
 have h2 := wX h1 bs.length hx' _ (List.getElem_mem hi)
 unfold dh
 split
 · exact h2
 show GoodS p U n (if _ then _ else _)
 split
 · exact h2
 exact yB hp _ h2 hx'
theorem step_map {p : Int} {U n : Nat} (hp : 0 < p) {u : Nat} (hu : u < U) {rows : List dF} {bs : List Int} (h : qI p U n rows) :
 jV (fM p) u (rows.map flat, bs) = ((jV (bJ p) u (rows, bs)).1.map flat, (jV (bJ p) u (rows, bs)).2) := by
 have hfind : ((rows.map flat).drop bs.length).findIdx? (fun r => (fM p).get r u != 0) = (rows.drop bs.length).findIdx? (fun r => (bJ p).get r u != 0) := by
  rw [← List.map_drop, List.findIdx?_map]
  have : ∀ l : List dF, qI p U n l → l.findIdx? ((fun r => (fM p).get r u != 0) ∘ flat) = l.findIdx? (fun r => (bJ p).get r u != 0) := by
   intro l hl
   induction l with
   | nil => rfl
   | cons r rs ih =>
    have hr := hl r (List.mem_cons_self ..)
    have e : (fM p).get (flat r) u = (bJ p).get r u := flat_get (by rw [hr.len]; exact hu)
    simp only [List.findIdx?_cons, Function.comp, e]
    rw [← ih (fun x hx => hl x (List.mem_cons_of_mem _ hx))]
  exact this _ (fun r hr => h r (List.mem_of_mem_drop hr))
 unfold jV
 simp only
 rw [hfind]
 split
 · rfl
 rename_i k hk
 have hk1 := Dc hk
 simp only [List.length_drop] at hk1
 have hd : bs.length < rows.length := by omega
 have h1 := wY h (bJ p).dflt bs.length (bs.length + k) hd (by omega)
 have hx := pU h1 bs.length (by simpa using hd) (bJ p).dflt
 simp only [Prod.mk.injEq, and_true]
 unfold wF
 rw [X3 flat rows _ _ (bJ p).dflt (fM p).dflt hd (by omega)]
 simp only
 generalize hr1 : fH (bJ p).dflt rows bs.length (bs.length + k) = r1 at *
 have hl1 : bs.length < r1.length := by rw [← hr1]; simpa using hd
 rw [getD_map flat r1 _ (bJ p).dflt (fM p).dflt hl1]
 generalize r1.getD bs.length (bJ p).dflt = x0 at *
 have e0 : (fM p).get (flat x0) u = (bJ p).get x0 u := flat_get (by rw [hx.len]; exact hu)
 have e1 : (fM p).scale (flat x0) ((bJ p).get x0 u) = flat ((bJ p).scale x0 ((bJ p).get x0 u)) := (TN _ _).symm
 rw [e0, e1]
 have hx' : GoodS p U n ((bJ p).scale x0 ((bJ p).get x0 u)) := rQ hp _ hx
 generalize (bJ p).scale x0 ((bJ p).get x0 u) = x at *
 have h2 := wX h1 bs.length hx'
 rw [← List.map_set]
 apply List.ext_getElem
 · simp
 intro i q1 q2
 simp only [List.getElem_mapIdx, List.getElem_map]
 have hg : GoodS p U n ((r1.set bs.length x)[i]'(by simpa using q1)) := h2 _ (List.getElem_mem _)
 generalize (r1.set bs.length x)[i]'(by simpa using q1) = r at *
 unfold dh
 have e2 : (fM p).get (flat r) u = (bJ p).get r u := flat_get (by rw [hg.len]; exact hu)
 rw [e2]
 split
 · rfl
 show AU p (p - _) (flat r) (flat x) = flat (if _ then _ else _)
 rw [← Lj _ hg hx']
 split
 · rename_i hz; rw [hz, TM hg hx']
 rfl
theorem qJ {p : Int} {U n : Nat} (hp : 0 < p) {rows : List dF} (h : qI p U n rows) : ∀ u, qI p U n (dK (bJ p) rows u).1
 | 0 => h
 | u + 1 => by
  have := qJ hp h u
  exact X4 (bs := (dK (bJ p) rows u).2) hp this
theorem elim_map {p : Int} {U n : Nat} (hp : 0 < p) {rows : List dF} (h : qI p U n rows) : ∀ u, u ≤ U → dK (fM p) (rows.map flat) u = ((dK (bJ p) rows u).1.map flat, (dK (bJ p) rows u).2)
 | 0, _ => rfl
 | u + 1, hu => by
  show jV (fM p) u (dK (fM p) (rows.map flat) u) = _
  rw [elim_map hp h u (by omega)]
  exact step_map (bs := (dK (bJ p) rows u).2) hp (by omega) (qJ hp h u)
open Rep (Rd Own sz)
def sigma (i j k : Nat) : Nat := if k = j then i else if k = i then j else k
theorem X5 {i j a b : Nat} (h : sigma i j a = sigma i j b) : a = b := by unfold sigma at h; split at h <;> split at h <;> (try split at h) <;> (try split at h) <;> omega
theorem ZE {i j k n : Nat} (hi : i < n) (hj : j < n) (hk : k < n) : sigma i j k < n := by unfold sigma; split <;> (try split) <;> omega
theorem Qj {α : Type} (l : List α) (i j k : Nat) (hi : i < l.length) (hj : j < l.length) : ((l.set i l[j]).set j l[i])[k]? = l[sigma i j k]? := by
 unfold sigma
 by_cases hkj : k = j
 · subst hkj
   rw [List.getElem?_set_self (by simpa using hj), if_pos rfl, List.getElem?_eq_getElem hi]
 rw [List.getElem?_set_ne (Ne.symm hkj), if_neg hkj]
 by_cases hki : k = i
 · subst hki
   rw [List.getElem?_set_self hi, if_pos rfl, List.getElem?_eq_getElem hj]
 rw [List.getElem?_set_ne (Ne.symm hki), if_neg hki]
theorem ZF {α : Type} (d : α) (l : List α) (i j : Nat) (hi : i < l.length) (hj : j < l.length) : fH d l i j = (l.set i l[j]).set j l[i] := by
 simp [fH, List.getD, hi, hj]
theorem Bg {L : List (List Nat)} (h1 : ∀ (i : Nat) (p : List Nat), L[i]? = some p → p.Nodup) (h2 : ∀ (i j : Nat) (p q : List Nat), i ≠ j → L[i]? = some p → L[j]? = some q → ∀ x, x ∈ p → x ∉ q) : (List.flatten L).Nodup := by
 unfold List.Nodup
 rw [List.pairwise_flatten]
 refine ⟨fun p hp => ?_, ?_⟩
 · obtain ⟨i, hi⟩ := List.mem_iff_getElem?.1 hp
   exact h1 i p hi
 rw [List.pairwise_iff_getElem]
 intro a b ha hb hab x hx y hy e
 subst e
 exact h2 a b _ _ (by omega) (List.getElem?_eq_getElem ha) (List.getElem?_eq_getElem hb) x hx hy
theorem Kt {L : List (List Nat)} (h : (List.flatten L).Nodup) : (∀ (i : Nat) (p : List Nat), L[i]? = some p → p.Nodup) ∧ ∀ (i j : Nat) (p q : List Nat), i ≠ j → L[i]? = some p → L[j]? = some q → ∀ x, x ∈ p → x ∉ q := by
 unfold List.Nodup at h
 rw [List.pairwise_flatten, List.pairwise_iff_getElem] at h
 refine ⟨fun i p hp => h.1 p (List.mem_of_getElem? hp), fun i j p q hij hp hq x hx hxq => ?_⟩
 obtain ⟨hi, rfl⟩ := List.getElem?_eq_some_iff.1 hp
 obtain ⟨hj, rfl⟩ := List.getElem?_eq_some_iff.1 hq
 rcases Nat.lt_or_gt_of_ne hij with hlt | hlt
 · exact h.2 i j hi hj hlt x hx x hxq rfl
 exact h.2 j i hj hi hlt x hxq x hx rfl
def Ip {α : Type} [Rep α] (A : Nat → Prop) (w : World) (vs : List Value) (x : α) : Prop := ∃ ps, Own ps w vs x ∧ ps.Nodup ∧ ∀ k, k ∈ ps → A k
theorem Ip.ZG {α : Type} [Rep α] {lo hi : Nat} {w : World} {vs : List Value} {x : α} (h : Iv lo hi w vs x) : Ip (fun k => lo ≤ k ∧ k < hi) w vs x := h
theorem Ip.iv {α : Type} [Rep α] {A : Nat → Prop} {lo hi : Nat} {w : World} {vs : List Value} {x : α} (h : Ip A w vs x) (hA : ∀ k, A k → lo ≤ k ∧ k < hi) : Iv lo hi w vs x := by
 obtain ⟨ps, h1, h2, h3⟩ := h; exact ⟨ps, h1, h2, fun k hk => hA k (h3 k hk)⟩
theorem Ip.wk {α : Type} [Rep α] {A B : Nat → Prop} {w : World} {vs : List Value} {x : α} (h : Ip A w vs x) (hA : ∀ k, A k → B k) : Ip B w vs x := by
 obtain ⟨ps, h1, h2, h3⟩ := h; exact ⟨ps, h1, h2, fun k hk => hA k (h3 k hk)⟩
theorem Ip.rd {α : Type} [Rep α] {A : Nat → Prop} {w : World} {vs : List Value} {x : α} (h : Ip A w vs x) : Rd w vs x := by
 obtain ⟨ps, h1, _⟩ := h; exact Rep.bP h1
theorem Ip.mono {α : Type} [Rep α] {A : Nat → Prop} {w w' : World} {vs : List Value} {x : α} (h : Ip A w vs x) (hb : Below w.heap.size w w') : Ip A w' vs x := by
 obtain ⟨ps, h1, h2, h3⟩ := h; exact ⟨ps, Own.mono h1 hb, h2, h3⟩
theorem Ip.frame {α : Type} [Rep α] {A : Nat → Prop} {w w' : World} {vs : List Value} {x : α} (h : Ip A w vs x) (hb : ∀ k, A k → k < w.heap.size → w'.heap[k]? = w.heap[k]?) : Ip A w' vs x := by
 obtain ⟨ps, h1, h2, h3⟩ := h; exact ⟨ps, Rep.dY (fun k hk => hb k (h3 k hk) (Rep.jK h1 k hk)) h1, h2, h3⟩
theorem vO {α β : Type} [Rep α] [Rep β] {A B C : Nat → Prop} {w : World} {v : Value} {vs : List Value} {x : α} {y : β} (h1 : Ip A w [v] x) (h2 : Ip B w vs y) (hd : ∀ k, A k → ¬ B k) (hA : ∀ k, A k → C k) (hB : ∀ k, B k → C k) : Ip C w (v :: vs) (x, y) := by
 obtain ⟨p, o1, n1, b1⟩ := h1
 obtain ⟨q, o2, n2, b2⟩ := h2
 refine ⟨p ++ q, ⟨p, q, [v], vs, rfl, rfl, o1, o2⟩, ?_, fun k hk => ?_⟩
 · rw [List.nodup_append]
   refine ⟨n1, n2, fun a ha b hb e => ?_⟩
   subst e
   exact hd a (b1 a ha) (b2 a hb)
 rcases List.mem_append.1 hk with hk | hk
 · exact hA k (b1 k hk)
 exact hB k (b2 k hk)
theorem vP {α : Type} [Rep α] {A : Nat → Prop} {w : World} {v : Value} {l : List α} (h : Ip A w [v] l) (hl : 0 < l.length) :
 ∃ g o c cur e, v = .slice (some ⟨g, o, none⟩) l.length c ∧ l.length ≤ c ∧ c ≤ maxLen ∧ w.heap[g]? = some (.cells cur e (0, 0)) ∧ A g ∧
  ∀ i (h : i < l.length), ∃ vs, Rd w vs l[i] ∧ ∀ k, k < sz α → w.cell? ⟨g, o + i * sz α + k, none⟩ = vs[k]? := by
 obtain ⟨ps, ⟨v', ev, ho⟩, hn, hb⟩ := h
 obtain rfl : v = v' := by simpa using ev
 rcases ho with ⟨rfl, _⟩ | ⟨g, o, c, cur, e, cZ, rfl, h1, h2, h3, rfl, h5, h6⟩
 · exact absurd hl (by simp)
 refine ⟨g, o, c, cur, e, rfl, h1, h2, h3, hb g (by simp), fun i hi => ?_⟩
 obtain ⟨p, vs, hp, hO, hc⟩ := h6 i hi
 have := Rep.dI (Rep.bP hO)
 exact ⟨vs, Rep.bP hO, fun k hk => by rw [aA h3]; exact hc k (by omega)⟩
theorem NZ {α : Type} [Rep α] {A B : Nat → Prop} {w : World} {g o n c : Nat} {l : List α} (h : Ip A w [.slice (some ⟨g, o, none⟩) n c] l) (j : Nat) (hj : j < l.length) {vs : List Value} {y : α} (hy : Ip B w vs y) (hAB : ∀ k, A k → ¬ B k) :
 Ip (fun k => A k ∨ B k) (putCells w g (o + j * sz α) vs) [.slice (some ⟨g, o, none⟩) n c] (l.set j y) := by
 obtain ⟨ps, ⟨v', e', ho⟩, hn, hb⟩ := h
 obtain ⟨p', Y7, hn', hb'⟩ := hy
 obtain rfl : Value.slice (some ⟨g, o, none⟩) n c = v' := by simpa using e'
 rcases ho with ⟨rfl, _⟩ | ⟨g', o', c', cur, e, cZ, hv, h1, h2, h3, rfl, h5, h6⟩
 · exact absurd hj (Nat.not_lt_zero _)
 simp only [Value.slice.injEq, Option.some.injEq, Addr.mk.injEq, and_true] at hv
 obtain ⟨⟨rfl, rfl⟩, rfl, rfl⟩ := hv
 have hg := hb g (by simp)
 have hvl := Rep.dI (Rep.bP Y7)
 have hjp : j < cZ.length := by omega
 have hsplit : cZ.set j p' = cZ.take j ++ p' :: cZ.drop (j + 1) := List.set_eq_take_append_cons_drop .. |>.trans (by rw [if_pos hjp])
 have hwhole : cZ = cZ.take j ++ cZ[j] :: cZ.drop (j + 1) := by
  conv => lhs; rw [← List.take_append_drop j cZ, List.drop_eq_getElem_cons hjp]
 have hmem : ∀ k, k ∈ List.flatten (cZ.take j) ∨ k ∈ List.flatten (cZ.drop (j + 1)) → A k := fun k hk => by
  refine hb k (List.mem_cons_of_mem _ ?_)
  rw [hwhole, List.flatten_append, List.flatten_cons]
  rcases hk with hk | hk <;> simp [hk]
 have hnd : (g :: List.flatten (cZ.set j p')).Nodup := by
  rw [hwhole, List.flatten_append, List.flatten_cons] at hn
  rw [hsplit, List.flatten_append, List.flatten_cons]
  simp only [List.nodup_cons, List.nodup_append, List.mem_append, not_or] at hn ⊢
  obtain ⟨⟨n1, _, n3⟩, n4, ⟨n5, n6, n7⟩, n8⟩ := hn
  refine ⟨⟨n1, fun hk => ?_, n3⟩, n4, ⟨hn', n6, fun a ha b hbb => ?_⟩, fun a ha b hbb => ?_⟩
  · exact hAB g hg (hb' g hk)
  · have h1 := hb' a ha
    have h2 := hmem b (.inr hbb)
    rintro rfl
    exact hAB a h2 h1
  rcases hbb with hbb | hbb
  · have h1 := hb' b hbb
    have h2 := hmem a (.inl ha)
    rintro rfl
    exact hAB a h2 h1
  exact n8 a ha b (.inr hbb)
 have hkeep : ∀ {β : Type} [Rep β] (p : List Nat) (us : List Value) (z : β), Own p w us z → g ∉ p → Own p (putCells w g (o + j * sz α) vs) us z := by
  intro β _ p us z hO Zb
  exact Own.only hO (fC g vs _ w) (fun k hk hkg => by obtain rfl : k = g := (by simpa using hkg); exact Zb hk)
 refine ⟨g :: List.flatten (cZ.set j p'), ⟨_, rfl, .inr ⟨g, o, c, _, e, cZ.set j p', by simp, by simpa using h1, h2, lG g e (0, 0) vs _ w cur h3, rfl, by simpa using h5, fun i hi => ?_⟩⟩, hnd, fun k hk => ?_⟩
 · simp only [List.length_set] at hi
   obtain ⟨p, us, hp, hO, hc⟩ := h6 i hi
   have Zc := Rep.dI (Rep.bP hO)
   by_cases hij : j = i
   · subst hij
     refine ⟨p', vs, by simp [hjp], ?_, fun k hk => ?_⟩
     · simp only [List.getElem_set_self]
       exact hkeep p' vs y Y7 (fun hk => hAB g hg (hb' g hk))
     refine oM vs _ k cur hk ?_
     have := hc k (by omega)
     rw [List.getElem?_eq_getElem (by omega)] at this
     exact (Array.getElem?_eq_some_iff.1 this).1
   refine ⟨p, us, by rw [List.getElem?_set_ne hij]; exact hp, ?_, fun k hk => ?_⟩
   · simp only [List.getElem_set_ne hij]
     refine hkeep p us _ hO (fun hk => ?_)
     exact (List.nodup_cons.1 hn).1 (List.mem_flatten.2 ⟨p, List.mem_of_getElem? hp, hk⟩)
   rw [jX]
   · exact hc k hk
   have hks : k < sz α := by omega
   rcases Nat.lt_or_gt_of_ne hij with hlt | hlt
   · right
     have : (j + 1) * sz α ≤ i * sz α := Nat.mul_le_mul_right _ hlt
     rw [Nat.add_mul] at this
     omega
   left
   have := Eb (s := sz α) hlt hks
   omega
 rcases List.mem_cons.1 hk with rfl | hk
 · exact .inl hg
 rw [hsplit, List.flatten_append, List.flatten_cons] at hk
 rcases List.mem_append.1 hk with hk | hk
 · exact .inl (hmem k (.inl hk))
 rcases List.mem_append.1 hk with hk | hk
 · exact .inr (hb' k hk)
 exact .inl (hmem k (.inr hk))
theorem WH {α : Type} [Rep α] {A : Nat → Prop} {w : World} {g o n c : Nat} {l : List α} (h : Ip A w [.slice (some ⟨g, o, none⟩) n c] l) (d : α) (i j : Nat) (hil : i < l.length) (hjl : j < l.length) {vi vj : List Value}
 (li : vi.length = sz α) (lj : vj.length = sz α) (ci : ∀ k, k < sz α → w.cell? ⟨g, o + i * sz α + k, none⟩ = vi[k]?) (cj : ∀ k, k < sz α → w.cell? ⟨g, o + j * sz α + k, none⟩ = vj[k]?) :
 Ip A (putCells (putCells w g (o + i * sz α) vj) g (o + j * sz α) vi) [.slice (some ⟨g, o, none⟩) n c] (fH d l i j) := by
 obtain ⟨ps, ⟨v', e', ho⟩, hn, hb⟩ := h
 obtain rfl : Value.slice (some ⟨g, o, none⟩) n c = v' := by simpa using e'
 rcases ho with ⟨rfl, _⟩ | ⟨g', o', c', cur, e, cZ, hv, h1, h2, h3, rfl, h5, h6⟩
 · exact absurd hil (Nat.not_lt_zero _)
 simp only [Value.slice.injEq, Option.some.injEq, Addr.mk.injEq, and_true] at hv
 obtain ⟨⟨rfl, rfl⟩, rfl, rfl⟩ := hv
 have Df : i < cZ.length := by omega
 have hjp : j < cZ.length := by omega
 obtain ⟨hnd, hdis⟩ := Kt (List.nodup_cons.1 hn).2
 have hgn := (List.nodup_cons.1 hn).1
 have hpm : ∀ k p, cZ[k]? = some p → g ∉ p := fun k p hp hg => hgn (List.mem_flatten.2 ⟨p, List.mem_of_getElem? hp, hg⟩)
 have ZH : ∀ k, ((cZ.set i cZ[j]).set j cZ[i])[k]? = cZ[sigma i j k]? := fun k => Qj cZ i j k Df hjp
 have hmem : ∀ k p, ((cZ.set i cZ[j]).set j cZ[i])[k]? = some p → ∃ k', cZ[k']? = some p := fun k p hp => ⟨_, by rw [← ZH]; exact hp⟩
 have ZI := (fC g vj (o + i * sz α) w).trans (fC g vi (o + j * sz α) _)
 have hheap : (putCells (putCells w g (o + i * sz α) vj) g (o + j * sz α) vi).heap[g]? = some (.cells (kQ (kQ cur (o + i * sz α) vj) (o + j * sz α) vi) e (0, 0)) :=
  lG g e (0, 0) vi _ _ _ (lG g e (0, 0) vj _ _ _ h3)
 have hown : ∀ k (hk : k < l.length), ∃ p us, cZ[k]? = some p ∧ Own p (putCells (putCells w g (o + i * sz α) vj) g (o + j * sz α) vi) us l[k] ∧ us.length = sz α ∧ ∀ z, z < sz α → cur[o + k * sz α + z]? = us[z]? := fun k hk => by
  obtain ⟨p, us, hp, hO, hc⟩ := h6 k hk
  have hl := Rep.dI (Rep.bP hO)
  exact ⟨p, us, hp, Own.only hO ZI (fun z hz hzg => by obtain rfl : z = g := (by simpa using hzg); exact hpm k p hp hz), hl, fun z hz => hc z (by omega)⟩
 have hi0 : ∀ z, z < sz α → cur[o + i * sz α + z]? = vi[z]? := fun z hz => by rw [← ci z hz, aA h3]
 have hj0 : ∀ z, z < sz α → cur[o + j * sz α + z]? = vj[z]? := fun z hz => by rw [← cj z hz, aA h3]
 have hlt : ∀ k, (∀ z, z < sz α → ∃ u, cur[o + k * sz α + z]? = some u) → ∀ z, z < sz α → o + k * sz α + z < cur.size := fun k h z hz => by
  obtain ⟨u, hu⟩ := h z hz; exact (Array.getElem?_eq_some_iff.1 hu).1
 have hsi := hlt i (fun z hz => ⟨vi[z]'(by omega), by rw [hi0 z hz, List.getElem?_eq_getElem]⟩)
 have hsj := hlt j (fun z hz => ⟨vj[z]'(by omega), by rw [hj0 z hz, List.getElem?_eq_getElem]⟩)
 have hsame : ∀ {us vs : List Value}, us.length = sz α → vs.length = sz α → (∀ z, z < sz α → us[z]? = vs[z]?) → us = vs := fun {us vs} h1 h2 h => by
  apply List.ext_getElem?
  intro z
  by_cases hz : z < sz α
  · exact h z hz
  · rw [List.getElem?_eq_none (by omega), List.getElem?_eq_none (by omega)]
 have hapart : ∀ {a b : Nat}, a ≠ b → ∀ z, z < sz α → o + a * sz α + z < o + b * sz α ∨ o + b * sz α + sz α ≤ o + a * sz α + z := fun {a b} hab z hz => by
  rcases Nat.lt_or_gt_of_ne hab with h | h
  · left
    have := Eb (s := sz α) h hz
    omega
  · right
    have : (b + 1) * sz α ≤ a * sz α := Nat.mul_le_mul_right _ h
    rw [Nat.add_mul] at this
    omega
 refine ⟨g :: List.flatten ((cZ.set i cZ[j]).set j cZ[i]), ⟨_, rfl, .inr ⟨g, o, c, _, e, _, by simp, by simpa using h1, h2, hheap, rfl, by simpa using h5, fun k hk => ?_⟩⟩, ?_, ?_⟩
 · simp only [tK] at hk
   have hks := ZE hil hjl hk
   obtain ⟨p, us, hp, hO, Zc, hc⟩ := hown (sigma i j k) hks
   have hlk : (fH d l i j)[k]'(by simpa using hk) = l[sigma i j k] := by
    have := Qj l i j k hil hjl
    rw [← ZF d l i j hil hjl, List.getElem?_eq_getElem (by simpa using hk), List.getElem?_eq_getElem hks] at this
    simpa using this
   refine ⟨p, us, by rw [ZH k]; exact hp, by rw [hlk]; exact hO, fun z hz => ?_⟩
   rw [Zc] at hz
   by_cases hkj : k = j
   · subst hkj
     have e1 : sigma i k k = i := by simp [sigma]
     rw [e1] at hc
     have : us = vi := hsame Zc li (fun z hz => by rw [← hc z hz, hi0 z hz])
     subst this
     exact oM us _ z _ (by omega) (by rw [ER]; exact hsj z hz)
   by_cases hki : k = i
   · subst hki
     have e1 : sigma k j k = j := by simp [sigma, hkj]
     rw [e1] at hc
     have : us = vj := hsame Zc lj (fun z hz => by rw [← hc z hz, hj0 z hz])
     subst this
     rw [jX vi _ _ _ (by rw [li]; exact hapart hkj z hz)]
     exact oM us _ z _ (by omega) (hsi z hz)
   have e1 : sigma i j k = k := by simp [sigma, hkj, hki]
   rw [e1] at hc
   rw [jX vi _ _ _ (by rw [li]; exact hapart hkj z hz), jX vj _ _ _ (by rw [lj]; exact hapart hki z hz)]
   exact hc z hz
 · rw [List.nodup_cons]
   refine ⟨fun hg => ?_, Bg (fun k p hp => ?_) (fun a b p q hab hp hq => ?_)⟩
   · obtain ⟨p, hp, Zb⟩ := List.mem_flatten.1 hg
     obtain ⟨k, hk⟩ := List.mem_iff_getElem?.1 hp
     obtain ⟨k', hk'⟩ := hmem k p hk
     exact hpm k' p hk' Zb
   · rw [ZH k] at hp; exact hnd _ _ hp
   rw [ZH a] at hp; rw [ZH b] at hq
   exact hdis _ _ _ _ (fun e => hab (X5 e)) hp hq
 intro x hx
 rcases List.mem_cons.1 hx with rfl | hx
 · exact hb _ (by simp)
 obtain ⟨p, hp, hxp⟩ := List.mem_flatten.1 hx
 obtain ⟨k, hk⟩ := List.mem_iff_getElem?.1 hp
 obtain ⟨k', hk'⟩ := hmem k p hk
 exact hb x (List.mem_cons_of_mem _ (List.mem_flatten.2 ⟨p, List.mem_of_getElem? hk', hxp⟩))
theorem mJ {α : Type} [Rep α] (w : World) (e : TypeId) : Acc w.heap.size (w.heap.size + 1) e (w.alloc (.cells #[] e)) (.slice (some ⟨w.heap.size, 0, none⟩) 0 0) ([] : List α) := by
 have h := World.ownsRow_made (e := e) (size := sz α) w #[] 0 (Nat.le_refl _) (Nat.zero_le _) (by simp)
 exact ⟨[], [], h, rfl, by simp [Value.ownBlock], by simp [Value.ownBlock], fun i h => absurd h (Nat.not_lt_zero _)⟩
theorem Ij {P : Program} (w : World) {o : Oper} {a : Act} {K : Act → World → Prop} {Q : Exit → Act → World → Prop} (s x : Operand) (t : TypeId)
 (ho : o.op = .call { callee := .builtin .append, args := #[s, x], argTypes := #[t, t] }) {e : TypeId} {z : Value} {bytes : Nat} (E : iK P t e Int z bytes) {g n0 c0 : Nat} {l : List Int} {y : Int}
 (hs : a.eval s = .slice (some ⟨g, 0, none⟩) n0 c0) (hacc : Acc g (g + 1) e w (.slice (some ⟨g, 0, none⟩) n0 c0) l) (hg : g + 1 ≤ w.heap.size) (hy : I64 y)
 (ad : Addr) (c : Nat) (hx : a.eval x = .slice (some ad) 1 c) (hnew : w.cell? (ad.add 0) = some (.int .i64 y)) (hlen : l.length + 1 ≤ 1073741824)
 (h : ∀ g' c' w', (g' = g ∨ g' = w.heap.size) → Acc g' (g' + 1) e w' (.slice (some ⟨g', 0, none⟩) (l.length + 1) c') (l ++ [y]) → But [g] w w' → g' < w'.heap.size → K (a.put o.dst (.slice (some ⟨g', 0, none⟩) (l.length + 1) c')) w') : o.wp P a w K Q := by
 obtain ⟨i, hi, hz, hsz, hb⟩ := E.info
 obtain ⟨h1, h4, hIl⟩ := tu hacc
 have hbytes : (l.length + 1) * bytes ≤ 140737488355328 := by
  have h1 := E.small
  calc (l.length + 1) * bytes ≤ 1073741824 * 1000 := Nat.mul_le_mul hlen h1
   _ ≤ _ := by decide
 have hm : l.length + 1 ≤ maxLen := by unfold maxLen; omega
 obtain ⟨v', w', hr, hown, hgr, hnil, hat⟩ := run_append_own_at (P := P) w g t o.type e i z (sz Int) bytes E.und hi hz hsz hb E.zs E.pos _ l.length (iM l) h1 ad 1 c [.int .i64 y] (by simp) (by intro j u hu; cases j with
  | zero => simp at hu; subst hu; exact hnew
  | succ j => simp at hu) (by intro u hu; simp at hu; subst hu; rfl) hm hbytes (by omega)
 have hown' : w'.ownsRow g e 1 v' (l.length + 1) (iM (l ++ [y])) := by simpa [iM] using hown
 have hI' : ∀ a, a ∈ l ++ [y] → I64 a := fun a ha => by
  rcases List.mem_append.1 ha with ha | ha
  · exact hIl a ha
  · obtain rfl : a = y := by simpa using ha
    exact hy
 have hob : (Value.slice (some ⟨g, 0, none⟩) n0 c0).ownBlock = some g := rfl
 rcases hown'.2 with ⟨rfl, h0⟩ | ⟨g', cap, cur, rfl, hg', hh', hc', hm', hs', ht'⟩
 · omega
 have hgg : g' = g ∨ g' = w.heap.size := by
  rcases hat with h | h
  · rw [hob] at h
    exact .inl (by simpa [Value.ownBlock] using h)
  exact .inr (by simpa [Value.ownBlock] using h)
 have hlt : g' < w'.heap.size := (Array.getElem?_eq_some_iff.1 hh').1
 have hA : Acc g' (g' + 1) e w' (.slice (some ⟨g', 0, none⟩) (l.length + 1) cap) (l ++ [y]) := by
  refine rJ ?_ (fun k hk => by simp [Value.ownBlock] at hk; omega) hI'
  simp only [List.length_append, List.length_cons, List.length_nil, Nat.zero_add]
  exact ⟨hown'.1, .inr ⟨g', cap, cur, rfl, Nat.le_refl _, hh', hc', hm', hs', ht'⟩⟩
 have Em : But [g] w w' := ⟨hgr.os, hgr.tape, hgr.output, hgr.size, fun k hk hp => hgr.block k hk (fun e => by rw [hob] at e; simp at e; exact hp (by simp [e]))⟩
 unfold Oper.wp execOp
 simp only [ho, resolve, invoke, builtin, Sem.run_bind, Sem.run_pure, Result.andThen_ok, List.map_toArray, List.map_cons, List.map_nil, hs, hx, hr]
 exact h g' cap w' hgg hA Em hlt
theorem St.low {w : World} {B B' : Nat} {wr : World} {bx bx' : List (Nat × Array Value × TypeId)} (h : St w B wr bx) (h1 : w.heap.size ≤ B') (h2 : B' ≤ B) (hs : ∀ x, x ∈ bx' → x ∈ bx ∧ x.1 < B') : St w B' wr bx' :=
 ⟨h.bel, h1, Nat.le_trans h2 h.hi, fun x hx => ⟨(h.box x (hs x hx).1).1, (hs x hx).2, (h.box x (hs x hx).1).2.2⟩⟩
structure zL (p : Int) (u : Nat) (rows : List dF) (bs : List Int) : Prop where
 le : bs.length ≤ rows.length
 bnd : ∀ (j : Nat) (b : Int), bs[j]? = some b → 0 ≤ b ∧ b < u
 col : ∀ (i : Nat) (r : dF) (j : Nat) (b : Int), rows[i]? = some r → bs[j]? = some b → r.1.getD b.toNat 0 = if i = j then 1 else 0
 low : ∀ (i : Nat) (r : dF), rows[i]? = some r → bs.length ≤ i → ∀ c, c < u → r.1.getD c 0 = 0
 lead : ∀ (i : Nat) (r : dF) (b : Int), rows[i]? = some r → bs[i]? = some b → ∀ c : Nat, (c : Int) < b → r.1.getD c 0 = 0
theorem Dh (f : Int → Int → Int) (l m : List Int) (c : Nat) (h1 : c < l.length) (h2 : c < m.length) : (List.zipWith f l m).getD c 0 = f (l.getD c 0) (m.getD c 0) := by
 simp [List.getD, List.getElem?_zipWith, h1, h2]
theorem uH {p : Int} {l : List Int} (h : wz p l) (c : Nat) (hc : c < l.length) : 0 ≤ l.getD c 0 ∧ l.getD c 0 < p := by
 have := h.get c hc
 simpa [List.getD, hc] using this
theorem Qk {p : Int} {U n : Nat} {r x : dF} (hr : GoodS p U n r) (hx : GoodS p U n x) (k : Int) (c : Nat) (hc : c < U) : ((bJ p).less r x k).1.getD c 0 = (r.1.getD c 0 - k * x.1.getD c 0) % p := by
 show (if _ then _ else _ : dF).1.getD c 0 = _
 split
 · rename_i h
   subst h
   have := uH hr.res c (by rw [hr.len]; exact hc)
   rw [Int.zero_mul, Int.sub_zero, Int.emod_eq_of_lt this.1 this.2]
 exact Dh _ _ _ c (by rw [hr.len]; exact hc) (by rw [hx.len]; exact hc)
theorem Ll {p : Int} {U n : Nat} {r : dF} (hr : GoodS p U n r) (k : Int) (c : Nat) (hc : c < U) : ((bJ p).scale r k).1.getD c 0 = r.1.getD c 0 * k % p :=
 Dh _ _ _ c (by rw [hr.len]; exact hc) (by rw [hr.len]; exact hc)
theorem ZJ {p n : Int} (hp : p = 2 ∨ p = 3) (h0 : 0 ≤ n) (h1 : n < p) (hn : n ≠ 0) : n * n % p = 1 := by
 rcases hp with rfl | rfl
 · obtain rfl : n = 1 := by omega
   rfl
 have : n = 1 ∨ n = 2 := by omega
 rcases this with rfl | rfl <;> rfl
theorem X6 {p : Int} {U n : Nat} (hp : p = 2 ∨ p = 3) {u : Nat} (hu : u < U) {rows : List dF} {bs : List Int} (hg : qI p U n rows) (h : zL p u rows bs) :
 zL p (u + 1) (jV (bJ p) u (rows, bs)).1 (jV (bJ p) u (rows, bs)).2 := by
 have hp0 : 0 < p := by omega
 unfold jV
 simp only
 split
 · rename_i hk
   rw [List.findIdx?_eq_none_iff] at hk
   refine ⟨h.le, fun j b hb => ?_, h.col, fun i r hr hi c hc => ?_, h.lead⟩
   · have := h.bnd j b hb; omega
   have hi0 : bs.length ≤ i := hi
   by_cases hcu : c = u
   · subst hcu
     have hm : r ∈ rows.drop bs.length := by
      refine List.mem_iff_getElem?.2 ⟨i - bs.length, ?_⟩
      rw [List.getElem?_drop, show bs.length + (i - bs.length) = i by omega]; exact hr
     have := hk r hm
     simp only [bne_eq_false_iff_eq] at this
     exact this
   exact h.low i r hr (show bs.length ≤ i from hi) c (by omega)
 rename_i k hk
 rw [List.findIdx?_eq_some_iff_getElem] at hk
 obtain ⟨hk1, hk2, _⟩ := hk
 simp only [List.length_drop] at hk1
 simp only [List.getElem_drop, bne_iff_ne, ne_eq] at hk2
 have hd : bs.length < rows.length := by omega
 have hdk : bs.length + k < rows.length := by omega
 simp only
 unfold wF
 simp only
 rw [Gz _ _ _ _ hd hdk]
 have e0 : rows.getD (bs.length + k) (bJ p).dflt = rows[bs.length + k] := by simp [List.getD, hdk]
 rw [e0]
 have hg0 : GoodS p U n rows[bs.length + k] := hg _ (List.getElem_mem hdk)
 have hlow0 := h.low (bs.length + k) rows[bs.length + k] (List.getElem?_eq_getElem hdk) (by omega)
 generalize rows[bs.length + k] = x0 at *
 have ZK := uH hg0.res u (by rw [hg0.len]; exact hu)
 have hn : (bJ p).get x0 u = x0.1.getD u 0 := rfl
 rw [hn] at hk2 ⊢
 have hgx : GoodS p U n ((bJ p).scale x0 (x0.1.getD u 0)) := rQ hp0 _ hg0
 have hxu : ((bJ p).scale x0 (x0.1.getD u 0)).1.getD u 0 = 1 := by
  rw [Ll hg0 _ _ hu]; exact ZJ hp ZK.1 ZK.2 hk2
 have hxc : ∀ c, c < u → ((bJ p).scale x0 (x0.1.getD u 0)).1.getD c 0 = 0 := fun c hc => by
  rw [Ll hg0 _ _ (by omega), hlow0 c hc]; simp
 generalize (bJ p).scale x0 (x0.1.getD u 0) = x at *
 -- each row that is left
 have key : ∀ i r, ((fH (bJ p).dflt rows bs.length (bs.length + k)).set bs.length x |>.mapIdx (dh (bJ p) u bs.length x))[i]? = some r →
  (i = bs.length ∧ r = x) ∨ (i ≠ bs.length ∧ ∃ q, (rows[i]? = some q ∨ (bs.length < i ∧ rows[bs.length]? = some q)) ∧ (∀ c, c < u → r.1.getD c 0 = q.1.getD c 0) ∧ r.1.getD u 0 = 0) := by
  intro i r hr
  rw [List.getElem?_mapIdx, Option.map_eq_some_iff] at hr
  obtain ⟨q, hq, rfl⟩ := hr
  by_cases hi : i = bs.length
  · left
    subst hi
    rw [List.getElem?_set_self (by simpa using hd)] at hq
    simp only [Option.some.injEq] at hq
    exact ⟨rfl, by unfold dh; rw [if_pos rfl]; exact hq.symm⟩
  · right
    refine ⟨hi, q, ?_, ?_⟩
    · rw [List.getElem?_set_ne (Ne.symm hi)] at hq
      unfold fH at hq
      by_cases hik : bs.length + k = i
      · subst hik
        rw [List.getElem?_set_self (by simpa using hdk)] at hq
        right
        refine ⟨by omega, ?_⟩
        rw [List.getElem?_eq_getElem hd]
        simpa [List.getD, hd] using hq
      · rw [List.getElem?_set_ne hik, List.getElem?_set_ne (Ne.symm hi)] at hq
        exact .inl hq
    · have hgq : GoodS p U n q := wX (wY hg (bJ p).dflt bs.length (bs.length + k) hd hdk) bs.length hgx q (List.mem_of_getElem? hq)
      unfold dh
      rw [if_neg hi]
      refine ⟨fun c hc => ?_, ?_⟩
      · rw [Qk hgq hgx _ _ (by omega), hxc c hc, Int.mul_zero, Int.sub_zero]
        have := uH hgq.res c (by rw [hgq.len]; omega)
        exact Int.emod_eq_of_lt this.1 this.2
      · rw [Qk hgq hgx _ _ hu, hxu, Int.mul_one]
        show (q.1.getD u 0 - q.1.getD u 0) % p = 0
        rw [Int.sub_self]; exact Int.zero_emod _
 have WI : ∀ j b, (bs ++ [(u : Int)])[j]? = some b → (j < bs.length ∧ bs[j]? = some b) ∨ (j = bs.length ∧ b = u) := by
  intro j b hb
  by_cases hj : j < bs.length
  · rw [List.getElem?_append_left hj] at hb; exact .inl ⟨hj, hb⟩
  rw [List.getElem?_append_right (by omega)] at hb
  have hj0 : j - bs.length = 0 := by
   have := (List.getElem?_eq_some_iff.1 hb).1; simp at this; omega
  rw [hj0] at hb
  simp at hb
  exact .inr ⟨by omega, hb.symm⟩
 refine ⟨by simp; omega, fun j b hb => ?_, fun i r j b hr hb => ?_, fun i r hr hi c hc => ?_, fun i r b hr hb c hc => ?_⟩
 · rcases WI j b hb with ⟨_, h1⟩ | ⟨_, h1⟩
   · have := h.bnd j b h1; omega
   omega
 · rcases key i r hr with ⟨h1, h2⟩ | ⟨h1, q, h2, h3, h4⟩
   · subst h2
     rcases WI j b hb with ⟨h5, h6⟩ | ⟨h5, h6⟩
     · have hb' := h.bnd j b h6
       rw [if_neg (by omega), hxc _ (by omega)]
     rw [if_pos (by omega), h6, Int.toNat_natCast, hxu]
   rcases WI j b hb with ⟨h5, h6⟩ | ⟨h5, h6⟩
   · have hb' := h.bnd j b h6
     rw [h3 _ (by omega)]
     rcases h2 with h2 | ⟨h7, h2⟩
     · exact h.col i q j b h2 h6
     rw [if_neg (by omega)]
     exact h.low _ q h2 (Nat.le_refl _) _ (by omega)
   rw [if_neg (by omega), h6, Int.toNat_natCast, h4]
 · simp only [List.length_append, List.length_cons, List.length_nil] at hi
   rcases key i r hr with ⟨h1, h2⟩ | ⟨h1, q, h2, h3, h4⟩
   · omega
   by_cases hcu : c = u
   · rw [hcu]; exact h4
   rw [h3 c (by omega)]
   rcases h2 with h2 | ⟨h7, h2⟩
   · exact h.low i q h2 (by omega) c (by omega)
   exact h.low _ q h2 (Nat.le_refl _) c (by omega)
 rcases WI i b hb with ⟨h5, h6⟩ | ⟨h5, h6⟩
 · have hb' := h.bnd i b h6
   rcases key i r hr with ⟨h1, h2⟩ | ⟨h1, q, h2, h3, h4⟩
   · omega
   rw [h3 c (by omega)]
   rcases h2 with h2 | ⟨h7, h2⟩
   · exact h.lead i q b h2 h6 c hc
   omega
 rcases key i r hr with ⟨h1, h2⟩ | ⟨h1, _⟩
 · subst h2; exact hxc c (by omega)
 omega
theorem wZ {p : Int} {U n : Nat} (hp : p = 2 ∨ p = 3) {rows : List dF} (hg : qI p U n rows) : ∀ u, u ≤ U → zL p u (dK (bJ p) rows u).1 (dK (bJ p) rows u).2
 | 0, _ => by
  show zL p 0 rows []
  exact { le := Nat.zero_le _, bnd := fun j b hb => by simp at hb, col := fun i r j b _ hb => by simp at hb, low := fun i r _ _ c hc => by omega, lead := fun i r b _ hb => by simp at hb }
 | u + 1, hu => by
  have := wZ hp hg u (by omega)
  exact X6 hp (by omega) (qJ (by omega) hg u) this
def iI (rows : List dF) (done : Nat) : Int := match (rows.drop done).findIdx? (fun r => r.2.1 != 0) with | some k => ((done + k : Nat) : Int) | none => -1
def jY (r : pR) : Bool := Ld r.1 && zK r.1 != 0
theorem vS (r : dF) : jY (flat r) = (r.1.all (fun a => a == 0) && r.2.1 != 0) := by
 simp [jY, Ld, zK, flat, List.getD]
theorem N7 {α : Type} (q : α → Bool) (l : List α) (d : Nat) (hd : d ≤ l.length) (h0 : ∀ r, r ∈ l.take d → q r = false) : l.findIdx? q = ((l.drop d).findIdx? q).map (fun i => d + i) := by
 conv => lhs; rw [← List.take_append_drop d l]
 rw [List.findIdx?_append, List.findIdx?_eq_none_iff.2 h0]
 simp only [Option.none_or, List.length_take, Nat.min_eq_left hd]
 congr 1
 funext i
 omega
theorem TP {p : Int} {U n : Nat} {rows : List dF} {bs : List Int} (hg : qI p U n rows) (h : zL p U rows bs) :
 (match (rows.map flat).findIdx? jY with | some i => (i : Int) | none => -1) = iI rows bs.length := by
 rw [List.findIdx?_map, N7 _ rows bs.length h.le]
 · have : ∀ l : List dF, (∀ r, r ∈ l → r.1.all (fun a => a == 0) = true) → l.findIdx? (jY ∘ flat) = l.findIdx? (fun r => r.2.1 != 0) := by
    intro l hl
    induction l with
    | nil => rfl
    | cons r rs ih =>
     have ih' := ih (fun x hx => hl x (List.mem_cons_of_mem _ hx))
     simp only [Function.comp_def] at ih' ⊢
     simp only [List.findIdx?_cons, vS, hl r (List.mem_cons_self ..), Bool.true_and]
     simp only [vS] at ih'
     rw [ih']
   rw [this]
   · unfold iI
     cases (rows.drop bs.length).findIdx? (fun r => r.2.1 != 0) <;> rfl
   intro r hr
   obtain ⟨i, hi⟩ := List.mem_iff_getElem?.1 hr
   rw [List.getElem?_drop] at hi
   rw [List.all_eq_true]
   intro a ha
   obtain ⟨c, hc, rfl⟩ := List.getElem_of_mem ha
   have hU := (hg r (List.mem_of_mem_drop hr)).len
   have := h.low _ r hi (by omega) c (by omega)
   simpa [List.getD, hc] using this
 intro r hr
 obtain ⟨i, hi, rfl⟩ := List.getElem_of_mem hr
 simp only [List.length_take] at hi
 rw [List.getElem_take]
 have hir : i < rows.length := by omega
 have hib : i < bs.length := by omega
 have hb := h.bnd i _ (List.getElem?_eq_getElem hib)
 have hc := h.col i _ i _ (List.getElem?_eq_getElem hir) (List.getElem?_eq_getElem hib)
 rw [if_pos rfl] at hc
 simp only [Function.comp, vS, Bool.and_eq_false_iff]
 left
 have hU := (hg rows[i] (List.getElem_mem hir)).len
 have hlt : bs[i].toNat < rows[i].1.length := by omega
 simp only [List.getD, List.getElem?_eq_getElem hlt, Option.getD_some] at hc
 exact List.all_eq_false.2 ⟨_, List.getElem_mem hlt, by rw [hc]; decide⟩
def jd (n : Nat) : Nat → List (List Int × Int) → List dF
 | _, [] => []
 | i, e :: es => (e.1, e.2, (List.replicate n 0).set i 1) :: jd n (i + 1) es
def iO (n : Nat) : Nat → List (List Int × Int) → List pR
 | _, [] => []
 | i, e :: es => (e.1 ++ [e.2], (List.replicate n 0).set i 1) :: iO n (i + 1) es
theorem Lm (n : Nat) : ∀ (es : List (List Int × Int)) (i : Nat), (jd n i es).map flat = iO n i es
 | [], _ => rfl
 | e :: es, i => by simp only [jd, iO, List.map_cons, Lm n es (i + 1)]; rfl
theorem Ik {p : Int} {U n : Nat} (hp : 2 ≤ p) : ∀ (es : List (List Int × Int)) (i : Nat), (∀ e, e ∈ es → e.1.length = U ∧ wz p e.1 ∧ 0 ≤ e.2 ∧ e.2 < p) → qI p U n (jd n i es)
 | [], _, _ => fun r hr => by cases hr
 | e :: es, i, h => fun r hr => by
  rcases List.mem_cons.1 hr with rfl | hr
  · have he := h e (List.mem_cons_self ..)
    refine ⟨he.1, by simp, he.2.1, he.2.2, fun a ha => ?_⟩
    rcases List.mem_or_eq_of_mem_set ha with h1 | h1
    · have := List.eq_of_mem_replicate h1; omega
    · omega
  · exact Ik hp es (i + 1) (fun x hx => h x (List.mem_cons_of_mem _ hx)) r hr
theorem nJ (n : Nat) : ∀ (es : List (List Int × Int)) (i : Nat), (jd n i es).length = es.length
 | [], _ => rfl
 | e :: es, i => by simp [jd, nJ n es]
theorem yC (n : Nat) : ∀ (es : List (List Int × Int)) (i : Nat), (iO n i es).length = es.length
 | [], _ => rfl
 | e :: es, i => by simp [iO, yC n es]
theorem Il (n : Nat) : ∀ (es : List (List Int × Int)) (i : Nat) (e : List Int × Int), iO n i (es ++ [e]) = iO n i es ++ [(e.1 ++ [e.2], (List.replicate n 0).set (i + es.length) 1)]
 | [], _, _ => rfl
 | x :: es, i, e => by simp only [List.cons_append, iO, Il n es, List.length_cons]; rw [show i + 1 + es.length = i + (es.length + 1) by omega]
theorem Io (n : Nat) : ∀ (es : List (List Int × Int)) (i : Nat) (e : List Int × Int), jd n i (es ++ [e]) = jd n i es ++ [(e.1, e.2, (List.replicate n 0).set (i + es.length) 1)]
 | [], _, _ => rfl
 | x :: es, i, e => by simp only [List.cons_append, jd, Io n es, List.length_cons]; rw [show i + 1 + es.length = i + (es.length + 1) by omega]
open Go.Shelf
def dN {α : Type} (q : α → Bool) (l : List α) : Int := match l.findIdx? q with | some i => (i : Int) | none => -1
theorem nK {α : Type} {q : α → Bool} {l : List α} {k : Nat} (h : k < l.length) (h0 : ∀ j (hj : j < l.length), j < k → q l[j] = false) (h1 : q l[k] = true) : dN q l = k := by
 have : l.findIdx? q = some k := by
  rw [List.findIdx?_eq_some_iff_getElem]
  exact ⟨h, h1, fun j hj => by simpa using h0 j (by omega) hj⟩
 unfold dN; rw [this]
theorem nM {α : Type} {q : α → Bool} {l : List α} (h0 : ∀ j (hj : j < l.length), j < l.length → q l[j] = false) : dN q l = -1 := by
 have : l.findIdx? q = none := by
  rw [List.findIdx?_eq_none_iff]
  intro x hx
  obtain ⟨j, hj, rfl⟩ := List.getElem_of_mem hx
  exact h0 j hj hj
 unfold dN; rw [this]
theorem oG {α : Type} (q : α → Bool) (l : List α) : decide (0 ≤ dN q l) = l.any q := by
 unfold dN
 cases h : l.findIdx? q with
 | none =>
  rw [List.findIdx?_eq_none_iff] at h
  simp
  exact h
 | some i =>
  rw [List.findIdx?_eq_some_iff_getElem] at h
  obtain ⟨h1, h2, _⟩ := h
  simp
  exact ⟨_, List.getElem_mem h1, h2⟩
theorem qK {α : Type} (q : α → Bool) (l : List α) : -1 ≤ dN q l := by unfold dN; split <;> omega
def WJ (g : Nat) (cb : Array Value) (w : World) (l : List Int) (q : Int → Bool) : Prop :=
 ∀ (W : World) (x : Int) (u0 : Value), Below w.heap.size w W → Rd W [u0] x → x ∈ l → Calls prog g (#[u0] ++ cb) W fun e w' => e = .returned (.bool (q x)) ∧ Below W.heap.size W w'
def ZL (g : Nat) (cb : Array Value) (w : World) (l : List nG) (q : nG → Bool) : Prop :=
 ∀ (W : World) (x : nG) (u0 u1 : Value), Below w.heap.size w W → Rd W [u0, u1] x → x ∈ l → Calls prog g (#[.agg #[u0, u1]] ++ cb) W fun e w' => e = .returned (.bool (q x)) ∧ Below W.heap.size W w'
theorem Ql (l : List Int) (v : Value) (g : Nat) (cb : Array Value) (q : Int → Bool) (w : World) (r : Rd w [v] l)
 (eg : ∀ args w, (callFunc g args).run prog w = .ok (.enter g args) w) (hby : WJ g cb w l q) :
 Calls prog 127 #[v, .func (.func g) #[] cb] w fun e w' => e = .returned (.int .i64 (dN q l)) ∧ Below w.heap.size w w' := by
 obtain ⟨a, c, rfl, h⟩ := ah r
 clear r
 have hb := (aN h).2
 unfold maxLen at hb
 generalize hn : l.length = n at *
 have HN := qH hn
 have HH := qH h
 have CO := qH hby
 clear hn h hby
 go_enter func127, ntmps127
 go_wp2_with fail
 go_loopw [8] (fun i wr => ∃ k : Nat, k ≤ n ∧ i = .int .i64 k ∧ Hid (Below w.heap.size w wr) ∧ Hid (∀ j (hj : j < l.length), j < k → q l[j] = false)) (fun i _ => n - (intOf i).toNat)
 case atStart => exact ⟨0, Nat.zero_le _, rfl, Below.refl _ _, fun j _ hj => absurd hj (Nat.not_lt_zero _)⟩
 obtain ⟨k, hk, rfl, hbl, hr⟩ := hrel
 by_cases hlt : k < n
 rotate_left
 · obtain rfl : k = n := by omega
   go_wp2_with fail
   go_ret
   refine ⟨aU ?_, hbl.out⟩
   rw [nM (fun j hj _ => hr.out j hj (by have := HN.out; omega))]
 have k1 : k < l.length := by rw [HN.out]; exact hlt
 obtain ⟨b, o, u0, rfl, q0, hx⟩ := bF rfl (aS hbl.out HH.out) k k1
 have HX := qH hx
 clear hx
 go_wp2_with fail
 go_at_fn g
 refine (CO.out _ l[k] _ hbl.out HX.out (List.getElem_mem k1)).mono ?_
 rintro e w1 ⟨rfl, hb1⟩
 cases hq : q l[k]
 rotate_left
 · have HQ := qH hq
   clear hq
   go_wp2_with fail
   go_ret
   exact ⟨aU (nK k1 (fun j hj h => hr.out j hj h) HQ.out).symm, hbl.out.trans (hb1.mono hbl.out.size)⟩
 have HQ := qH hq
 clear hq
 go_wp2_with fail
 go_roundw
 case rel =>
  refine ⟨k + 1, by omega, by go_num, hbl.out.trans (hb1.mono hbl.out.size), ?_⟩
  intro j hj hjk
  rcases Nat.lt_or_ge j k with h | h
  · exact hr.out j hj h
  obtain rfl : j = k := by omega
  exact HQ.out
 simp [intOf]; omega
theorem Qm (l : List nG) (v : Value) (g : Nat) (cb : Array Value) (q : nG → Bool) (w : World) (r : Rd w [v] l)
 (eg : ∀ args w, (callFunc g args).run prog w = .ok (.enter g args) w) (hby : ZL g cb w l q) :
 Calls prog 327 #[v, .func (.func g) #[] cb] w fun e w' => e = .returned (.int .i64 (dN q l)) ∧ Below w.heap.size w w' := by
 obtain ⟨a, c, rfl, h⟩ := ah r
 clear r
 have hb := (aN h).2
 unfold maxLen at hb
 generalize hn : l.length = n at *
 have HN := qH hn
 have HH := qH h
 have CO := qH hby
 clear hn h hby
 go_enter func327, ntmps327
 go_wp2_with fail
 go_loopw [8] (fun i wr => ∃ k : Nat, k ≤ n ∧ i = .int .i64 k ∧ Hid (Below w.heap.size w wr) ∧ Hid (∀ j (hj : j < l.length), j < k → q l[j] = false)) (fun i _ => n - (intOf i).toNat)
 case atStart => exact ⟨0, Nat.zero_le _, rfl, Below.refl _ _, fun j _ hj => absurd hj (Nat.not_lt_zero _)⟩
 obtain ⟨k, hk, rfl, hbl, hr⟩ := hrel
 by_cases hlt : k < n
 rotate_left
 · obtain rfl : k = n := by omega
   go_wp2_with fail
   go_ret
   refine ⟨aU ?_, hbl.out⟩
   rw [nM (fun j hj _ => hr.out j hj (by have := HN.out; omega))]
 have k1 : k < l.length := by rw [HN.out]; exact hlt
 obtain ⟨b, o, u0, u1, rfl, q0, q1, hx⟩ := dP rfl (aS hbl.out HH.out) k k1
 have HX := qH hx
 clear hx
 go_wp2_with fail
 go_at_fn g
 refine (CO.out _ l[k] _ _ hbl.out HX.out (List.getElem_mem k1)).mono ?_
 rintro e w1 ⟨rfl, hb1⟩
 cases hq : q l[k]
 rotate_left
 · have HQ := qH hq
   clear hq
   go_wp2_with fail
   go_ret
   exact ⟨aU (nK k1 (fun j hj h => hr.out j hj h) HQ.out).symm, hbl.out.trans (hb1.mono hbl.out.size)⟩
 have HQ := qH hq
 clear hq
 go_wp2_with fail
 go_roundw
 case rel =>
  refine ⟨k + 1, by omega, by go_num, hbl.out.trans (hb1.mono hbl.out.size), ?_⟩
  intro j hj hjk
  rcases Nat.lt_or_ge j k with h | h
  · exact hr.out j hj h
  obtain rfl : j = k := by omega
  exact HQ.out
 simp [intOf]; omega
theorem zN (l : List Int) (v : Value) (g : Nat) (cb : Array Value) (q : Int → Bool) (w : World) (r : Rd w [v] l)
 (eg : ∀ args w, (callFunc g args).run prog w = .ok (.enter g args) w) (hby : WJ g cb w l q) :
 Calls prog 256 #[v, .func (.func g) #[] cb] w fun e w' => e = .returned (.bool (l.any q)) ∧ Below w.heap.size w w' := by
 obtain ⟨a, c, rfl, _⟩ := ah r
 have HR := qH r
 have CO := qH hby
 clear r hby
 go_enter func256, ntmps256
 go_wp2_with fail
 refine (Ql l _ g cb q _ HR.out eg CO.out).mono ?_
 rintro e w1 ⟨rfl, hb1⟩
 have hlo := qK q l
 go_wp2_with fail
 go_ret
 exact ⟨ak (oG q l), hb1⟩
theorem Iq (l : List nG) (v : Value) (g : Nat) (cb : Array Value) (q : nG → Bool) (w : World) (r : Rd w [v] l)
 (eg : ∀ args w, (callFunc g args).run prog w = .ok (.enter g args) w) (hby : ZL g cb w l q) :
 Calls prog 279 #[v, .func (.func g) #[] cb] w fun e w' => e = .returned (.bool (l.any q)) ∧ Below w.heap.size w w' := by
 obtain ⟨a, c, rfl, _⟩ := ah r
 have HR := qH r
 have CO := qH hby
 clear r hby
 go_enter func279, ntmps279
 go_wp2_with fail
 refine (Qm l _ g cb q _ HR.out eg CO.out).mono ?_
 rintro e w1 ⟨rfl, hb1⟩
 have hlo := qK q l
 go_wp2_with fail
 go_ret
 exact ⟨ak (oG q l), hb1⟩
theorem TQ (l : List Int) (v : Value) (w : World) (r : Rd w [v] l) :
 Calls prog 156 #[v] w fun e w' => e = .returned (.int .i64 (dN (fun a => a != 0) l)) ∧ w = w' := by
 obtain ⟨a, c, rfl, h⟩ := ah r
 have hb := (aN h).2
 unfold maxLen at hb
 have HR := qH h
 clear r h
 go_enter func156, ntmps156
 go_wp2_with fail
 go_loopw [3] (fun i wr => ∃ k : Nat, k ≤ l.length ∧ i = .int .i64 k ∧ wr = w ∧ Hid (∀ j (hj : j < l.length), j < k → (l[j] != 0) = false)) (fun i _ => l.length - (intOf i).toNat)
 case atStart => exact ⟨0, Nat.zero_le _, rfl, rfl, fun j _ hj => absurd hj (Nat.not_lt_zero _)⟩
 obtain ⟨k, hk, rfl, rfl, hr⟩ := hrel
 by_cases hlt : k < l.length
 rotate_left
 · obtain rfl : k = l.length := by omega
   go_wp2_with fail
   go_ret
   refine ⟨aU ?_, rfl⟩
   rw [nM (q := fun a => a != 0) (fun j hj _ => hr.out j hj hj)]
 obtain ⟨b', o', rfl, hc, _⟩ := eF HR.out k hlt
 have hc' : wr.cell? ⟨b', o' + k, none⟩ = some (.int .i64 l[k]) := by simpa [List.getD, hlt] using hc
 clear hc
 cases hq : (l[k] != 0)
 rotate_left
 · have HQ := qH hq
   go_wp2_with fail
   go_ret
   exact ⟨aU (nK (q := fun a => a != 0) hlt (fun j hj h => hr.out j hj h) HQ.out).symm, rfl⟩
 have HQ := qH hq
 go_wp2_with fail
 go_roundw
 case rel =>
  refine ⟨k + 1, by omega, by go_num, trivial, ?_⟩
  intro j hj hjk
  rcases Nat.lt_or_ge j k with h | h
  · exact hr.out j hj h
  obtain rfl : j = k := by omega
  exact HQ.out
 simp [intOf]; omega
theorem Lp {α : Type} [Rep α] {w : World} {a : Option Addr} {c : Nat} {l : List α} (h : Bz w a c l) (n : Nat) : Bz w a c (l.take n) := by
 refine ⟨by simp; have := h.1; omega, h.2.1, fun i hi => ?_⟩
 have hi' : i < l.length := by simp at hi; omega
 obtain ⟨b, o, vs, e, hr, hc⟩ := h.2.2 i hi'
 exact ⟨b, o, vs, e, by simpa using hr, hc⟩
theorem EZ (l : List Int) : (!l.any fun a => a != 0) = l.all (fun a => a == 0) := by
 induction l with
 | nil => rfl
 | cons x xs ih => rw [List.any_cons, List.all_cons, Bool.not_or, ih]; congr 1; simp [bne]
theorem TS (w : World) (l : List Int) : WJ 328 #[] w l (fun a => a != 0) := by
 intro W x u0 hb hr _
 obtain ⟨rfl, _⟩ := aG hr
 show Calls prog 328 #[_] W _
 go_enter func328, ntmps328
 go_wp2_with fail
 go_ret
 exact ⟨rfl, Below.refl _ _⟩
theorem Qn (x : pR) (v0 v1 : Value) (w : World) (hx : Rd w [v0, v1] x) (h0 : 0 < x.1.length) (h1 : x.1.length ≤ 1000000) :
 Calls prog 286 #[.agg #[v0, v1]] w fun e w' => e = .returned (.bool (Ld x.1)) ∧ Below w.heap.size w w' := by
 obtain ⟨l, NY⟩ := x
 have z := au rfl hx
 obtain ⟨a, c, rfl, hr⟩ := ah z.1
 obtain ⟨a', c', rfl, _⟩ := ah z.2
 have hlc : l.length ≤ c := hr.1
 have hcm := hr.2.1
 unfold maxLen at hcm
 have HR := qH hr
 clear hx z hr
 simp only at h0 h1
 have eg : ∀ args w, (callFunc 328 args).run prog w = .ok (.enter 328 args) w := enters_of func328 (by kernel_rfl) rfl
 have hs := (St.start w).alloc #[.slice a l.length c, .slice a' NY.length c'] 223 rfl
 obtain ⟨n, hn⟩ : ∃ n, l.length = n + 1 := ⟨l.length - 1, by omega⟩
 rw [hn] at hs
 obtain ⟨b, o, vs, ea, _⟩ := HR.out.2.2 0 h0
 subst ea
 have hRT : Rd w [.slice (some ⟨b, o, none⟩) n c] (l.take n) := ⟨_, c, by simp [hn], Lp HR.out n⟩
 have RT := qH hRT
 clear hRT
 go_enter func286, ntmps286
 go_wp2_with fail
 refine (zN (l.take n) _ 328 _ _ _ (Rd.mono RT.out hs.bel) eg (TS _ _)).mono ?_
 rintro e w1 ⟨rfl, hb1⟩
 go_wp2_with fail
 go_ret
 refine ⟨ak ?_, (hs.step hb1).bel⟩
 unfold Ld
 rw [show l.length - 1 = n by omega, ← EZ]
theorem N8 (x : pR) (v0 v1 : Value) (w : World) (hx : Rd w [v0, v1] x) (h0 : 0 < x.1.length) (h1 : x.1.length ≤ 1000000) :
 Calls prog 161 #[.agg #[v0, v1]] w fun e w' => e = .returned (.int .i64 (zK x.1)) ∧ Below w.heap.size w w' := by
 obtain ⟨l, NY⟩ := x
 have z := au rfl hx
 obtain ⟨a, c, rfl, hr⟩ := ah z.1
 obtain ⟨a', c', rfl, _⟩ := ah z.2
 have HR := qH hr
 clear hx z hr
 simp only at h0 h1
 have hs := (St.start w).alloc #[.slice a l.length c, .slice a' NY.length c'] 223 rfl
 obtain ⟨n, hn⟩ : ∃ n, l.length = n + 1 := ⟨l.length - 1, by omega⟩
 rw [hn] at hs
 obtain ⟨b, o, rfl, hc, _⟩ := eF HR.out n (show n < l.length by omega)
 have hc2 := qC (aB w (.cells #[.slice (some ⟨b, o, none⟩) (n + 1) c, .slice a' NY.length c'] 223)) hc
 have k0 := hs.c 0 0
 go_enter func161, ntmps161
 go_wp2_with fail
 first
  | (go_quiet (fail); go_wp2_with fail; go_ret; exact ⟨aU (by simp [zK, hn]), hs.bel.trans ((dQ _ _).mono hs.bel.size)⟩)
  | (go_ret; exact ⟨aU (by simp [zK, hn]), hs.bel⟩)
theorem jm (l : List Int) (v : Value) (w : World) (r : Rd w [v] l) (hl : l.length ≤ 1073741824) :
 Calls prog 121 #[v] w fun e w' => ∃ v', e = .returned v' ∧ Acc w.heap.size w'.heap.size 2 w' v' l ∧ Below w.heap.size w w' := by
 obtain ⟨a, c, rfl, h⟩ := ah r
 have HR := qH h
 clear r h
 have hg1 : ∀ (a b : Value) W, (eqGuard .eql 28 (.const a) (.const b) a b).run prog W = (eqGuard .eql 28 (.const a) (.const b) a b).run prog W := fun _ _ _ => rfl
 clear hg1
 cases a with
 | none =>
  have h0 : l = [] := by
   by_cases hn : 0 < l.length
   · obtain ⟨b, o, vs, e, _⟩ := HR.out.2.2 0 hn
     cases e
   exact List.eq_nil_of_length_eq_zero (by omega)
  subst h0
  have hnil : ∀ W, (binOp .eql 28 (.slice none 0 c) (.slice none 0 0)).run prog W = .ok (.bool true) W := fun W => Lib.run_eql_slice_nil_nil W _ _ Tryz.underlying28
  go_enter func121, ntmps121
  go_wp2_with fail
  go_ret
  exact ⟨_, rfl, Acc.nil _ _ _ _, Below.refl _ _⟩
 | some ad =>
  have hnil : ∀ W, (binOp .eql 28 (.slice (some ad) l.length c) (.slice none 0 0)).run prog W = .ok (.bool false) W := fun W => Lib.run_eql_slice_some_nil W _ _ _ Tryz.underlying28
  go_enter func121, ntmps121
  obtain ⟨b, o, spot⟩ := ad
  have hnews : ∀ j u, (iM l)[j]? = some u → w.cell? ((⟨b, o, spot⟩ : Addr).add j) = some u ∧ I64 (l.getD j 0) := by
   intro j u hu
   have hj : j < l.length := by have := (List.getElem?_eq_some_iff.1 hu).1; simpa [iM] using this
   obtain ⟨b', o', e, hc, hI⟩ := eF HR.out j hj
   simp only [Option.some.injEq, Addr.mk.injEq] at e
   obtain ⟨rfl, rfl, rfl⟩ := e
   have hadd : ((⟨b, o, none⟩ : Addr).add j) = ⟨b, o + j, none⟩ := by unfold Addr.add; split <;> simp_all
   rw [hadd, hc]
   refine ⟨?_, hI⟩
   rw [← hu]; simp [iM, hj, List.getD]
  have hI : ∀ a, a ∈ l → I64 a := by
   intro a ha
   obtain ⟨j, hj, rfl⟩ := List.getElem_of_mem ha
   have := (hnews j _ (List.getElem?_eq_getElem (by simpa [iM] using hj))).2
   simpa [List.getD, hj] using this
  have hacc : Acc w.heap.size (w.heap.size + 1) 2 (w.alloc (.cells #[] 2)) (.slice (some ⟨w.heap.size, 0, none⟩) 0 0) ([] : List Int) :=
   rJ (World.ownsRow_made w #[] 0 (Nat.le_refl _) (Nat.zero_le _) rfl) (fun g hg => by simp [Value.ownBlock] at hg; omega) (by simp)
  have hn2 : ∀ j u, (iM l)[j]? = some u → (w.alloc (.cells #[] 2)).cell? ((⟨b, o, spot⟩ : Addr).add j) = some u := fun j u hu => qC (aB _ _) (hnews j u hu).1
  go_wp2_with (refine dS _ rfl _ _ _ rfl eH rfl hacc (Nat.le_succ _) (by simp) ⟨b, o, spot⟩ c rfl hn2 hI (by simpa using hl) ?_; intro a' c' w' hA hB _)
  simp only [List.length_nil, Nat.zero_add, List.nil_append] at hA ⊢
  go_wp2_with fail
  go_ret
  exact ⟨_, rfl, hA, (aB _ _).trans hB⟩
theorem rU (l : List Int) (v : Value) (w : World) (r : Rd w [v] l) (hl : l.length ≤ 1073741824) :
 Calls prog 121 #[v] w fun e w' => ∃ v', e = .returned v' ∧ aQ w.heap.size w' [v'] l ∧ Below w.heap.size w w' :=
 (jm l v w r hl).mono fun e w' ⟨v', he, hA, hb⟩ => ⟨v', he, hA.fresh, hb⟩
open Go.IntWalk
theorem yD (p k : Int) (r s : pR) (v0 v1 u0 u1 : Value) (w : World) (hr : Rd w [v0, v1] r) (hs' : Rd w [u0, u1] s) (h1 : r.1.length ≤ 1000000) (h2 : r.2.length ≤ 1000000)
 (hp0 : 2 ≤ p) (hp : p ≤ 3) (hk0 : 0 ≤ k) (hk : k ≤ 100) (rr1 : wz p r.1) (rr2 : wz p r.2) (rs1 : wz p s.1) (rs2 : wz p s.2) (hl1 : s.1.length ≤ r.1.length) (hl2 : s.2.length ≤ r.2.length) :
 Calls prog 284 #[.agg #[v0, v1], .int .i64 p, .agg #[u0, u1], .int .i64 k] w fun e w' => ∃ o0 o1, e = .returned (.agg #[o0, o1]) ∧ aQ w.heap.size w' [o0, o1] (AU p k r s) ∧ Below w.heap.size w w' := by
 obtain ⟨r0, r1⟩ := r
 obtain ⟨s0, s1⟩ := s
 have z := au rfl hr
 have R0 := qH z.1
 have R1 := qH z.2
 obtain ⟨a0, c0, rfl, _⟩ := ah R0.out
 obtain ⟨a1, c1, rfl, _⟩ := ah R1.out
 have z' := au rfl hs'
 have S0 := qH z'.1
 have S1 := qH z'.2
 obtain ⟨b0, d0x, rfl, _⟩ := ah S0.out
 obtain ⟨b1, d1x, rfl, _⟩ := ah S1.out
 clear hr hs' z z'
 simp only at h1 h2 R0 R1 S0 S1 rr1 rr2 rs1 rs2 hl1 hl2
 have RR1 := qH rr1
 have RR2 := qH rr2
 have RS1 := qH rs1
 have RS2 := qH rs2
 clear rr1 rr2 rs1 rs2
 have hs := (((St.start w).alloc #[.slice a0 r0.length c0, .slice a1 r1.length c1] 223 rfl).alloc #[.slice b0 s0.length d0x, .slice b1 s1.length d1x] 223 (n := w.heap.size + 1) (by simp)).alloc #[.slice none 0 0, .slice none 0 0] 223 (n := w.heap.size + 1 + 1) (by simp)
 go_enter func284, ntmps284
 go_wp2_with fail
 go_cut [9] (fun bx wx => ∃ g d0 e0 d1 e1 l0 t0 l1 t1, bx = .pointer (some ⟨g, 0, none⟩) ∧ Hid (St w wx.heap.size wx [(w.heap.size, #[.slice a0 r0.length c0, .slice a1 r1.length c1], 223), (w.heap.size + 1, #[.slice b0 s0.length d0x, .slice b1 s1.length d1x], 223), (w.heap.size + 1 + 1, #[.slice none 0 0, .slice none 0 0], 223), (g, #[.slice d0 r0.length e0, .slice d1 r1.length e1], 223)]) ∧ Hid (Iv l0 t0 wx [.slice d0 r0.length e0] r0) ∧ Hid (Iv l1 t1 wx [.slice d1 r1.length e1] r1) ∧ Hid (w.heap.size + 3 ≤ l0 ∧ t0 ≤ l1 ∧ (g < l0 ∨ t0 ≤ g) ∧ (g < l1 ∨ t1 ≤ g) ∧ w.heap.size + 3 ≤ g ∧ l0 ≤ t0 ∧ l1 ≤ t1 ∧ t1 ≤ wx.heap.size))
 case first =>
  refine trR (fun w' => cV w' w.heap.size 0 (.slice a0 r0.length c0) ∧ cV w' w.heap.size 1 (.slice a1 r1.length c1)) (.z [0,1,3,4] (.mF 2 (.mF 5 (.float 6 (.hard 7 (.last 8 .nil))) 7 (.hard 5 (.float 6 (.last 8 .nil)))) 7 (.hard 2 (.hard 5 (.float 6 (.last 8 .nil)))))) ?_ ?_
  · exact (hs.drew).c2 0 0 0 1
  have hsd := hs.drew
  refine vK ?_
  refine uz ?_ ?_
  · refine wW fun K hK => ?_
    go_wp2_with (go_at_call 121; refine (rU r0 _ _ (Rd.mono R0.out hsd.bel) (by omega)).mono ?_; rintro e w4 ⟨b4, rfl, fr4, hb4⟩)
    have hs4 := hsd.step hb4
    obtain ⟨m4, n4, rfl, _⟩ := ah fr4.rd
    refine ⟨(hs4.c2 0 0 0 1), ?_⟩
    refine vK ?_
    refine uz ?_ ?_
    · refine wW fun K hK => ?_
      go_wp2_with (go_at_call 121; refine (rU r1 _ _ (Rd.mono R1.out hs4.bel) (by omega)).mono ?_; rintro e w5 ⟨b5, rfl, Qo, hb5⟩)
      have hs5 := hs4.step hb5
      obtain ⟨m5, n5, rfl, _⟩ := ah Qo.rd
      refine ⟨(hs5.c2 0 0 0 1), ?_⟩
      refine vK ?_
      refine wW fun K hK => ?_
      go_wp2_with fail
      refine ⟨⟨qC (aB _ _) (hs5.c 0 0), qC (aB _ _) (hs5.c 0 1)⟩, ?_⟩
      refine Zl fun K hK => ?_
      go_wp2
      refine XV ?_
      go_wp2_with fail
      go_meet
      have z4 := hb4.size
      have z5 := hb5.size
      have e4 : w.heap.size + 3 ≤ w4.heap.size := hs4.hi
      have hs6 := (hs5.up (B' := w5.heap.size) hs5.hi (Nat.le_refl _)).alloc #[.slice m4 r0.length n4, .slice m5 r1.length n5] 223 rfl
      exact ⟨w5.heap.size, m4, n4, m5, n5, _, _, _, _, rfl, by simpa [Hid] using hs6, ((aQ.iv fr4).mono hb5).mono (aB _ _), (aQ.iv Qo).mono (aB _ _), by simp [Hid]; omega⟩
    refine wW fun K hK => ?_
    go_wp2_with fail
    have hs6 := (hs4.up (B' := _) hs4.hi (Nat.le_refl _)).alloc #[.slice none 0 0, .slice none 0 0] 223 rfl
    refine ⟨(hs6.c2 0 0 0 1), ?_⟩
    refine vK ?_
    refine wW fun K hK => ?_
    go_wp2_with (go_at_call 121; refine (rU r1 _ _ (Rd.mono R1.out hs6.bel) (by omega)).mono ?_; rintro e w5 ⟨b5, rfl, Qo, hb5⟩)
    have hs7 := hs6.step hb5
    obtain ⟨m5, n5, rfl, _⟩ := ah Qo.rd
    refine ⟨(hs7.c2 0 0 0 1), ?_⟩
    refine vK ?_
    have f0 := hs7.aC 3 rfl 0
    have f1 := hs7.aC 3 rfl 1
    obtain ⟨k0, k1⟩ := hs7.c2 3 0 3 1
    refine Zl fun K hK => ?_
    go_wp2
    refine XV ?_
    go_wp2_with fail
    go_meet
    have z4 := hb4.size
    have z5 := hb5.size
    have e4 : w.heap.size + 3 ≤ w4.heap.size := hs4.hi
    have x1 := hs7.set (p := [_, _, _]) (by simp <;> omega) 0 (.slice m4 r0.length n4)
    have x2 := x1.set (p := [_, _, _]) (by simp <;> omega) 1 (.slice m5 r1.length n5)
    have i4 := ((aQ.iv fr4).mono (aB _ _)).mono hb5
    have i5 := aQ.iv Qo
    have j4 := (i4.uy (a := ⟨w4.heap.size, 0, none⟩) (.inr (Nat.le_refl _)) (.slice m4 r0.length n4)).uy (a := ⟨w4.heap.size, 1, none⟩) (.inr (Nat.le_refl _)) (.slice m5 r1.length n5)
    have j5 := (i5.uy (a := ⟨w4.heap.size, 0, none⟩) (.inl (by simp)) (.slice m4 r0.length n4)).uy (a := ⟨w4.heap.size, 1, none⟩) (.inl (by simp)) (.slice m5 r1.length n5)
    exact ⟨w4.heap.size, m4, n4, m5, n5, _, _, _, _, rfl, x2.up (B' := _) x2.hi (Nat.le_refl _), j4, j5, by simp [Hid, World.setCell] at z4 z5 ⊢; omega⟩
  refine wW fun K hK => ?_
  go_wp2_with fail
  have hs3 := hsd.alloc #[.slice none 0 0, .slice none 0 0] 223 (n := w.heap.size + 1 + 1 + 1) (by simp)
  refine ⟨(hs3.c2 0 0 0 1), ?_⟩
  refine vK ?_
  refine wW fun K hK => ?_
  go_wp2_with (go_at_call 121; refine (rU r0 _ _ (Rd.mono R0.out hs3.bel) (by omega)).mono ?_; rintro e w4 ⟨b4, rfl, fr4, hb4⟩)
  have hs4 := hs3.step hb4
  obtain ⟨m4, n4, rfl, _⟩ := ah fr4.rd
  refine ⟨(hs4.c2 0 0 0 1), ?_⟩
  refine vK ?_
  refine wW fun K hK => ?_
  go_wp2_with (go_at_call 121; refine (rU r1 _ _ (Rd.mono R1.out hs4.bel) (by omega)).mono ?_; rintro e w5 ⟨b5, rfl, Qo, hb5⟩)
  have hs5 := hs4.step hb5
  obtain ⟨m5, n5, rfl, _⟩ := ah Qo.rd
  refine ⟨(hs5.c2 0 0 0 1), ?_⟩
  refine vK ?_
  have f0 := hs5.aC 3 rfl 0
  have f1 := hs5.aC 3 rfl 1
  obtain ⟨k0, k1⟩ := hs5.c2 3 0 3 1
  refine Zl fun K hK => ?_
  go_wp2
  refine XV ?_
  go_wp2_with fail
  go_meet
  have z4 := hb4.size
  have z5 := hb5.size
  have x1 := hs5.set (p := [_, _, _]) (by simp <;> omega) 0 (.slice m4 r0.length n4)
  have x2 := x1.set (p := [_, _, _]) (by simp <;> omega) 1 (.slice m5 r1.length n5)
  have i4 := (aQ.iv fr4).mono hb5
  have i5 := aQ.iv Qo
  have j4 := (i4.uy (a := ⟨w.heap.size + 1 + 1 + 1, 0, none⟩) (.inl (by simp)) (.slice m4 r0.length n4)).uy (a := ⟨w.heap.size + 1 + 1 + 1, 1, none⟩) (.inl (by simp)) (.slice m5 r1.length n5)
  have j5 := (i5.uy (a := ⟨w.heap.size + 1 + 1 + 1, 0, none⟩) (.inl (by simp at z4 ⊢; omega)) (.slice m4 r0.length n4)).uy (a := ⟨w.heap.size + 1 + 1 + 1, 1, none⟩) (.inl (by simp at z4 ⊢; omega)) (.slice m5 r1.length n5)
  exact ⟨w.heap.size + 1 + 1 + 1, m4, n4, m5, n5, _, _, _, _, rfl, x2.up (B' := _) x2.hi (Nat.le_refl _), j4, j5, by simp [Hid, World.setCell] at z4 z5 ⊢; omega⟩
 obtain ⟨g, d0, e0, d1, e1, l0, t0, l1, t1, rfl, hst, hi0, hi1, hbd⟩ := hcut
 have q1 := hst.out.c 1 0
 go_wp2_with fail
 go_loopw [24] (fun i wr => ∃ j : Nat, j ≤ s0.length ∧ i = .int .i64 j ∧ Hid (wr.heap.size = wc.heap.size) ∧ Hid (St w wc.heap.size wr [(w.heap.size, #[.slice a0 r0.length c0, .slice a1 r1.length c1], 223), (w.heap.size + 1, #[.slice b0 s0.length d0x, .slice b1 s1.length d1x], 223), (w.heap.size + 1 + 1, #[.slice none 0 0, .slice none 0 0], 223), (g, #[.slice d0 r0.length e0, .slice d1 r1.length e1], 223)]) ∧ Hid (Iv l0 t0 wr [.slice d0 r0.length e0] (mD (fun a b => (a + k * b) % p) r0 s0 j)) ∧ Hid (Iv l1 t1 wr [.slice d1 r1.length e1] (r1))) (fun i _ => s0.length - (intOf i).toNat)
 case atStart => exact ⟨0, Nat.zero_le _, rfl, rfl, hst.out, by simpa [Hid, qE] using hi0.out, hi1.out⟩
 obtain ⟨j, hj, rfl, hsz, hst2, hj0, hj1⟩ := hrel
 by_cases hlt : j < s0.length
 · have hlr : j < r0.length := by omega
   obtain ⟨g', o', c', hv, hgl, hgh, hc, hf, hI, hset⟩ := Hu hj0.out j (by rw [gG _ _ _ _ (by omega) (by omega)]; omega)
   rw [gG _ _ _ _ (by omega) (by omega)] at hv
   simp only [Value.slice.injEq] at hv
   obtain ⟨rfl, -, rfl⟩ := hv
   rw [uf _ _ _ _ hlr (by omega)] at hc hI
   obtain ⟨b', o2, rfl, hcs, hIs⟩ := aI (Rd.mono S0.out hst2.out.bel) j hlt
   have gA := RR1.out.get j hlr
   have gB := RS1.out.get j hlt
   have hm := oO gA gB hp hk0 hk
   have hz := qH (qF (fun a b => (a + k * b) % p) r0 s0 j hlr hlt)
   have Ir := qH hset
   clear hset
   have q0 := hst2.out.c 3 0
   generalize r0[j] = A at *
   generalize s0[j] = B at *
   have hT : (A + k * B).tmod p = (A + k * B) % p := Int.tmod_eq_emod_of_nonneg (by omega)
   have hE0 := Int.emod_nonneg (A + k * B) (show p ≠ 0 by omega)
   have hE1 := Int.emod_lt_of_pos (A + k * B) (show 0 < p by omega)
   have hN := Ir.out ((A + k * B) % p) ⟨by omega, by omega⟩
   rw [hz.out] at hN
   have HN := qH hN
   clear hN
   have hjr : (j : Int) < r0.length := by omega
   have hw1 : IntKind.i64.wrap (k * B) = k * B := i64_in _ (by omega)
   have hw2 : IntKind.i64.wrap (A + k * B) = A + k * B := i64_in _ (by omega)
   have hw3 : IntKind.i64.wrap ((A + k * B) % p) = (A + k * B) % p := i64_in _ (by omega)
   have hp1 : p ≠ 0 := by omega
   have hp2 : (p == 0) = false := by simpa using hp1
   go_wp2_with fail
   refine BG (fun w' => cV w' g 0 (.slice (some ⟨g', o', none⟩) r0.length e0) ∧ cI w' g' (o' + j) A) [(0, 0), (1, 0), (2, 0), (3, 0), (4, 0), (5, 0), (6, 0), (7, 0), (8, 0), (9, 0), (10, 0), (11, 0), (12, 0), (13, 0), (14, 0), (15, 2)] ?_ ?_
   · exact ⟨q0, hc⟩
   refine nH ?_
   refine XU fun K hK => ?_
   go_wp2_with fail
   refine elN ?_
   go_wp2_with fail
   go_roundw
   case rel =>
    have B' := hbd.out
    refine ⟨j + 1, by omega, by go_num, by simpa [Hid, World.setCell] using hsz.out, ?_, ?_, ?_⟩
    · exact hst2.out.drew.sK (aP.but ((aP.refl [g'] wr.drew).setCell (p := ⟨g', o' + j, none⟩) (by simp) _)) (fun z hz => by simp at hz; omega) (fun x hx hp => by simp at hx hp; rcases hx with rfl | rfl | rfl | rfl <;> simp at hp <;> omega)
    · exact HN.out.frame (fun _ _ _ => rfl)
    exact (hj1.out.frame (w' := wr.drew) (fun _ _ _ => rfl)).uy (a := ⟨g', o' + j, none⟩) (by simp; omega) _
   simp [intOf]; omega
 obtain rfl : j = s0.length := by omega
 clear q1
 have q1 := hst2.out.c 1 1
 go_wp2_with fail
 go_loopw [48] (fun i wr => ∃ j : Nat, j ≤ s1.length ∧ i = .int .i64 j ∧ Hid (wr.heap.size = wc.heap.size) ∧ Hid (St w wc.heap.size wr [(w.heap.size, #[.slice a0 r0.length c0, .slice a1 r1.length c1], 223), (w.heap.size + 1, #[.slice b0 s0.length d0x, .slice b1 s1.length d1x], 223), (w.heap.size + 1 + 1, #[.slice none 0 0, .slice none 0 0], 223), (g, #[.slice d0 r0.length e0, .slice d1 r1.length e1], 223)]) ∧ Hid (Iv l0 t0 wr [.slice d0 r0.length e0] (mD (fun a b => (a + k * b) % p) r0 s0 s0.length)) ∧ Hid (Iv l1 t1 wr [.slice d1 r1.length e1] (mD (fun a b => (a + k * b) % p) r1 s1 j))) (fun i _ => s1.length - (intOf i).toNat)
 case atStart => exact ⟨0, Nat.zero_le _, rfl, hsz.out, hst2.out, hj0.out, by simpa [Hid, qE] using hj1.out⟩
 obtain ⟨j, hj, rfl, hsz, hst2, hj0, hj1⟩ := hrel
 by_cases hlt : j < s1.length
 rotate_left
 · obtain rfl : j = s1.length := by omega
   obtain ⟨q0, q2⟩ := hst2.out.c2 3 0 3 1
   have f0 := hst2.out.aC 2 rfl 0
   have f1 := hst2.out.aC 2 rfl 1
   obtain ⟨k0, k1⟩ := hst2.out.c2 2 0 2 1
   go_wp2_with fail
   have B' := hbd.out
   have iA := Gw hj0.out hj1.out (by omega) (by omega) (by omega)
   rw [Hw, Hw] at iA
   refine bodyPost_ret (v := .agg #[.slice d0 r0.length e0, .slice d1 r1.length e1]) (by simp [results, results284, go_sem, k0, k1, f0, f1]) rfl ⟨_, _, rfl, ?_⟩
   exact hst2.out.Tz iA (g := w.heap.size + 1 + 1) (by omega) (by omega) [.slice d0 r0.length e0, .slice d1 r1.length e1]
 have hlr : j < r1.length := by omega
 obtain ⟨g', o', c', hv, hgl, hgh, hc, hf, hI, hset⟩ := Hu hj1.out j (by rw [gG _ _ _ _ (by omega) (by omega)]; omega)
 rw [gG _ _ _ _ (by omega) (by omega)] at hv
 simp only [Value.slice.injEq] at hv
 obtain ⟨rfl, -, rfl⟩ := hv
 rw [uf _ _ _ _ hlr (by omega)] at hc hI
 obtain ⟨b', o2, rfl, hcs, hIs⟩ := aI (Rd.mono S1.out hst2.out.bel) j hlt
 have gA := RR2.out.get j hlr
 have gB := RS2.out.get j hlt
 have hm := oO gA gB hp hk0 hk
 have hz := qH (qF (fun a b => (a + k * b) % p) r1 s1 j hlr hlt)
 have Ir := qH hset
 clear hset
 have q0 := hst2.out.c 3 1
 generalize r1[j] = A at *
 generalize s1[j] = B at *
 have hT : (A + k * B).tmod p = (A + k * B) % p := Int.tmod_eq_emod_of_nonneg (by omega)
 have hE0 := Int.emod_nonneg (A + k * B) (show p ≠ 0 by omega)
 have hE1 := Int.emod_lt_of_pos (A + k * B) (show 0 < p by omega)
 have hN := Ir.out ((A + k * B) % p) ⟨by omega, by omega⟩
 rw [hz.out] at hN
 have HN := qH hN
 clear hN
 have hjr : (j : Int) < r1.length := by omega
 have hw1 : IntKind.i64.wrap (k * B) = k * B := i64_in _ (by omega)
 have hw2 : IntKind.i64.wrap (A + k * B) = A + k * B := i64_in _ (by omega)
 have hw3 : IntKind.i64.wrap ((A + k * B) % p) = (A + k * B) % p := i64_in _ (by omega)
 have hp1 : p ≠ 0 := by omega
 have hp2 : (p == 0) = false := by simpa using hp1
 go_wp2_with fail
 refine BG (fun w' => cV w' g 1 (.slice (some ⟨g', o', none⟩) r1.length e1) ∧ cI w' g' (o' + j) A) [(0, 0), (1, 0), (2, 0), (3, 0), (4, 0), (5, 0), (6, 0), (7, 0), (8, 0), (9, 0), (10, 0), (11, 0), (12, 0), (13, 0), (14, 0), (15, 2)] ?_ ?_
 · exact ⟨q0, hc⟩
 refine nH ?_
 refine XU fun K hK => ?_
 go_wp2_with fail
 refine elN ?_
 go_wp2_with fail
 go_roundw
 case rel =>
  have B' := hbd.out
  refine ⟨j + 1, by omega, by go_num, by simpa [Hid, World.setCell] using hsz.out, ?_, ?_, ?_⟩
  · exact hst2.out.drew.sK (aP.but ((aP.refl [g'] wr.drew).setCell (p := ⟨g', o' + j, none⟩) (by simp) _)) (fun z hz => by simp at hz; omega) (fun x hx hp => by simp at hx hp; rcases hx with rfl | rfl | rfl | rfl <;> simp at hp <;> omega)
  · exact (hj0.out.frame (w' := wr.drew) (fun _ _ _ => rfl)).uy (a := ⟨g', o' + j, none⟩) (by simp; omega) _
  exact HN.out.frame (fun _ _ _ => rfl)
 simp [intOf]; omega
theorem adD (p n : Int) (r : pR) (v0 v1 : Value) (w : World) (hr : Rd w [v0, v1] r) (h1 : r.1.length ≤ 1000000) (h2 : r.2.length ≤ 1000000)
 (hp0 : 2 ≤ p) (hp : p ≤ 3) (hn0 : 0 ≤ n) (hn : n ≤ 3) (rr1 : wz p r.1) (rr2 : wz p r.2) :
 Calls prog 162 #[.agg #[v0, v1], .int .i64 p, .int .i64 n] w fun e w' => ∃ o0 o1, e = .returned (.agg #[o0, o1]) ∧ aQ w.heap.size w' [o0, o1] (bZ p n r) ∧ Below w.heap.size w w' := by
 have hs := ((St.start w).alloc #[v0, v1] 223 rfl).alloc #[.slice none 0 0, .slice none 0 0] 223 (n := w.heap.size + 1) (by simp)
 have HR := qH hr
 clear hr
 go_enter func162, ntmps162
 go_wp2_with fail
 refine (yD p (n - 1 + p) r r v0 v1 v0 v1 _ (Rd.mono HR.out hs.bel) (Rd.mono HR.out hs.bel) h1 h2 hp0 hp (by omega) (by omega) rr1 rr2 rr1 rr2 (Nat.le_refl _) (Nat.le_refl _)).mono ?_
 rintro e w1 ⟨o0, o1, rfl, fr, hb1⟩
 have hs1 := hs.step hb1
 have iv := aQ.iv fr
 have f0 := hs1.aC 1 rfl 0
 have f1 := hs1.aC 1 rfl 1
 obtain ⟨k0, k1⟩ := hs1.c2 1 0 1 1
 have one : ∀ u, u ∈ [o0, o1] → u.oneCell' = true := Rep.yc fr.rd
 have IV := qH iv
 clear fr iv
 have q0 := one o0 (by simp)
 have q1 := one o1 (by simp)
 have z := au rfl (Iv.rd IV.out)
 obtain ⟨a0, c0, rfl, _⟩ := ah z.1
 obtain ⟨a1, c1, rfl, _⟩ := ah z.2
 clear z one q0 q1
 have hz : w.heap.size + 2 ≤ w1.heap.size := hs1.hi
 go_wp2_with fail
 refine bodyPost_ret (v := .agg #[.slice a0 (bZ p n r).1.length c0, .slice a1 (bZ p n r).2.length c1]) (by simp [results, results162, go_sem, bZ, k0, k1, f0, f1]) rfl ⟨_, _, rfl, ?_⟩
 exact hs1.Tz IV.out (g := w.heap.size + 1) (by omega) (by simp) [.slice a0 (bZ p n r).1.length c0, .slice a1 (bZ p n r).2.length c1]
theorem Qp (cur : Array Value) (q : Nat) (v : Value) (h : cur[q]? = some v) : cur.setIfInBounds q v = cur := by
 apply Array.ext_getElem?
 intro i
 by_cases hi : q = i
 · subst hi
   rw [Array.getElem?_setIfInBounds_self_of_lt (Array.getElem?_eq_some_iff.1 h).1, h]
 rw [Array.getElem?_setIfInBounds_ne hi]
structure yX (w : World) (b o : Nat) (cur : Array Value) (e : TypeId) (p0 p2 : List Nat) (v0 v2 : Value) (r : dF) : Prop where
 blk : w.heap[b]? = some (.cells cur e (0, 0))
 c0 : cur[o]? = some v0
 c1 : cur[o + 1]? = some (.int .i64 r.2.1)
 c2 : cur[o + 2]? = some v2
 Qq : bY p0 w v0 r.1
 ag1 : bY p2 w v2 r.2.2
 n0 : b ∉ p0
 n2 : b ∉ p2
 dis : ∀ k, k ∈ p0 → k ∉ p2
def WL (w : World) (b o : Nat) (u0 u2 : Value) (r : dF) : Prop :=
 w.cell? ⟨b, o, none⟩ = some u0 ∧ w.cell? ⟨b, o + 1, none⟩ = some (.int .i64 r.2.1) ∧ w.cell? ⟨b, o + 2, none⟩ = some u2 ∧ Rd w [u0] r.1 ∧ Rd w [u2] r.2.2
theorem St.only {w : World} {B : Nat} {wr w1 : World} {p q : List (Nat × Array Value × TypeId)} {g : Nat} {cs cs' : Array Value} {t : TypeId} (h : St w B wr (p ++ (g, cs, t) :: q)) {ps : List Nat} (ho : aP ps wr w1) (hps : ∀ k, k ∈ ps → w.heap.size ≤ k)
 (hx : ∀ x, x ∈ p ++ q → x.1 ∉ ps) (hg : w1.heap[g]? = some (.cells cs' t (0, 0))) : St w B w1 (p ++ (g, cs', t) :: q) := by
 have h0 := h.box (g, cs, t) (by simp)
 refine ⟨h.bel.trans (ho.below hps), h.lo, by rw [ho.size]; exact h.hi, fun x hm => ?_⟩
 by_cases he : x = (g, cs', t)
 · subst he; exact ⟨h0.1, h0.2.1, hg⟩
 have hm' : x ∈ p ++ q := by
  rcases List.mem_append.1 hm with hm | hm
  · exact List.mem_append.2 (.inl hm)
  rcases List.mem_cons.1 hm with hm | hm
  · exact absurd hm he
  exact List.mem_append.2 (.inr hm)
 have h1 := h.box x (by rcases List.mem_append.1 hm' with hm' | hm' <;> simp [hm'])
 exact ⟨h1.1, h1.2.1, by rw [ho.block _ (hx x hm')]; exact h1.2.2⟩
theorem ZN (p k : Int) (r q : dF) (b o b2 o2 : Nat) (cur : Array Value) (e : TypeId) (p0 p2 : List Nat) (v0 v2 u0 u2 : Value) (w : World) (hr : yX w b o cur e p0 p2 v0 v2 r)
 (hoth : ∀ w' x, aP (b :: (p0 ++ p2)) w w' → w'.heap[b]? = some (.cells (cur.setIfInBounds (o + 1) (.int .i64 x)) e (0, 0)) → WL w' b2 o2 u0 u2 q)
 (hp0 : 2 ≤ p) (hp : p ≤ 3) (hk0 : 0 ≤ k) (hk : k ≤ 100) (gr : wz p r.1) (gr1 : 0 ≤ r.2.1 ∧ r.2.1 < p) (gr2 : wz p r.2.2) (gq : wz p q.1) (gq1 : 0 ≤ q.2.1 ∧ q.2.1 < p) (gq2 : wz p q.2.2) (l1 : r.1.length = q.1.length) (l2 : r.2.2.length = q.2.2.length) :
 Calls prog 278 #[.pointer (some ⟨b, o, none⟩), .pointer (some ⟨b2, o2, none⟩), .int .i64 k, .int .i64 p] w fun en w' => en = .returned (.tuple #[]) ∧ yX w' b o (cur.setIfInBounds (o + 1) (.int .i64 (rP p k r q).2.1)) e p0 p2 v0 v2 (rP p k r q) ∧ aP (b :: (p0 ++ p2)) w w' := by
 obtain ⟨rl, rr, rb⟩ := r
 obtain ⟨ql, qr, qb⟩ := q
 have hrow := hr
 obtain ⟨hblk, hc0, hc1, hc2, ho0, ho2, hn0, hn2, hd⟩ := hr
 obtain ⟨a0, c0, rfl, hm0⟩ := Aj ho0
 obtain ⟨a2, c2, rfl, hm2⟩ := Aj ho2
 unfold maxLen at hm0 hm2
 simp only at gr gr1 gr2 gq gq1 gq2 l1 l2 hm0 hm2 hc1
 have BLK := qH hblk
 have HC0 := qH hc0
 have HC1 := qH hc1
 have HC2 := qH hc2
 have O0 := qH ho0
 have O2 := qH ho2
 have GR := qH gr
 have GR2 := qH gr2
 have ob : o + 1 < cur.size := (Array.getElem?_eq_some_iff.1 hc1).1
 have GQ := qH gq
 have GQ2 := qH gq2
 have L1 := qH l1
 have L2 := qH l2
 have HO := qH hoth
 clear gq gq2 hoth l1 l2
 clear hblk hc0 hc1 hc2 ho0 ho2 gr gr2 hrow
 have hp1 : p ≠ 0 := by omega
 have hp2 : (p == 0) = false := by simpa using hp1
 go_enter func278, ntmps278
 go_wp2_with fail
 go_loopw [8] (fun i wr => ∃ j : Nat, j ≤ rl.length ∧ i = .int .i64 j ∧ Hid (aP (b :: (p0 ++ p2)) w wr) ∧ Hid (wr.heap[b]? = some (.cells (cur) e (0, 0))) ∧ Hid (bY p0 wr (.slice a0 rl.length c0) (mD (fun a b => (a - k * b) % p) rl ql j)) ∧ Hid (bY p2 wr (.slice a2 rb.length c2) (rb))) (fun i _ => rl.length - (intOf i).toNat)
 case atStart => exact ⟨0, Nat.zero_le _, rfl, aP.refl _ _, BLK.out, by simpa [Hid, qE] using O0.out, O2.out⟩
 obtain ⟨j, hj, rfl, hon, hbk, hme, hot⟩ := hrel
 have q0 : wr.cell? ⟨b, o, none⟩ = some (.slice a0 rl.length c0) := by rw [aA hbk.out]; exact HC0.out
 by_cases hlt : j < rl.length
 · have hlq : j < ql.length := by rw [← L1.out]; exact hlt
   obtain ⟨q1, q2, q3, rd0, rd2⟩ := HO.out wr rr hon.out (by rw [hbk.out]; rw [Qp cur (o + 1) _ HC1.out])
   have RD := qH rd0
   obtain ⟨a3, c3, rfl, _⟩ := ah RD.out
   obtain ⟨b3, o3, rfl, q4, hIq⟩ := aI RD.out j hlq
   clear rd0 rd2
   obtain ⟨g', o', c', hv, hps, hc, hf, hI, hset⟩ := oN hme.out j (by rw [gG _ _ _ _ (by omega) (by omega)]; omega)
   rw [gG _ _ _ _ (by omega) (by omega)] at hv
   simp only [Value.slice.injEq] at hv
   obtain ⟨rfl, -, rfl⟩ := hv
   rw [uf _ _ _ _ hlt (by omega)] at hc hI
   have gA := GR.out.get j hlt
   have gB := GQ.out.get j hlq
   have hz := qH (qF (fun a b => (a - k * b) % p) rl ql j hlt hlq)
   have Ir := qH hset
   have X7 := qH hps
   clear hset hps
   generalize hA : rl[j] = A at *
   generalize hB : ql[j] = B at *
   clear hA hB
   have hm := oO gA gB hp hk0 hk
   have hw1 : IntKind.i64.wrap (k * B) = k * B := i64_in _ (by omega)
   have hw2 : IntKind.i64.wrap (A - k * B) = A - k * B := i64_in _ (by omega)
   have hE0 := Int.emod_nonneg (A - k * B) hp1
   have hE1 := Int.emod_lt_of_pos (A - k * B) (show 0 < p by omega)
   have hN := Ir.out ((A - k * B) % p) ⟨by omega, by omega⟩
   rw [hz.out] at hN
   have HN := qH hN
   clear hN
   have hjr : (j : Int) < rl.length := by omega
   have hjq : (j : Int) < ql.length := by omega
   go_wp2_with fail
   refine BG (fun w' => cV w' b o (.slice (some ⟨g', o', none⟩) rl.length c0) ∧ cI w' g' (o' + j) A ∧ cV w' b2 o2 (.slice (some ⟨b3, o3, none⟩) ql.length c3) ∧ cI w' b3 (o3 + j) B) [(0, 0), (1, 0), (2, 0), (3, 0), (4, 0), (5, 0), (6, 0), (7, 0), (8, 0), (9, 0), (10, 0), (11, 0), (12, 0), (13, 0), (14, 0), (15, 0), (16, 0), (17, 0), (18, 0), (19, 0), (20, 0), (21, 0), (22, 0), (23, 1), (24, 0), (25, 2)] ?_ ?_
   · exact ⟨q0, hc, q1, q4⟩
   refine nH ?_
   refine wU fun K hK => ?_
   go_wp2_with (go_at_call 262; refine (wV _ p _ (by omega) (by omega)).mono ?_; rintro e1 w1 ⟨rfl, rfl⟩)
   refine ⟨⟨q0, hc, q1, q4⟩, ?_⟩
   refine nH ?_
   refine XU fun K hK => ?_
   go_wp2_with fail
   refine elN ?_
   go_wp2_with fail
   go_roundw
   case rel =>
    have hg : g' ∈ p0 := by rw [X7.out]; simp
    have hgb : g' ≠ b := fun h => hn0 (h ▸ hg)
    have hgo : ∀ z, z ∈ p2 → z ∉ [g'] := fun z hz hz2 => by obtain rfl : z = g' := (by simpa using hz2); exact hd z hg hz
    have hst := (aP.refl [g'] wr.drew).setCell (p := ⟨g', o' + j, none⟩) (by simp) (.int .i64 ((A - k * B) % p))
    refine ⟨j + 1, by omega, by go_num, ?_, ?_, ?_, ?_⟩
    · exact (hon.out.drewN 1).trans (hst.mono (fun z hz => by obtain rfl : z = g' := (by simpa using hz); simp [hg]))
    · exact (hst.block b (by simp; exact fun h => hgb h.symm)).trans hbk.out
    · exact jg HN.out rfl
    exact dZ (jg (w' := wr.drew) hot.out rfl) hst hgo
   simp [intOf]; omega
 obtain rfl : j = rl.length := by omega
 have ON := hon
 have BK := hbk
 have K0 := hme
 have K2 := hot
 clear hon hbk hme hot
 have q2 : wr.cell? ⟨b, o + 1, none⟩ = some (.int .i64 rr) := by rw [aA BK.out]; exact HC1.out
 have f2 : wr.frozen? ⟨b, o + 1, none⟩ = false := aO BK.out
 obtain ⟨s1, s2, s3, -, -⟩ := HO.out wr rr ON.out (by rw [BK.out]; rw [Qp cur (o + 1) _ HC1.out])
 clear s1 s3
 have hm := oO gr1 gq1 hp hk0 hk
 have hw1 : IntKind.i64.wrap (k * qr) = k * qr := i64_in _ (by omega)
 have hw2 : IntKind.i64.wrap (rr - k * qr) = rr - k * qr := i64_in _ (by omega)
 have hE0 := Int.emod_nonneg (rr - k * qr) hp1
 have hE1 := Int.emod_lt_of_pos (rr - k * qr) (show 0 < p by omega)
 go_wp2_with fail
 refine BG (fun w' => cI w' b (o + 1) rr ∧ cI w' b2 (o2 + 1) qr) [(0, 0), (1, 0), (2, 0), (3, 0), (4, 0), (5, 0), (6, 0), (7, 0), (8, 0), (9, 0), (10, 0), (11, 0), (12, 0), (13, 1), (14, 0), (15, 0), (16, 2)] ?_ ?_
 · exact ⟨q2, s2⟩
 refine nH ?_
 refine wU fun K hK => ?_
 go_wp2_with (go_at_call 262; refine (wV _ p _ (by omega) (by omega)).mono ?_; rintro e1 w1 ⟨rfl, rfl⟩)
 refine ⟨⟨q2, s2⟩, ?_⟩
 refine nH ?_
 refine XU fun K hK => ?_
 go_wp2_with fail
 refine elN ?_
 have hst : aP [b] wr (wr.setCell ⟨b, o + 1, none⟩ (.int .i64 ((rr - k * qr) % p))).drew := ((aP.refl [b] wr).setCell (p := ⟨b, o + 1, none⟩) (by simp) (.int .i64 ((rr - k * qr) % p))).drewN 1
 have BK' : Hid ((wr.setCell ⟨b, o + 1, none⟩ (.int .i64 ((rr - k * qr) % p))).drew.heap[b]? = some (.cells (cur.setIfInBounds (o + 1) (.int .i64 ((rr - k * qr) % p))) e (0, 0))) := aZ _ _ _ _ _ _ _ BK.out
 have ON' : Hid (aP (b :: (p0 ++ p2)) w (wr.setCell ⟨b, o + 1, none⟩ (.int .i64 ((rr - k * qr) % p))).drew) := ON.out.trans (hst.mono (fun z hz => by obtain rfl : z = b := (by simpa using hz); simp))
 have K0' := qH (dZ K0.out hst (fun z hz hz2 => by obtain rfl : z = b := (by simpa using hz2); exact hn0 hz))
 have K2' := qH (dZ K2.out hst (fun z hz hz2 => by obtain rfl : z = b := (by simpa using hz2); exact hn2 hz))
 clear BK ON K0 K2 hst q2 f2
 have BK := BK'
 have ON := ON'
 have K0 := K0'
 have K2 := K2'
 clear BK' ON' K0' K2'
 generalize (wr.setCell ⟨b, o + 1, none⟩ (.int .i64 ((rr - k * qr) % p))).drew = WR at *
 go_wp2_with fail
 go_loopw [9] (fun i wr => ∃ j : Nat, j ≤ rb.length ∧ i = .int .i64 j ∧ Hid (aP (b :: (p0 ++ p2)) w wr) ∧ Hid (wr.heap[b]? = some (.cells (cur.setIfInBounds (o + 1) (.int .i64 ((rr - k * qr) % p))) e (0, 0))) ∧ Hid (bY p2 wr (.slice a2 rb.length c2) (mD (fun a b => (a - k * b) % p) rb qb j)) ∧ Hid (bY p0 wr (.slice a0 rl.length c0) (mD (fun a b => (a - k * b) % p) rl ql rl.length))) (fun i _ => rb.length - (intOf i).toNat)
 case atStart => exact ⟨0, Nat.zero_le _, rfl, ON.out, BK.out, by simpa [Hid, qE] using K2.out, K0.out⟩
 obtain ⟨j, hj, rfl, hon, hbk, hme, hot⟩ := hrel
 have q0 : wr.cell? ⟨b, o + 2, none⟩ = some (.slice a2 rb.length c2) := by rw [aA hbk.out]; rw [Array.getElem?_setIfInBounds_ne (by omega)]; exact HC2.out
 by_cases hlt : j < rb.length
 rotate_left
 · obtain rfl : j = rb.length := by omega
   go_wp2_with fail
   refine bodyPost_end (v := .tuple #[]) (by simp [results, results278, go_sem]) rfl ⟨rfl, ⟨hbk.out, ?_, ?_, ?_, ?_, ?_, hn0, hn2, hd⟩, hon.out⟩
   · rw [Array.getElem?_setIfInBounds_ne (by omega)]; exact HC0.out
   · rw [Array.getElem?_setIfInBounds_self_of_lt ob]
   · rw [Array.getElem?_setIfInBounds_ne (by omega)]; exact HC2.out
   · have h := hot.out
     rw [Ak _ _ _ (Nat.le_of_eq L1.out)] at h
     exact h
   have h := hme.out
   rw [Ak _ _ _ (Nat.le_of_eq L2.out)] at h
   exact h
 have hlq : j < qb.length := by rw [← L2.out]; exact hlt
 obtain ⟨q1, q2, q3, rd0, rd2⟩ := HO.out wr _ hon.out (by rw [hbk.out])
 have RD := qH rd2
 obtain ⟨a3, c3, rfl, _⟩ := ah RD.out
 obtain ⟨b3, o3, rfl, q4, hIq⟩ := aI RD.out j hlq
 clear rd0 rd2
 obtain ⟨g', o', c', hv, hps, hc, hf, hI, hset⟩ := oN hme.out j (by rw [gG _ _ _ _ (by omega) (by omega)]; omega)
 rw [gG _ _ _ _ (by omega) (by omega)] at hv
 simp only [Value.slice.injEq] at hv
 obtain ⟨rfl, -, rfl⟩ := hv
 rw [uf _ _ _ _ hlt (by omega)] at hc hI
 have gA := GR2.out.get j hlt
 have gB := GQ2.out.get j hlq
 have hz := qH (qF (fun a b => (a - k * b) % p) rb qb j hlt hlq)
 have Ir := qH hset
 have X7 := qH hps
 clear hset hps
 generalize hA : rb[j] = A at *
 generalize hB : qb[j] = B at *
 clear hA hB
 have hm := oO gA gB hp hk0 hk
 have hw1 : IntKind.i64.wrap (k * B) = k * B := i64_in _ (by omega)
 have hw2 : IntKind.i64.wrap (A - k * B) = A - k * B := i64_in _ (by omega)
 have hE0 := Int.emod_nonneg (A - k * B) hp1
 have hE1 := Int.emod_lt_of_pos (A - k * B) (show 0 < p by omega)
 have hN := Ir.out ((A - k * B) % p) ⟨by omega, by omega⟩
 rw [hz.out] at hN
 have HN := qH hN
 clear hN
 have hjr : (j : Int) < rb.length := by omega
 have hjq : (j : Int) < qb.length := by omega
 go_wp2_with fail
 refine BG (fun w' => cV w' b (o + 2) (.slice (some ⟨g', o', none⟩) rb.length c2) ∧ cI w' g' (o' + j) A ∧ cV w' b2 (o2 + 2) (.slice (some ⟨b3, o3, none⟩) qb.length c3) ∧ cI w' b3 (o3 + j) B) [(0, 0), (1, 0), (2, 0), (3, 0), (4, 0), (5, 0), (6, 0), (7, 0), (8, 0), (9, 0), (10, 0), (11, 0), (12, 0), (13, 0), (14, 0), (15, 0), (16, 0), (17, 0), (18, 0), (19, 0), (20, 0), (21, 0), (22, 0), (23, 1), (24, 0), (25, 2)] ?_ ?_
 · exact ⟨q0, hc, q3, q4⟩
 refine nH ?_
 refine wU fun K hK => ?_
 go_wp2_with (go_at_call 262; refine (wV _ p _ (by omega) (by omega)).mono ?_; rintro e1 w1 ⟨rfl, rfl⟩)
 refine ⟨⟨q0, hc, q3, q4⟩, ?_⟩
 refine nH ?_
 refine XU fun K hK => ?_
 go_wp2_with fail
 refine elN ?_
 go_wp2_with fail
 go_roundw
 case rel =>
  have hg : g' ∈ p2 := by rw [X7.out]; simp
  have hgb : g' ≠ b := fun h => hn2 (h ▸ hg)
  have hgo : ∀ z, z ∈ p0 → z ∉ [g'] := fun z hz hz2 => by obtain rfl : z = g' := (by simpa using hz2); exact hd z hz hg
  have hst := (aP.refl [g'] wr.drew).setCell (p := ⟨g', o' + j, none⟩) (by simp) (.int .i64 ((A - k * B) % p))
  refine ⟨j + 1, by omega, by go_num, ?_, ?_, ?_, ?_⟩
  · exact (hon.out.drewN 1).trans (hst.mono (fun z hz => by obtain rfl : z = g' := (by simpa using hz); simp [hg]))
  · exact (hst.block b (by simp; exact fun h => hgb h.symm)).trans hbk.out
  · exact jg HN.out rfl
  exact dZ (jg (w' := wr.drew) hot.out rfl) hst hgo
 simp [intOf]; omega
theorem jZ {P : Program} (w : World) {o : Oper} {a : Act} {K : Act → World → Prop} {Q : Exit → Act → World → Prop} (s x : Operand) (t : TypeId)
 (ho : o.op = .call { callee := .builtin .append, args := #[s, x], argTypes := #[t, t] }) {e : TypeId} {α : Type} [Rep α] {z : Value} {bytes : Nat} (E : iK P t e α z bytes) {v : Value} {n : Nat} {xs : List Value}
 (hs : a.eval s = v) (hrow : w.ownsRow 0 e (sz α) v n xs) {vs : List Value} (hvs : vs.length = sz α) (hone : ∀ u, u ∈ vs → u.oneCell' = true)
 (ad : Addr) (c : Nat) (hx : a.eval x = .slice (some ad) 1 c) (hnews : ∀ j u, vs[j]? = some u → w.cell? (ad.add j) = some u) (hlen : n + 1 ≤ 1073741824)
 (h : ∀ g' c' w', (v.ownBlock = some g' ∨ g' = w.heap.size) → w'.ownsRow 0 e (sz α) (.slice (some ⟨g', 0, none⟩) (n + 1) c') (n + 1) (xs ++ vs) → But v.ownBlock.toList w w' → g' < w'.heap.size → K (a.put o.dst (.slice (some ⟨g', 0, none⟩) (n + 1) c')) w') : o.wp P a w K Q := by
 obtain ⟨i, hi, hz, hsz, hb⟩ := E.info
 have hbytes : (n + 1) * bytes ≤ 140737488355328 := by
  have h1 := E.small
  calc (n + 1) * bytes ≤ 1073741824 * 1000 := Nat.mul_le_mul hlen h1
   _ ≤ _ := by decide
 have hm : n + 1 ≤ maxLen := by unfold maxLen; omega
 obtain ⟨v', w', hr, hown, hgr, hnil, hat⟩ := run_append_own_at (P := P) w 0 t o.type e i z (sz α) bytes E.und hi hz hsz hb E.zs E.pos v n xs hrow ad 1 c vs (by omega) hnews hone hm hbytes (Nat.zero_le _)
 rcases hown.2 with ⟨rfl, h0⟩ | ⟨g', cap, cur, rfl, hg', hh', hc', hm', hs', ht'⟩
 · omega
 have hgg : v.ownBlock = some g' ∨ g' = w.heap.size := by
  rcases hat with h | h
  · exact .inl (by rw [← h]; rfl)
  exact .inr (by simpa [Value.ownBlock] using h)
 have hlt : g' < w'.heap.size := (Array.getElem?_eq_some_iff.1 hh').1
 have Em : But v.ownBlock.toList w w' := ⟨hgr.os, hgr.tape, hgr.output, hgr.size, fun k hk hp => hgr.block k hk (fun e => hp (by rw [← e]; simp))⟩
 unfold Oper.wp execOp
 simp only [ho, resolve, invoke, builtin, Sem.run_bind, Sem.run_pure, Result.andThen_ok, List.map_toArray, List.map_cons, List.map_nil, hs, hx, hr]
 exact h g' cap w' hgg hown Em hlt
theorem vT {P : Program} (w : World) {ops : Array Oper} {rest : List Oper} {o : Oper} {a : Act} {Q : Exit → Act → World → Prop} (hgd : o.guard = none) (s x : Operand) (t : TypeId)
 (ho : o.op = .call { callee := .builtin .append, args := #[s, x], argTypes := #[t, t] }) {e : TypeId} {α : Type} [Rep α] {z : Value} {bytes : Nat} (E : iK P t e α z bytes) {v : Value} {n : Nat} {xs : List Value}
 (hs : a.eval s = v) (hrow : w.ownsRow 0 e (sz α) v n xs) {vs : List Value} (hvs : vs.length = sz α) (hone : ∀ u, u ∈ vs → u.oneCell' = true)
 (ad : Addr) (c : Nat) (hx : a.eval x = .slice (some ad) 1 c) (hnews : ∀ j u, vs[j]? = some u → w.cell? (ad.add j) = some u) (hlen : n + 1 ≤ 1073741824)
 (h : ∀ g' c' w', (v.ownBlock = some g' ∨ g' = w.heap.size) → w'.ownsRow 0 e (sz α) (.slice (some ⟨g', 0, none⟩) (n + 1) c') (n + 1) (xs ++ vs) → But v.ownBlock.toList w w' → g' < w'.heap.size → wpList P ops Q rest (a.put o.dst (.slice (some ⟨g', 0, none⟩) (n + 1) c')) w') : wpList P ops Q (o :: rest) a w :=
 wpList_plain hgd fun _ hK => jZ w s x t ho E hs hrow hvs hone ad c hx hnews hlen fun g' c' w' h1 h2 h3 h4 => hK _ _ (h g' c' w' h1 h2 h3 h4)
theorem rV {size : Nat} (w : World) (e : TypeId) : (w.alloc (.cells #[] e)).ownsRow 0 e size (.slice (some ⟨w.heap.size, 0, none⟩) 0 0) 0 [] := by
 have h := World.ownsRow_made (e := e) (size := size) w #[] 0 (Nat.zero_le _) (Nat.zero_le _) (by simp)
 exact h
theorem lK {w w' : World} {e : TypeId} {size : Nat} {v : Value} {n : Nat} {xs : List Value} (h : w.ownsRow 0 e size v n xs) (hb : ∀ g, v.ownBlock = some g → w'.heap[g]? = w.heap[g]?) : w'.ownsRow 0 e size v n xs := by
 refine ⟨h.1, ?_⟩
 rcases h.2 with hn | ⟨g, cap, cur, rfl, hg, hgg, rest⟩
 · exact .inl hn
 exact .inr ⟨g, cap, cur, rfl, hg, by rw [hb g rfl]; exact hgg, rest⟩
theorem yE {α : Type} [Rep α] {w : World} {e : TypeId} {v : Value} {l : List α} {xs : List Value} {cZ : List (List Nat)} (h : w.ownsRow 0 e (sz α) v l.length xs) (hp : cZ.length = l.length)
 (hel : ∀ i (hi : i < l.length), ∃ p vs, cZ[i]? = some p ∧ Own p w vs l[i] ∧ ∀ k, k < vs.length → xs[i * sz α + k]? = vs[k]?) : bY (v.ownBlock.toList ++ List.flatten cZ) w v l := by
 rcases h.2 with ⟨rfl, h0⟩ | ⟨g, cap, cur, rfl, _, hh, hn, hm, hsz, ht⟩
 · have hl : l = [] := List.eq_nil_of_length_eq_zero h0
   subst hl
   have : cZ = [] := List.eq_nil_of_length_eq_zero (by simpa using hp)
   subst this
   exact .inl ⟨rfl, rfl, none, 0, rfl, Nat.zero_le _⟩
 refine .inr ⟨g, 0, cap, cur, e, cZ, rfl, hn, hm, hh, by simp [Value.ownBlock], hp, fun i hi => ?_⟩
 obtain ⟨p, vs, h1, h2, h3⟩ := hel i hi
 refine ⟨p, vs, h1, h2, fun k hk => ?_⟩
 rw [← h3 k hk, ← ht]
 have hv := Rep.dI (Rep.bP h2)
 have hlt : i * sz α + k < l.length * sz α := by
  have : (i + 1) * sz α ≤ l.length * sz α := Nat.mul_le_mul_right _ hi
  rw [Nat.add_mul] at this; omega
 rw [List.getElem?_take_of_lt hlt, Nat.zero_add]
 simp
theorem E5 {α : Type} [Rep α] {w : World} {l : List α} {x : α} {xs us : List Value} {cZ : List (List Nat)} {q : List Nat} (hxs : xs.length = l.length * sz α) (hp : cZ.length = l.length)
 (hel : ∀ i (hi : i < l.length), ∃ p vs, cZ[i]? = some p ∧ Own p w vs l[i] ∧ ∀ k, k < vs.length → xs[i * sz α + k]? = vs[k]?) (hx : Own q w us x) :
 ∀ i (hi : i < (l ++ [x]).length), ∃ p vs, (cZ ++ [q])[i]? = some p ∧ Own p w vs (l ++ [x])[i] ∧ ∀ k, k < vs.length → (xs ++ us)[i * sz α + k]? = vs[k]? := by
 intro i hi
 by_cases h : i < l.length
 · obtain ⟨p, vs, h1, h2, h3⟩ := hel i h
   refine ⟨p, vs, by rw [List.getElem?_append_left (by omega)]; exact h1, by rw [List.getElem_append_left h]; exact h2, fun k hk => ?_⟩
   have hv := Rep.dI (Rep.bP h2)
   have hlt : i * sz α + k < l.length * sz α := by
    have : (i + 1) * sz α ≤ l.length * sz α := Nat.mul_le_mul_right _ h
    rw [Nat.add_mul] at this; omega
   rw [List.getElem?_append_left (by omega)]
   exact h3 k hk
 have hi' : i = l.length := by simp at hi; omega
 subst hi'
 refine ⟨q, us, by rw [List.getElem?_append_right (by omega), hp]; simp, by simpa using hx, fun k hk => ?_⟩
 rw [List.getElem?_append_right (by omega), hxs]
 congr 1
 omega
theorem X8 {α : Type} [Rep α] {ps qs : List Nat} {w w' : World} {v : Value} {l : List α} (h : bY ps w v l) (hb : But qs w w') (hd : ∀ k, k ∈ ps → k ∉ qs) : bY ps w' v l := by
 have h2 := Own.but (vs := [v]) (x := l) ⟨v, rfl, h⟩ hb hd
 exact jS h2
theorem Bh (a : Option Addr) (n c : Nat) (i : Int) : ∀ u, u ∈ [Value.slice a n c, .int .i64 i] → u.oneCell' = true := by
 intro u hu
 simp only [List.mem_cons, List.not_mem_nil, or_false] at hu
 rcases hu with rfl | rfl <;> rfl
theorem E8 {w : World} {b : Nat} {v0 v1 : Value} (h0 : w.cell? ⟨b, 0, none⟩ = some v0) (h1 : w.cell? ⟨b, 1, none⟩ = some v1) : ∀ j u, [v0, v1][j]? = some u → w.cell? ((⟨b, 0, none⟩ : Addr).add j) = some u := by
 intro j u hj
 match j with
 | 0 => simp at hj; subst hj; exact h0
 | 1 => simp at hj; subst hj; exact h1
 | j + 2 => simp at hj
theorem ZO {w : World} {B : Nat} {e : TypeId} {size : Nat} {v : Value} {n : Nat} {xs : List Value} (h : w.ownsRow B e size v n xs) : w.ownsRow 0 e size v n xs := by
 refine ⟨h.1, ?_⟩
 rcases h.2 with hn | ⟨g, cap, cur, rfl, hg, rest⟩
 · exact .inl hn
 exact .inr ⟨g, cap, cur, rfl, Nat.zero_le _, rest⟩
theorem qB {w : World} {b : Nat} {v0 : Value} (h0 : w.cell? ⟨b, 0, none⟩ = some v0) : ∀ j u, [v0][j]? = some u → w.cell? ((⟨b, 0, none⟩ : Addr).add j) = some u := by
 intro j u hj
 match j with
 | 0 => simp at hj; subst hj; exact h0
 | j + 1 => simp at hj
structure nN (A : Nat → Prop) (w w' : World) : Prop where
 os : w'.os = w.os
 tape : w'.tape = w.tape
 output : w'.output = w.output
 size : w.heap.size ≤ w'.heap.size
 block : ∀ k, k < w.heap.size → ¬ A k → w'.heap[k]? = w.heap[k]?
theorem nN.refl (A : Nat → Prop) (w : World) : nN A w w := ⟨rfl, rfl, rfl, Nat.le_refl _, fun _ _ _ => rfl⟩
theorem nN.of {A : Nat → Prop} {w w' : World} (h : Below w.heap.size w w') : nN A w w' := ⟨h.os, h.tape, h.output, h.size, fun k hk _ => h.block k hk⟩
theorem But.lU {A : Nat → Prop} {ps : List Nat} {w w' : World} (h : But ps w w') (hA : ∀ k, k ∈ ps → A k) : nN A w w' := ⟨h.os, h.tape, h.output, h.size, fun k hk hn => h.block k hk (fun hp => hn (hA k hp))⟩
theorem nN.trans {A C : Nat → Prop} {a b c : World} (h : nN A a b) (k : nN C b c) (hC : ∀ z, C z → A z ∨ a.heap.size ≤ z) : nN A a c :=
 ⟨k.os.trans h.os, k.tape.trans h.tape, k.output.trans h.output, Nat.le_trans h.size k.size, fun i hi hn => (k.block i (Nat.lt_of_lt_of_le hi h.size) (fun hc => by rcases hC i hc with h1 | h1; exact hn h1; omega)).trans (h.block i hi hn)⟩
theorem nN.wk {A C : Nat → Prop} {w w' : World} (h : nN A w w') (hA : ∀ k, A k → C k) : nN C w w' := ⟨h.os, h.tape, h.output, h.size, fun k hk hn => h.block k hk (fun ha => hn (hA k ha))⟩
theorem nN.below {A : Nat → Prop} {B : Nat} {w w' : World} (h : nN A w w') (hA : ∀ k, A k → B ≤ k) (hB : B ≤ w.heap.size) : Below B w w' :=
 ⟨h.os, h.tape, h.output, h.size, fun k hk => h.block k (by omega) (fun ha => by have := hA k ha; omega)⟩
theorem Own.lU {α : Type} [Rep α] {A : Nat → Prop} {ps : List Nat} {w w' : World} {vs : List Value} {x : α} (h : Own ps w vs x) (hb : nN A w w') (hd : ∀ k, k ∈ ps → ¬ A k) : Own ps w' vs x :=
 Rep.dY (fun k hk => hb.block k (Rep.jK h k hk) (hd k hk)) h
theorem Ip.lU {α : Type} [Rep α] {A C : Nat → Prop} {w w' : World} {vs : List Value} {x : α} (h : Ip C w vs x) (hb : nN A w w') (hd : ∀ k, C k → ¬ A k) : Ip C w' vs x := by
 obtain ⟨ps, h1, h2, h3⟩ := h
 exact ⟨ps, Own.lU h1 hb (fun k hk => hd k (h3 k hk)), h2, h3⟩
theorem alf {A : Nat → Prop} {w w' : World} {b o : Nat} {v : Value} (hb : nN A w w') (h : w.cell? ⟨b, o, none⟩ = some v) (hA : ¬ A b) : w'.cell? ⟨b, o, none⟩ = some v :=
 uw h (hb.block b (World.block_lt_of_cell? w _ h) hA)
def bM {α : Type} [Rep α] (A : Nat → Prop) (e : TypeId) (w : World) (v : Value) (l : List α) : Prop :=
 ∃ (xs : List Value) (cZ : List (List Nat)), w.ownsRow 0 e (sz α) v l.length xs ∧ cZ.length = l.length ∧ (v.ownBlock.toList ++ List.flatten cZ).Nodup ∧ (∀ k, k ∈ v.ownBlock.toList ++ List.flatten cZ → A k ∧ k < w.heap.size) ∧
  ∀ i (h : i < l.length), ∃ p vs, cZ[i]? = some p ∧ Own p w vs l[i] ∧ ∀ k, k < vs.length → xs[i * sz α + k]? = vs[k]?
theorem Acc.alg {α : Type} [Rep α] {B H : Nat} {e : TypeId} {w : World} {v : Value} {l : List α} (h : Acc B H e w v l) (hH : H ≤ w.heap.size) : bM (fun k => B ≤ k ∧ k < H) e w v l := by
 obtain ⟨xs, cZ, h1, h2, h3, h4, h5⟩ := h
 exact ⟨xs, cZ, ZO h1, h2, h3, fun k hk => ⟨h4 k hk, by have := (h4 k hk).2; omega⟩, h5⟩
theorem bM.wk {α : Type} [Rep α] {A C : Nat → Prop} {e : TypeId} {w : World} {v : Value} {l : List α} (h : bM A e w v l) (hA : ∀ k, A k → C k) : bM C e w v l := by
 obtain ⟨xs, cZ, h1, h2, h3, h4, h5⟩ := h
 exact ⟨xs, cZ, h1, h2, h3, fun k hk => ⟨hA k (h4 k hk).1, (h4 k hk).2⟩, h5⟩
theorem bM.frame {α : Type} [Rep α] {A : Nat → Prop} {e : TypeId} {w w' : World} {v : Value} {l : List α} (h : bM A e w v l) (hs : w.heap.size ≤ w'.heap.size) (hb : ∀ k, A k → k < w.heap.size → w'.heap[k]? = w.heap[k]?) : bM A e w' v l := by
 obtain ⟨xs, cZ, h1, h2, h3, h4, h5⟩ := h
 refine ⟨xs, cZ, lK h1 (fun g hg => ?_), h2, h3, fun k hk => ⟨(h4 k hk).1, Nat.lt_of_lt_of_le (h4 k hk).2 hs⟩, fun i hi => ?_⟩
 · have := h4 g (by simp [hg]); exact hb g this.1 this.2
 obtain ⟨p, vs, hp, hO, hc⟩ := h5 i hi
 refine ⟨p, vs, hp, Rep.dY (fun k hk => ?_) hO, hc⟩
 have := h4 k (List.mem_append.2 (.inr (List.mem_flatten.2 ⟨p, List.mem_of_getElem? hp, hk⟩)))
 exact hb k this.1 this.2
theorem bM.mono {α : Type} [Rep α] {A : Nat → Prop} {e : TypeId} {w w' : World} {v : Value} {l : List α} (h : bM A e w v l) (hb : Below w.heap.size w w') : bM A e w' v l :=
 h.frame hb.size (fun k _ hk => hb.block k hk)
theorem bM.lU {α : Type} [Rep α] {A C : Nat → Prop} {e : TypeId} {w w' : World} {v : Value} {l : List α} (h : bM A e w v l) (hb : nN C w w') (hd : ∀ k, A k → ¬ C k) : bM A e w' v l :=
 h.frame hb.size (fun k hA hk => hb.block k hk (hd k hA))
theorem bM.ip {α : Type} [Rep α] {A : Nat → Prop} {e : TypeId} {w : World} {v : Value} {l : List α} (h : bM A e w v l) : Ip A w [v] l := by
 obtain ⟨xs, cZ, h1, h2, h3, h4, h5⟩ := h
 exact ⟨_, ⟨v, rfl, yE h1 h2 h5⟩, h3, fun k hk => (h4 k hk).1⟩
theorem bM.rd {α : Type} [Rep α] {A : Nat → Prop} {e : TypeId} {w : World} {v : Value} {l : List α} (h : bM A e w v l) : Rd w [v] l := h.ip.rd
theorem bM.len {α : Type} [Rep α] {A : Nat → Prop} {e : TypeId} {w : World} {v : Value} {l : List α} (h : bM A e w v l) : ∃ a c, v = .slice a l.length c ∧ l.length ≤ maxLen := by
 obtain ⟨xs, cZ, h1, h2, h3, h4, h5⟩ := h
 rcases h1.2 with ⟨rfl, h0⟩ | ⟨g, cap, cur, rfl, hg, hh, hc, hm, hs, ht⟩
 · exact ⟨none, 0, by rw [h0], by omega⟩
 exact ⟨_, cap, rfl, Nat.le_trans hc hm⟩
theorem bM.nil {α : Type} [Rep α] (A : Nat → Prop) (e : TypeId) (w : World) : bM (α := α) A e w (.slice none 0 0) [] :=
 ⟨[], [], World.ownsRow_nil w 0 e _, rfl, by simp [Value.ownBlock], by simp [Value.ownBlock], fun i h => absurd h (Nat.not_lt_zero _)⟩
theorem qM {α : Type} [Rep α] (w : World) (e : TypeId) : bM (α := α) (fun k => k = w.heap.size) e (w.alloc (.cells #[] e)) (.slice (some ⟨w.heap.size, 0, none⟩) 0 0) [] :=
 ⟨[], [], rV w e, rfl, by simp [Value.ownBlock], by simp [Value.ownBlock], fun i h => absurd h (Nat.not_lt_zero _)⟩
theorem X9 {α : Type} [Rep α] {A C : Nat → Prop} {e : TypeId} {w w' : World} {v : Value} {l : List α} {y : α} {vs : List Value} {xs : List Value} {cZ : List (List Nat)} {g' c' : Nat}
 (h1 : w.ownsRow 0 e (sz α) v l.length xs) (h2 : cZ.length = l.length) (h3 : (v.ownBlock.toList ++ List.flatten cZ).Nodup) (h4 : ∀ k, k ∈ v.ownBlock.toList ++ List.flatten cZ → A k ∧ k < w.heap.size)
 (h5 : ∀ i (h : i < l.length), ∃ p vs, cZ[i]? = some p ∧ Own p w vs l[i] ∧ ∀ k, k < vs.length → xs[i * sz α + k]? = vs[k]?) (hy : Ip C w vs y) (hd : ∀ k, A k → ¬ C k)
 (hg : v.ownBlock = some g' ∨ g' = w.heap.size) (hrow : w'.ownsRow 0 e (sz α) (.slice (some ⟨g', 0, none⟩) (l.length + 1) c') (l.length + 1) (xs ++ vs)) (hb : But v.ownBlock.toList w w') (hlt : g' < w'.heap.size) :
 bM (fun k => A k ∨ C k ∨ k = w.heap.size) e w' (.slice (some ⟨g', 0, none⟩) (l.length + 1) c') (l ++ [y]) ∧ nN A w w' := by
 obtain ⟨q, hq, hqn, hqC⟩ := hy
 have P6 := Rep.jK hq
 rw [List.nodup_append] at h3
 obtain ⟨n1, n2, n3⟩ := h3
 have hown : ∀ k, k ∈ v.ownBlock.toList → A k ∧ k < w.heap.size := fun k hk => h4 k (List.mem_append.2 (.inl hk))
 have hfl : ∀ k, k ∈ List.flatten cZ → A k ∧ k < w.heap.size := fun k hk => h4 k (List.mem_append.2 (.inr hk))
 have hg2 : ∀ k, k ∈ List.flatten cZ → k ≠ g' := fun k hk e => by
  subst e
  rcases hg with h | h
  · exact n3 k (by simp [h]) k hk rfl
  · have := (hfl k hk).2; omega
 have hg3 : ∀ k, k ∈ q → k ≠ g' := fun k hk e => by
  subst e
  rcases hg with h | h
  · exact hd k (hown k (by simp [h])).1 (hqC k hk)
  · have := P6 k hk; omega
 refine ⟨⟨xs ++ vs, cZ ++ [q], by simpa using hrow, by simp [h2], ?_, ?_, ?_⟩, hb.lU (fun k hk => (hown k hk).1)⟩
 · simp only [Value.ownBlock, Option.toList_some, List.singleton_append, List.flatten_append, List.flatten_cons, List.flatten_nil, List.append_nil, List.nodup_cons, List.mem_append, not_or]
   refine ⟨⟨fun h => hg2 _ h rfl, fun h => hg3 _ h rfl⟩, List.nodup_append.2 ⟨n2, hqn, fun a ha b hb2 e => ?_⟩⟩
   subst e
   exact hd a (hfl a ha).1 (hqC a hb2)
 · intro k hk
   simp only [Value.ownBlock, Option.toList_some, List.singleton_append, List.flatten_append, List.flatten_cons, List.flatten_nil, List.append_nil, List.mem_cons, List.mem_append] at hk
   rcases hk with rfl | hk | hk
   · refine ⟨?_, hlt⟩
     rcases hg with h | h
     · exact .inl (hown k (by simp [h])).1
     exact .inr (.inr h)
   · exact ⟨.inl (hfl k hk).1, Nat.lt_of_lt_of_le (hfl k hk).2 hb.size⟩
   exact ⟨.inr (.inl (hqC k hk)), Nat.lt_of_lt_of_le (P6 k hk) hb.size⟩
 refine E5 (by have := h1.1; simpa using this) h2 (fun i hi => ?_) (Own.but hq hb (fun k hk hm => hd k (hown k hm).1 (hqC k hk)))
 obtain ⟨p, us, hp, hO, hc⟩ := h5 i hi
 exact ⟨p, us, hp, Own.but hO hb (fun k hk hm => n3 k hm k (List.mem_flatten.2 ⟨p, List.mem_of_getElem? hp, hk⟩) rfl), hc⟩
theorem Iu {P : Program} (w : World) {o : Oper} {a : Act} {K : Act → World → Prop} {Q : Exit → Act → World → Prop} (s x : Operand) (t : TypeId)
 (ho : o.op = .call { callee := .builtin .append, args := #[s, x], argTypes := #[t, t] }) {e : TypeId} {α : Type} [Rep α] {z : Value} {bytes : Nat} (E : iK P t e α z bytes) {v : Value} {l : List α} {A C : Nat → Prop}
 (hs : a.eval s = v) (hacc : bM A e w v l) {y : α} {vs : List Value} (hy : Ip C w vs y) (hd : ∀ k, A k → ¬ C k)
 (ad : Addr) (c : Nat) (hx : a.eval x = .slice (some ad) 1 c) (hnews : ∀ j u, vs[j]? = some u → w.cell? (ad.add j) = some u) (hlen : l.length + 1 ≤ 1073741824)
 (h : ∀ a' c' w', bM (fun k => A k ∨ C k ∨ k = w.heap.size) e w' (.slice a' (l.length + 1) c') (l ++ [y]) → nN A w w' → K (a.put o.dst (.slice a' (l.length + 1) c')) w') : o.wp P a w K Q := by
 obtain ⟨xs, cZ, h1, h2, h3, h4, h5⟩ := hacc
 exact jZ w s x t ho E hs h1 (Rep.dI hy.rd) (Rep.yc hy.rd) ad c hx hnews hlen (fun g' c' w' hg hrow hb hlt => by
  obtain ⟨r1, r2⟩ := X9 h1 h2 h3 h4 h5 hy hd hg hrow hb hlt
  exact h _ c' w' r1 r2)
theorem bW {P : Program} (w : World) {ops : Array Oper} {rest : List Oper} {o : Oper} {a : Act} {Q : Exit → Act → World → Prop} (hgd : o.guard = none) (s x : Operand) (t : TypeId)
 (ho : o.op = .call { callee := .builtin .append, args := #[s, x], argTypes := #[t, t] }) {e : TypeId} {α : Type} [Rep α] {z : Value} {bytes : Nat} (E : iK P t e α z bytes) {v : Value} {l : List α} {A C : Nat → Prop}
 (hs : a.eval s = v) (hacc : bM A e w v l) {y : α} {vs : List Value} (hy : Ip C w vs y) (hd : ∀ k, A k → ¬ C k)
 (ad : Addr) (c : Nat) (hx : a.eval x = .slice (some ad) 1 c) (hnews : ∀ j u, vs[j]? = some u → w.cell? (ad.add j) = some u) (hlen : l.length + 1 ≤ 1073741824)
 (h : ∀ a' c' w', bM (fun k => A k ∨ C k ∨ k = w.heap.size) e w' (.slice a' (l.length + 1) c') (l ++ [y]) → nN A w w' → wpList P ops Q rest (a.put o.dst (.slice a' (l.length + 1) c')) w') : wpList P ops Q (o :: rest) a w :=
 wpList_plain hgd fun _ hK => Iu w s x t ho E hs hacc hy hd ad c hx hnews hlen fun a' c' w' h1 h2 => hK _ _ (h a' c' w' h1 h2)
theorem bM.tight {α : Type} [Rep α] {A : Nat → Prop} {e : TypeId} {w : World} {v : Value} {l : List α} (h : bM A e w v l) : bM (fun k => A k ∧ k < w.heap.size) e w v l := by
 obtain ⟨xs, cZ, h1, h2, h3, h4, h5⟩ := h
 exact ⟨xs, cZ, h1, h2, h3, fun k hk => ⟨h4 k hk, (h4 k hk).2⟩, h5⟩
theorem aQ.ip {α : Type} [Rep α] {lo : Nat} {w : World} {vs : List Value} {x : α} (h : aQ lo w vs x) : Ip (fun k => lo ≤ k ∧ k < w.heap.size) w vs x := by
 obtain ⟨ps, h1, h2, h3⟩ := h
 exact ⟨ps, h1, h2, fun k hk => ⟨h3 k hk, Rep.jK h1 k hk⟩⟩
theorem Ip.fresh {α : Type} [Rep α] {A : Nat → Prop} {lo : Nat} {w : World} {vs : List Value} {x : α} (h : Ip A w vs x) (hA : ∀ k, A k → lo ≤ k) : aQ lo w vs x := by
 obtain ⟨ps, h1, h2, h3⟩ := h
 exact ⟨ps, h1, h2, fun k hk => hA k (h3 k hk)⟩
theorem St.lU {w : World} {B : Nat} {wr w1 : World} {bx : List (Nat × Array Value × TypeId)} (h : St w B wr bx) {A : Nat → Prop} (hb : nN A wr w1) (hA : ∀ k, A k → w.heap.size ≤ k) (hx : ∀ x, x ∈ bx → ¬ A x.1) : St w B w1 bx :=
 ⟨h.bel.trans (hb.below hA (Nat.le_trans h.lo h.hi)), h.lo, Nat.le_trans h.hi hb.size, fun x hm => by
  have h1 := h.box x hm
  exact ⟨h1.1, h1.2.1, by rw [hb.block _ (Nat.lt_of_lt_of_le h1.2.1 h.hi) (hx x hm)]; exact h1.2.2⟩⟩
theorem bM.setCell {α : Type} [Rep α] {A : Nat → Prop} {e : TypeId} {w : World} {v : Value} {l : List α} (h : bM A e w v l) {b o : Nat} (u : Value) (hA : ¬ A b) : bM A e (w.setCell ⟨b, o, none⟩ u) v l :=
 h.frame (by simp [World.setCell]) (fun k hk _ => Below.heap_setCell _ _ _ _ (fun e => by subst e; exact hA hk))
theorem Ip.setCell {α : Type} [Rep α] {A : Nat → Prop} {w : World} {vs : List Value} {x : α} (h : Ip A w vs x) {b o : Nat} (u : Value) (hA : ¬ A b) : Ip A (w.setCell ⟨b, o, none⟩ u) vs x :=
 h.frame (fun k hk _ => Below.heap_setCell _ _ _ _ (fun e => hA (by simp only at e; rw [← e]; exact hk)))
def eu (size : Int) : Nat → Int → List Int
 | 0, _ => []
 | m + 1, n => eu size m (n / size) ++ [n % size]
@[simp] theorem iH (size : Int) (m : Nat) (n : Int) : (eu size m n).length = m := by
 induction m generalizing n with
 | zero => rfl
 | succ m ih => simp [eu, ih]
theorem kK (size : Int) (hs : 0 < size) (m : Nat) (n : Int) : ∀ a, a ∈ eu size m n → 0 ≤ a ∧ a < size := by
 induction m generalizing n with
 | zero => intro a ha; cases ha
 | succ m ih =>
  intro a ha
  rcases List.mem_append.1 ha with h | h
  · exact ih _ a h
  obtain rfl : a = n % size := by simpa using h
  exact ⟨Int.emod_nonneg _ (by omega), Int.emod_lt_of_pos _ hs⟩
theorem WM (j : Nat) (t : List Int) (x : Int) (h : 0 < j) : (List.replicate j 0 ++ t).set (j - 1) x = List.replicate (j - 1) 0 ++ x :: t := by
 obtain ⟨k, rfl⟩ : ∃ k, j = k + 1 := ⟨j - 1, by omega⟩
 rw [show List.replicate (k + 1) (0 : Int) = List.replicate k 0 ++ [0] from List.replicate_succ']
 simp [List.set_append]
theorem Di (size many index : Int) (w : World) (hs : 0 < size) (hs2 : size ≤ 1000000) (hm : 0 ≤ many) (hm2 : many ≤ 1000000) (hi : 0 ≤ index) (hi2 : index ≤ 1000000000000) :
 Calls prog 272 #[.int .i64 size, .int .i64 many, .int .i64 index] w fun e w' => ∃ v', e = .returned v' ∧ aQ w.heap.size w' [v'] (eu size many.toNat index) ∧ Below w.heap.size w w' := by
 obtain ⟨n, rfl⟩ := Int.eq_ofNat_of_zero_le hm
 rw [Int.toNat_natCast]
 go_enter func272, ntmps272
 go_wp2_with (at_make; refine bV w rfl _ _ 28 rfl eH (0 : Int) iL n (by omega) rfl rfl ?_)
 intro w1 hown hb1 hs1
 have HO := qH hown
 have HB := qH hb1
 clear hown hb1
 go_wp2
 go_loopw [2, 8] (fun ix i wr => ∃ (j : Nat) (x : Int) (t : List Int), j ≤ n ∧ 0 ≤ x ∧ x ≤ 1000000000000 ∧ ix = .int .i64 x ∧ i = .int .i64 ((j : Int) - 1) ∧ Hid (t.length = n - j) ∧ Hid (eu size n index = eu size j x ++ t) ∧
  Hid (aP [w.heap.size] w1 wr) ∧ Hid (bY [w.heap.size] wr (.slice (some ⟨w.heap.size, 0, none⟩) n n) (List.replicate j 0 ++ t))) (fun _ i _ => (intOf i + 1).toNat)
 case atStart => exact ⟨n, index, [], Nat.le_refl _, hi, hi2, rfl, rfl, by simp [Hid], by simp [Hid], aP.refl _ _, by simpa [Hid] using HO.out⟩
 obtain ⟨j, x, t, hj, hx, hx2, rfl, rfl, ht, hd, ho, hw⟩ := hrel
 by_cases hlt : 0 < j
 rotate_left
 · obtain rfl : j = 0 := by omega
   go_wp2
   go_ret
   refine ⟨_, rfl, ⟨[w.heap.size], ⟨_, rfl, ?_⟩, by simp, by simp⟩, HB.out.trans (ho.out.below (by simp))⟩
   have h5 := hw.out
   have h6 := hd.out
   simp only [eu, List.nil_append] at h6
   rw [h6]
   simpa using h5
 obtain ⟨g, o', c', hv, hps, hcd, hf, hset⟩ := lF hw.out (j - 1) (by simp; omega)
 simp only [Value.slice.injEq, Option.some.injEq, Addr.mk.injEq] at hv
 obtain ⟨⟨rfl, rfl, _⟩, _, rfl⟩ := hv
 have h1 := Int.emod_nonneg x (by omega : size ≠ 0)
 have h2 := Int.emod_lt_of_pos x hs
 have h3 : 0 ≤ x / size := Int.ediv_nonneg hx (by omega)
 have h4 : x / size ≤ x := Int.ediv_le_self _ hx
 have HS := qH (hset (x % size) (jf _ h1 (by omega)))
 rw [WM _ _ _ hlt] at HS
 rw [Nat.zero_add] at hcd hf HS
 have ej : ((j : Int) - 1).toNat = j - 1 := by omega
 have e1 : 0 ≤ (j : Int) - 1 := by omega
 have e2 : (j : Int) - 1 < n := by omega
 clear hset hw hps
 go_wp2
 go_roundw
 case rel =>
  refine ⟨j - 1, x / size, x % size :: t, by omega, h3, by omega, rfl, ?_, ?_, ?_, ?_, ?_⟩
  · congr 1; omega
  · have := ht.out; simp only [Hid, List.length_cons]; omega
  · have := hd.out
    obtain ⟨k, rfl⟩ : ∃ k, j = k + 1 := ⟨j - 1, by omega⟩
    simp only [eu, List.append_assoc, List.cons_append, List.nil_append] at this
    exact this
  · exact aP.setCell ho.out (by simp) _
  exact HS.out
 simp [intOf]; omega
theorem zO (size many index : Int) (w : World) (hs : 0 < size) (hs2 : size ≤ 1000000) (hm : 0 ≤ many) (hm2 : many ≤ 1000000) (hi : 0 ≤ index) (hi2 : index ≤ 1000000000000) :
 Calls prog 261 #[.int .i64 size, .int .i64 many, .int .i64 index] w fun e w' => ∃ v', e = .returned v' ∧ aQ w.heap.size w' [v'] (eu size many.toNat index) ∧ Below w.heap.size w w' := by
 obtain ⟨n, rfl⟩ := Int.eq_ofNat_of_zero_le hm
 rw [Int.toNat_natCast]
 go_enter func261, ntmps261
 go_wp2_with (at_make; refine bV w rfl _ _ 28 rfl eH (0 : Int) iL n (by omega) rfl rfl ?_)
 intro w1 hown hb1 hs1
 have HO := qH hown
 have HB := qH hb1
 clear hown hb1
 go_wp2
 go_loopw [2, 8] (fun ix i wr => ∃ (j : Nat) (x : Int) (t : List Int), j ≤ n ∧ 0 ≤ x ∧ x ≤ 1000000000000 ∧ ix = .int .i64 x ∧ i = .int .i64 ((j : Int) - 1) ∧ Hid (t.length = n - j) ∧ Hid (eu size n index = eu size j x ++ t) ∧
  Hid (aP [w.heap.size] w1 wr) ∧ Hid (bY [w.heap.size] wr (.slice (some ⟨w.heap.size, 0, none⟩) n n) (List.replicate j 0 ++ t))) (fun _ i _ => (intOf i + 1).toNat)
 case atStart => exact ⟨n, index, [], Nat.le_refl _, hi, hi2, rfl, rfl, by simp [Hid], by simp [Hid], aP.refl _ _, by simpa [Hid] using HO.out⟩
 obtain ⟨j, x, t, hj, hx, hx2, rfl, rfl, ht, hd, ho, hw⟩ := hrel
 by_cases hlt : 0 < j
 rotate_left
 · obtain rfl : j = 0 := by omega
   go_wp2
   go_ret
   refine ⟨_, rfl, ⟨[w.heap.size], ⟨_, rfl, ?_⟩, by simp, by simp⟩, HB.out.trans (ho.out.below (by simp))⟩
   have h5 := hw.out
   have h6 := hd.out
   simp only [eu, List.nil_append] at h6
   rw [h6]
   simpa using h5
 obtain ⟨g, o', c', hv, hps, hcd, hf, hset⟩ := lF hw.out (j - 1) (by simp; omega)
 simp only [Value.slice.injEq, Option.some.injEq, Addr.mk.injEq] at hv
 obtain ⟨⟨rfl, rfl, _⟩, _, rfl⟩ := hv
 have h1 := Int.emod_nonneg x (by omega : size ≠ 0)
 have h2 := Int.emod_lt_of_pos x hs
 have h3 : 0 ≤ x / size := Int.ediv_nonneg hx (by omega)
 have h4 : x / size ≤ x := Int.ediv_le_self _ hx
 have HS := qH (hset (x % size) (jf _ h1 (by omega)))
 rw [WM _ _ _ hlt] at HS
 rw [Nat.zero_add] at hcd hf HS
 have ej : ((j : Int) - 1).toNat = j - 1 := by omega
 have e1 : 0 ≤ (j : Int) - 1 := by omega
 have e2 : (j : Int) - 1 < n := by omega
 clear hset hw hps
 go_wp2
 go_roundw
 case rel =>
  refine ⟨j - 1, x / size, x % size :: t, by omega, h3, by omega, rfl, ?_, ?_, ?_, ?_, ?_⟩
  · congr 1; omega
  · have := ht.out; simp only [Hid, List.length_cons]; omega
  · have := hd.out
    obtain ⟨k, rfl⟩ : ∃ k, j = k + 1 := ⟨j - 1, by omega⟩
    simp only [eu, List.append_assoc, List.cons_append, List.nil_append] at this
    exact this
  · exact aP.setCell ho.out (by simp) _
  exact HS.out
 simp [intOf]; omega
theorem En {s : Int} {a b : Nat} (hs : 1 ≤ s) (h : a ≤ b) : s ^ a ≤ s ^ b := by
 induction b with
 | zero => obtain rfl : a = 0 := (by omega); exact Int.le_refl _
 | succ b ih =>
  by_cases hab : a = b + 1
  · rw [hab]; exact Int.le_refl _
  have := ih (by omega)
  have h2 : (0 : Int) ≤ s ^ b := Int.pow_nonneg (by omega)
  calc s ^ a ≤ s ^ b := this
   _ = s ^ b * 1 := by omega
   _ ≤ s ^ b * s := Int.mul_le_mul_of_nonneg_left hs h2
   _ = s ^ (b + 1) := (Int.pow_succ _ _).symm
theorem Ar (size many : Int) (w : World) (hs : 0 ≤ size) (hm : 0 ≤ many) (hm2 : many ≤ 1000000) (hp : size ^ many.toNat ≤ 1000000000000) :
 Calls prog 229 #[.int .i64 size, .int .i64 many] w fun e w' => e = .returned (.int .i64 (size ^ many.toNat)) ∧ w = w' := by
 obtain ⟨n, rfl⟩ := Int.eq_ofNat_of_zero_le hm
 rw [Int.toNat_natCast] at hp ⊢
 go_enter func229, ntmps229
 go_wp2
 go_loop [5, 7] (fun p i => ∃ j : Nat, j ≤ n ∧ i = .int .i64 j ∧ ∃ q : Int, 0 ≤ q ∧ q ≤ 1000000000000 ∧ Hid (q = size ^ j) ∧ p = .int .i64 q) (fun _ i => n - (intOf i).toNat)
 case atStart => exact ⟨0, Nat.zero_le _, rfl, 1, by omega, by omega, by simp [Hid], rfl⟩
 obtain ⟨j, hj, rfl, q, hq0, hq1, hq, rfl⟩ := hrel
 by_cases hlt : j < n
 rotate_left
 · obtain rfl : j = n := by omega
   go_wp2
   go_ret
   exact ⟨aU hq.out, rfl⟩
 have e1 : q * size = size ^ (j + 1) := by rw [hq.out, Int.pow_succ]
 have e2 : q * size ≤ 1000000000000 := by
  rcases (show size = 0 ∨ 1 ≤ size by omega) with h0 | h0
  · rw [h0]; omega
  rw [e1]; exact Int.le_trans (En h0 hlt) hp
 have e3 : 0 ≤ q * size := Int.mul_nonneg hq0 (by omega)
 have E1 := qH e1
 clear e1
 go_wp2
 go_round
 case rel => exact ⟨j + 1, by omega, by go_num, q * size, e3, e2, E1.out, rfl⟩
 simp [intOf]; omega
theorem BI (size many : Int) (w : World) (hs : 0 ≤ size) (hm : 0 ≤ many) (hm2 : many ≤ 1000000) (hp : size ^ many.toNat ≤ 1000000000000) :
 Calls prog 212 #[.int .i64 size, .int .i64 many] w fun e w' => e = .returned (.int .i64 (size ^ many.toNat)) ∧ w = w' := by
 obtain ⟨n, rfl⟩ := Int.eq_ofNat_of_zero_le hm
 rw [Int.toNat_natCast] at hp ⊢
 go_enter func212, ntmps212
 go_wp2
 go_loop [1, 5] (fun i p => ∃ j : Nat, j ≤ n ∧ i = .int .i64 ((n : Int) - j) ∧ ∃ q : Int, 0 ≤ q ∧ q ≤ 1000000000000 ∧ Hid (q = size ^ j) ∧ p = .int .i64 q) (fun i _ => (intOf i).toNat)
 case atStart => exact ⟨0, Nat.zero_le _, by simp, 1, by omega, by omega, by simp [Hid], rfl⟩
 obtain ⟨j, hj, rfl, q, hq0, hq1, hq, rfl⟩ := hrel
 by_cases hlt : j < n
 rotate_left
 · obtain rfl : j = n := by omega
   go_wp2
   go_ret
   exact ⟨aU hq.out, rfl⟩
 have e1 : q * size = size ^ (j + 1) := by rw [hq.out, Int.pow_succ]
 have e2 : q * size ≤ 1000000000000 := by
  rcases (show size = 0 ∨ 1 ≤ size by omega) with h0 | h0
  · rw [h0]; omega
  rw [e1]; exact Int.le_trans (En h0 hlt) hp
 have e3 : 0 ≤ q * size := Int.mul_nonneg hq0 (by omega)
 have E1 := qH e1
 clear e1
 go_wp2
 go_round
 case rel => exact ⟨j + 1, hlt, by go_num, q * size, e3, e2, E1.out, rfl⟩
 simp [intOf]; omega
end Go.Proofs.YtoblfnoaepbhfaaGreat
