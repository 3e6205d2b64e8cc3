/-
  SEVERAL TEXTS IN ONE.
-/
import Derived.Test.YtamkfnkikiekaaaGreatBaseRa
import Derived.Test.YtamkfnkikiekaaaGreatKindsRa
import Derived.Shelf.Abstract
import Derived.Lib.BufferMore
import Derived.Deep.RegionHeld3
import Derived.Deep.DeepCutAuto
import Derived.IntWalk
import Derived.Laws.StructEq

/-
  PLAIN LAW: elimination, once for rows as the program keeps them, once as the reference does; both do the same.
-/
namespace Go.Proofs.YtamkfnkikiekaaaGreat
open Go.RowKit
set_option linter.unusedSimpArgs false
set_option linter.unusedVariables false

abbrev RowT := List Int × List Int
abbrev SRow := List Int × Int × List Int
/-- A row of the reference, as the program keeps it. -/
def flat (r : SRow) : RowT := (r.1 ++ [r.2.1], r.2.2)
def addL (p k : Int) (l m : List Int) : List Int := List.zipWith (fun a b => (a + k * b) % p) l m ++ l.drop m.length
def addR (p k : Int) (r s : RowT) : RowT := (addL p k r.1 s.1, addL p k r.2 s.2)
def timesR (p n : Int) (r : RowT) : RowT := addR p (n - 1 + p) r r
def lessL (p k : Int) (l m : List Int) : List Int := List.zipWith (fun a b => (a - k * b) % p) l m
def lessS (p k : Int) (r o : SRow) : SRow := (lessL p k r.1 o.1, (r.2.1 - k * o.2.1) % p, lessL p k r.2.2 o.2.2)
def scaleL (p k : Int) (l : List Int) : List Int := List.zipWith (fun a _ => a * k % p) l l
def scaleS (p k : Int) (r : SRow) : SRow := (scaleL p k r.1, r.2.1 * k % p, scaleL p k r.2.2)

/-- What elimination asks of rows. -/
structure ROps (α : Type) where
  get : α → Nat → Int
  scale : α → Int → α
  less : α → α → Int → α
  dflt : α
def opsI (p : Int) : ROps RowT := ⟨fun r u => r.1.getD u 0, fun r n => timesR p n r, fun r x n => addR p (p - n) r x, ([], [])⟩
def opsS (p : Int) : ROps SRow := ⟨fun r u => r.1.getD u 0, fun r n => scaleS p n r, fun r x n => if n = 0 then r else lessS p n r x, ([], 0, [])⟩

def swapL {α : Type} (d : α) (l : List α) (i j : Nat) : List α := (l.set i (l.getD j d)).set j (l.getD i d)
@[simp] theorem swapL_length {α : Type} (d : α) (l : List α) (i j : Nat) : (swapL d l i j).length = l.length := by simp [swapL]
def elimRow {α : Type} (O : ROps α) (u done : Nat) (x : α) (i : Nat) (r : α) : α := if i = done then r else O.less r x (O.get r u)
def pivotE {α : Type} (O : ROps α) (u : Nat) (rows : List α) (done k : Nat) : List α :=
  let r1 := swapL O.dflt rows done (done + k)
  let x := O.scale (r1.getD done O.dflt) (O.get (r1.getD done O.dflt) u)
  (r1.set done x).mapIdx (elimRow O u done x)
def stepE {α : Type} (O : ROps α) (u : Nat) (st : List α × List Int) : List α × List Int :=
  match (st.1.drop st.2.length).findIdx? (fun r => O.get r u != 0) with
  | none => st
  | some k => (pivotE O u st.1 st.2.length k, st.2 ++ [(u : Int)])
def elimE {α : Type} (O : ROps α) (rows : List α) : Nat → List α × List Int
  | 0 => (rows, [])
  | u + 1 => stepE O u (elimE O rows u)

/-- A row as it should be: U unknowns, made of n equations. -/
structure GoodS (p : Int) (U n : Nat) (r : SRow) : Prop where
  len : r.1.length = U
  by_ : r.2.2.length = n
  res : Res p r.1
  right : 0 ≤ r.2.1 ∧ r.2.1 < p
  resBy : Res p r.2.2
/-! ### The same elimination -/
def AllG (p : Int) (U n : Nat) (rows : List SRow) : Prop := ∀ r, r ∈ rows → GoodS p U n r
end Go.Proofs.YtamkfnkikiekaaaGreat

/-
  PLAIN: two elements of an owned slice change places.
-/
namespace Go.Proofs.YtamkfnkikiekaaaGreat
open Go.RowKit
open Rep (Rd Own sz)
set_option linter.unusedSimpArgs false
set_option linter.unusedVariables false

end Go.Proofs.YtamkfnkikiekaaaGreat

/-
  PLAIN: owned, in blocks of which something is known: an element is written anew, two change places; numbers are appended.
-/
namespace Go.Proofs.YtamkfnkikiekaaaGreat
open Go.RowKit
open Rep (Rd Own sz)
set_option linter.unusedSimpArgs false
set_option linter.unusedVariables false

/-- Owned, no block twice, all blocks as A says. -/
def Ip {α : Type} [Rep α] (A : Nat → Prop) (w : World) (vs : List Value) (x : α) : Prop := ∃ ps, Own ps w vs x ∧ ps.Nodup ∧ ∀ k, k ∈ ps → A k
theorem Ip.iv {α : Type} [Rep α] {A : Nat → Prop} {lo hi : Nat} {w : World} {vs : List Value} {x : α} (h : Ip A w vs x) (hA : ∀ k, A k → lo ≤ k ∧ k < hi) : Iv lo hi w vs x := by
  obtain ⟨ps, h1, h2, h3⟩ := h; exact ⟨ps, h1, h2, fun k hk => hA k (h3 k hk)⟩
theorem Ip.wk {α : Type} [Rep α] {A B : Nat → Prop} {w : World} {vs : List Value} {x : α} (h : Ip A w vs x) (hA : ∀ k, A k → B k) : Ip B w vs x := by
  obtain ⟨ps, h1, h2, h3⟩ := h; exact ⟨ps, h1, h2, fun k hk => hA k (h3 k hk)⟩
theorem Ip.rd {α : Type} [Rep α] {A : Nat → Prop} {w : World} {vs : List Value} {x : α} (h : Ip A w vs x) : Rd w vs x := by
  obtain ⟨ps, h1, _⟩ := h; exact Rep.own_rd h1
theorem Ip.mono {α : Type} [Rep α] {A : Nat → Prop} {w w' : World} {vs : List Value} {x : α} (h : Ip A w vs x) (hb : Below w.heap.size w w') : Ip A w' vs x := by
  obtain ⟨ps, h1, h2, h3⟩ := h; exact ⟨ps, Own.mono h1 hb, h2, h3⟩
theorem Ip.frame {α : Type} [Rep α] {A : Nat → Prop} {w w' : World} {vs : List Value} {x : α} (h : Ip A w vs x) (hb : ∀ k, A k → k < w.heap.size → w'.heap[k]? = w.heap[k]?) : Ip A w' vs x := by
  obtain ⟨ps, h1, h2, h3⟩ := h; exact ⟨ps, Rep.own_frame (fun k hk => hb k (h3 k hk) (Rep.own_lt h1 k hk)) h1, h2, h3⟩
theorem ip_cons {α β : Type} [Rep α] [Rep β] {A B C : Nat → Prop} {w : World} {v : Value} {vs : List Value} {x : α} {y : β} (h1 : Ip A w [v] x) (h2 : Ip B w vs y) (hd : ∀ k, A k → ¬ B k) (hA : ∀ k, A k → C k) (hB : ∀ k, B k → C k) : Ip C w (v :: vs) (x, y) := by
  obtain ⟨p, o1, n1, b1⟩ := h1
  obtain ⟨q, o2, n2, b2⟩ := h2
  refine ⟨p ++ q, ⟨p, q, [v], vs, rfl, rfl, o1, o2⟩, ?_, fun k hk => ?_⟩
  · rw [List.nodup_append]
    refine ⟨n1, n2, fun a ha b hb e => ?_⟩
    subst e
    exact hd a (b1 a ha) (b2 a hb)
  · rcases List.mem_append.1 hk with hk | hk
    · exact hA k (b1 k hk)
    · exact hB k (b2 k hk)
/-- Where a slice that is owned and not empty lies. -/
theorem ip_form {α : Type} [Rep α] {A : Nat → Prop} {w : World} {v : Value} {l : List α} (h : Ip A w [v] l) (hl : 0 < l.length) :
    ∃ g o c cur e, v = .slice (some ⟨g, o, none⟩) l.length c ∧ l.length ≤ c ∧ c ≤ maxLen ∧ w.heap[g]? = some (.cells cur e (0, 0)) ∧ A g ∧
      ∀ i (h : i < l.length), ∃ vs, Rd w vs l[i] ∧ ∀ k, k < sz α → w.cell? ⟨g, o + i * sz α + k, none⟩ = vs[k]? := by
  obtain ⟨ps, ⟨v', ev, ho⟩, hn, hb⟩ := h
  obtain rfl : v = v' := by simpa using ev
  rcases ho with ⟨rfl, _⟩ | ⟨g, o, c, cur, e, pss, rfl, h1, h2, h3, rfl, h5, h6⟩
  · exact absurd hl (by simp)
  · refine ⟨g, o, c, cur, e, rfl, h1, h2, h3, hb g (by simp), fun i hi => ?_⟩
    obtain ⟨p, vs, hp, hO, hc⟩ := h6 i hi
    have := Rep.rd_len (Rep.own_rd hO)
    exact ⟨vs, Rep.own_rd hO, fun k hk => by rw [cell_at_block h3]; exact hc k (by omega)⟩
/-- Element j written anew. -/
theorem ip_put {α : Type} [Rep α] {A B : Nat → Prop} {w : World} {g o n c : Nat} {l : List α} (h : Ip A w [.slice (some ⟨g, o, none⟩) n c] l) (j : Nat) (hj : j < l.length) {vs : List Value} {y : α} (hy : Ip B w vs y) (hAB : ∀ k, A k → ¬ B k) :
    Ip (fun k => A k ∨ B k) (putCells w g (o + j * sz α) vs) [.slice (some ⟨g, o, none⟩) n c] (l.set j y) := by
  obtain ⟨ps, ⟨v', e', ho⟩, hn, hb⟩ := h
  obtain ⟨p', hO', hn', hb'⟩ := hy
  obtain rfl : Value.slice (some ⟨g, o, none⟩) n c = v' := by simpa using e'
  rcases ho with ⟨rfl, _⟩ | ⟨g', o', c', cur, e, pss, hv, h1, h2, h3, rfl, h5, h6⟩
  · exact absurd hj (Nat.not_lt_zero _)
  simp only [Value.slice.injEq, Option.some.injEq, Addr.mk.injEq, and_true] at hv
  obtain ⟨⟨rfl, rfl⟩, rfl, rfl⟩ := hv
  have hg := hb g (by simp)
  have hvl := Rep.rd_len (Rep.own_rd hO')
  have hjp : j < pss.length := by omega
  have hsplit : pss.set j p' = pss.take j ++ p' :: pss.drop (j + 1) := List.set_eq_take_append_cons_drop .. |>.trans (by rw [if_pos hjp])
  have hwhole : pss = pss.take j ++ pss[j] :: pss.drop (j + 1) := by
    conv => lhs; rw [← List.take_append_drop j pss, List.drop_eq_getElem_cons hjp]
  have hmem : ∀ k, k ∈ List.flatten (pss.take j) ∨ k ∈ List.flatten (pss.drop (j + 1)) → A k := fun k hk => by
    refine hb k (List.mem_cons_of_mem _ ?_)
    rw [hwhole, List.flatten_append, List.flatten_cons]
    rcases hk with hk | hk <;> simp [hk]
  have hnd : (g :: List.flatten (pss.set j p')).Nodup := by
    rw [hwhole, List.flatten_append, List.flatten_cons] at hn
    rw [hsplit, List.flatten_append, List.flatten_cons]
    simp only [List.nodup_cons, List.nodup_append, List.mem_append, not_or] at hn ⊢
    obtain ⟨⟨n1, _, n3⟩, n4, ⟨n5, n6, n7⟩, n8⟩ := hn
    refine ⟨⟨n1, fun hk => ?_, n3⟩, n4, ⟨hn', n6, fun a ha b hbb => ?_⟩, fun a ha b hbb => ?_⟩
    · exact hAB g hg (hb' g hk)
    · have h1 := hb' a ha
      have h2 := hmem b (.inr hbb)
      rintro rfl
      exact hAB a h2 h1
    · rcases hbb with hbb | hbb
      · have h1 := hb' b hbb
        have h2 := hmem a (.inl ha)
        rintro rfl
        exact hAB a h2 h1
      · exact n8 a ha b (.inr hbb)
  have hkeep : ∀ {β : Type} [Rep β] (p : List Nat) (us : List Value) (z : β), Own p w us z → g ∉ p → Own p (putCells w g (o + j * sz α) vs) us z := by
    intro β _ p us z hO hgp
    exact Own.only hO (putCells_only g vs _ w) (fun k hk hkg => by obtain rfl : k = g := (by simpa using hkg); exact hgp hk)
  refine ⟨g :: List.flatten (pss.set j p'), ⟨_, rfl, .inr ⟨g, o, c, _, e, pss.set j p', by simp, by simpa using h1, h2, putCells_heap g e (0, 0) vs _ w cur h3, rfl, by simpa using h5, fun i hi => ?_⟩⟩, hnd, fun k hk => ?_⟩
  · simp only [List.length_set] at hi
    obtain ⟨p, us, hp, hO, hc⟩ := h6 i hi
    have hul := Rep.rd_len (Rep.own_rd hO)
    by_cases hij : j = i
    · subst hij
      refine ⟨p', vs, by simp [hjp], ?_, fun k hk => ?_⟩
      · simp only [List.getElem_set_self]
        exact hkeep p' vs y hO' (fun hk => hAB g hg (hb' g hk))
      · refine putArr_in vs _ k cur hk ?_
        have := hc k (by omega)
        rw [List.getElem?_eq_getElem (by omega)] at this
        exact (Array.getElem?_eq_some_iff.1 this).1
    · refine ⟨p, us, by rw [List.getElem?_set_ne hij]; exact hp, ?_, fun k hk => ?_⟩
      · simp only [List.getElem_set_ne hij]
        refine hkeep p us _ hO (fun hk => ?_)
        exact (List.nodup_cons.1 hn).1 (List.mem_flatten.2 ⟨p, List.mem_of_getElem? hp, hk⟩)
      · rw [putArr_out]
        · exact hc k hk
        · have hks : k < sz α := by omega
          rcases Nat.lt_or_gt_of_ne hij with hlt | hlt
          · right
            have : (j + 1) * sz α ≤ i * sz α := Nat.mul_le_mul_right _ hlt
            rw [Nat.add_mul] at this
            omega
          · left
            have := idx_lt (s := sz α) hlt hks
            omega
  · rcases List.mem_cons.1 hk with rfl | hk
    · exact .inl hg
    · rw [hsplit, List.flatten_append, List.flatten_cons] at hk
      rcases List.mem_append.1 hk with hk | hk
      · exact .inl (hmem k (.inl hk))
      · rcases List.mem_append.1 hk with hk | hk
        · exact .inr (hb' k hk)
        · exact .inl (hmem k (.inr hk))
theorem acc_made {α : Type} [Rep α] (w : World) (e : TypeId) : Acc w.heap.size (w.heap.size + 1) e (w.alloc (.cells #[] e)) (.slice (some ⟨w.heap.size, 0, none⟩) 0 0) ([] : List α) := by
  have h := World.ownsRow_made (e := e) (size := sz α) w #[] 0 (Nat.le_refl _) (Nat.zero_le _) (by simp)
  exact ⟨[], [], h, rfl, by simp [Value.ownBlock], by simp [Value.ownBlock], fun i h => absurd h (Nat.not_lt_zero _)⟩
theorem St.low {w : World} {B B' : Nat} {wr : World} {bx bx' : List (Nat × Array Value × TypeId)} (h : St w B wr bx) (h1 : w.heap.size ≤ B') (h2 : B' ≤ B) (hs : ∀ x, x ∈ bx' → x ∈ bx ∧ x.1 < B') : St w B' wr bx' :=
  ⟨h.bel, h1, Nat.le_trans h2 h.hi, fun x hx => ⟨(h.box x (hs x hx).1).1, (hs x hx).2, (h.box x (hs x hx).1).2.2⟩⟩

end Go.Proofs.YtamkfnkikiekaaaGreat

/-
  PLAIN LAW: what elimination leaves: each row that is done begins with a 1 where it begins, and there all other rows have a 0.
-/
namespace Go.Proofs.YtamkfnkikiekaaaGreat
open Go.RowKit
set_option linter.unusedSimpArgs false
set_option linter.unusedVariables false

structure Rref (p : Int) (u : Nat) (rows : List SRow) (bs : List Int) : Prop where
  le : bs.length ≤ rows.length
  bnd : ∀ (j : Nat) (b : Int), bs[j]? = some b → 0 ≤ b ∧ b < u
  col : ∀ (i : Nat) (r : SRow) (j : Nat) (b : Int), rows[i]? = some r → bs[j]? = some b → r.1.getD b.toNat 0 = if i = j then 1 else 0
  low : ∀ (i : Nat) (r : SRow), rows[i]? = some r → bs.length ≤ i → ∀ c, c < u → r.1.getD c 0 = 0
  lead : ∀ (i : Nat) (r : SRow) (b : Int), rows[i]? = some r → bs[i]? = some b → ∀ c : Nat, (c : Int) < b → r.1.getD c 0 = 0

/-! ### The rows at the beginning -/
def rowsS (n : Nat) : Nat → List (List Int × Int) → List SRow
  | _, [] => []
  | i, e :: es => (e.1, e.2, (List.replicate n 0).set i 1) :: rowsS n (i + 1) es
def rowsI (n : Nat) : Nat → List (List Int × Int) → List RowT
  | _, [] => []
  | i, e :: es => (e.1 ++ [e.2], (List.replicate n 0).set i 1) :: rowsI n (i + 1) es
end Go.Proofs.YtamkfnkikiekaaaGreat

/-
  CONTRACTS: slices.IndexFunc, slices.ContainsFunc with a function that is handed over.
-/
namespace Go.Proofs.YtamkfnkikiekaaaGreat
open Go.RowKit Go.Shelf
open Rep (Rd Own sz)
set_option linter.unusedSimpArgs false
set_option linter.unusedVariables false

def firstI {α : Type} (q : α → Bool) (l : List α) : Int := match l.findIdx? q with | some i => (i : Int) | none => -1
theorem firstI_at {α : Type} {q : α → Bool} {l : List α} {k : Nat} (h : k < l.length) (h0 : ∀ j (hj : j < l.length), j < k → q l[j] = false) (h1 : q l[k] = true) : firstI q l = k := by
  have : l.findIdx? q = some k := by
    rw [List.findIdx?_eq_some_iff_getElem]
    exact ⟨h, h1, fun j hj => by simpa using h0 j (by omega) hj⟩
  unfold firstI; rw [this]
theorem firstI_no {α : Type} {q : α → Bool} {l : List α} (h0 : ∀ j (hj : j < l.length), j < l.length → q l[j] = false) : firstI q l = -1 := by
  have : l.findIdx? q = none := by
    rw [List.findIdx?_eq_none_iff]
    intro x hx
    obtain ⟨j, hj, rfl⟩ := List.getElem_of_mem hx
    exact h0 j hj hj
  unfold firstI; rw [this]
theorem firstI_any {α : Type} (q : α → Bool) (l : List α) : decide (0 ≤ firstI q l) = l.any q := by
  unfold firstI
  cases h : l.findIdx? q with
  | none =>
    rw [List.findIdx?_eq_none_iff] at h
    simp
    exact h
  | some i =>
    rw [List.findIdx?_eq_some_iff_getElem] at h
    obtain ⟨h1, h2, _⟩ := h
    simp
    exact ⟨_, List.getElem_mem h1, h2⟩
theorem firstI_lo {α : Type} (q : α → Bool) (l : List α) : -1 ≤ firstI q l := by unfold firstI; split <;> omega

def PredI (g : Nat) (cb : Array Value) (w : World) (l : List Int) (q : Int → Bool) : Prop :=
  ∀ (W : World) (x : Int) (u0 : Value), Below w.heap.size w W → Rd W [u0] x → x ∈ l → Calls Tryz.prog g (#[u0] ++ cb) W fun e w' => e = .returned (.bool (q x)) ∧ Below W.heap.size W w'
set_option maxRecDepth 100000 in
set_option maxHeartbeats 1000000 in
theorem indexInts_c (l : List Int) (v : Value) (g : Nat) (cb : Array Value) (q : Int → Bool) (w : World) (r : Rd w [v] l)
    (eg : ∀ args w, (callFunc g args).run Tryz.prog w = .ok (.enter g args) w) (hby : PredI g cb w l q) :
    Calls Tryz.prog 85 #[v, .func (.func g) #[] cb] w fun e w' => e = .returned (.int .i64 (firstI q l)) ∧ Below w.heap.size w w' := by
  obtain ⟨a, c, rfl, h⟩ := rd_list r
  clear r
  have hb := (rdSl_len h).2
  unfold maxLen at hb
  generalize hn : l.length = n at *
  have HN := Lib.hid hn
  have HH := Lib.hid h
  have HBY := Lib.hid hby
  clear hn h hby
  go_enter Tryz.func85, Tryz.ntmps85
  go_wp2_with fail
  go_loopw [8] (fun i wr => ∃ k : Nat, k ≤ n ∧ i = .int .i64 k ∧ Hid (Below w.heap.size w wr) ∧ Hid (∀ j (hj : j < l.length), j < k → q l[j] = false)) (fun i _ => n - (intOf i).toNat)
  case atStart => exact ⟨0, Nat.zero_le _, rfl, Below.refl _ _, fun j _ hj => absurd hj (Nat.not_lt_zero _)⟩
  case round =>
    obtain ⟨k, hk, rfl, hbl, hr⟩ := hrel
    by_cases hlt : k < n
    · have k1 : k < l.length := by rw [HN.out]; exact hlt
      obtain ⟨b, o, u0, rfl, q0, hx⟩ := rdSl_one rfl (rdSl_mono hbl.out HH.out) k k1
      have HX := Lib.hid hx
      clear hx
      go_wp2_with fail
      go_at_fn g
      refine (HBY.out _ l[k] _ hbl.out HX.out (List.getElem_mem k1)).mono ?_
      rintro e w1 ⟨rfl, hb1⟩
      cases hq : q l[k] with
      | true =>
        have HQ := Lib.hid hq
        clear hq
        go_wp2_with fail
        go_ret
        exact ⟨ret_int (firstI_at k1 (fun j hj h => hr.out j hj h) HQ.out).symm, hbl.out.trans (hb1.mono hbl.out.size)⟩
      | false =>
        have HQ := Lib.hid hq
        clear hq
        go_wp2_with fail
        go_roundw
        case rel =>
          refine ⟨k + 1, by omega, by go_num, hbl.out.trans (hb1.mono hbl.out.size), ?_⟩
          intro j hj hjk
          rcases Nat.lt_or_ge j k with h | h
          · exact hr.out j hj h
          · obtain rfl : j = k := by omega
            exact HQ.out
        case measure => simp [intOf]; omega
    · obtain rfl : k = n := by omega
      go_wp2_with fail
      go_ret
      refine ⟨ret_int ?_, hbl.out⟩
      rw [firstI_no (fun j hj _ => hr.out j hj (by have := HN.out; omega))]
set_option maxRecDepth 100000 in
theorem containsInts_c (l : List Int) (v : Value) (g : Nat) (cb : Array Value) (q : Int → Bool) (w : World) (r : Rd w [v] l)
    (eg : ∀ args w, (callFunc g args).run Tryz.prog w = .ok (.enter g args) w) (hby : PredI g cb w l q) :
    Calls Tryz.prog 57 #[v, .func (.func g) #[] cb] w fun e w' => e = .returned (.bool (l.any q)) ∧ Below w.heap.size w w' := by
  obtain ⟨a, c, rfl, _⟩ := rd_list r
  have HR := Lib.hid r
  have HBY := Lib.hid hby
  clear r hby
  go_enter Tryz.func57, Tryz.ntmps57
  go_wp2_with fail
  refine (indexInts_c l _ g cb q _ HR.out eg HBY.out).mono ?_
  rintro e w1 ⟨rfl, hb1⟩
  have hlo := firstI_lo q l
  go_wp2_with fail
  go_ret
  exact ⟨ret_bool (firstI_any q l), hb1⟩

end Go.Proofs.YtamkfnkikiekaaaGreat

/-
  CONTRACTS: small functions on rows: the first number other than 0; none.
-/
namespace Go.Proofs.YtamkfnkikiekaaaGreat
open Go.RowKit Go.Shelf
open Rep (Rd Own sz)
set_option linter.unusedSimpArgs false
set_option linter.unusedVariables false


end Go.Proofs.YtamkfnkikiekaaaGreat

/-
  CONTRACTS: (row).isNone and (row).right of the program.
-/
namespace Go.Proofs.YtamkfnkikiekaaaGreat
open Go.RowKit Go.Shelf
open Rep (Rd Own sz)
set_option linter.unusedSimpArgs false
set_option linter.unusedVariables false

end Go.Proofs.YtamkfnkikiekaaaGreat

/-
  CONTRACT: slices.Clone of numbers.
-/
namespace Go.Proofs.YtamkfnkikiekaaaGreat
open Go.RowKit
open Rep (Rd Own sz)
set_option linter.unusedSimpArgs false
set_option linter.unusedVariables false

set_option maxRecDepth 100000 in
set_option maxHeartbeats 1000000 in
theorem cloneIntsA_c (l : List Int) (v : Value) (w : World) (r : Rd w [v] l) (hl : l.length ≤ 1073741824) :
    Calls Tryz.prog 51 #[v] w fun e w' => ∃ v', e = .returned v' ∧ Acc w.heap.size w'.heap.size 2 w' v' l ∧ Below w.heap.size w w' := by
  obtain ⟨a, c, rfl, h⟩ := rd_list r
  have HR := Lib.hid h
  clear r h
  have hg1 : ∀ (a b : Value) W, (eqGuard .eql 47 (.const a) (.const b) a b).run Tryz.prog W = (eqGuard .eql 47 (.const a) (.const b) a b).run Tryz.prog W := fun _ _ _ => rfl
  clear hg1
  cases a with
  | none =>
    have h0 : l = [] := by
      by_cases hn : 0 < l.length
      · obtain ⟨b, o, vs, e, _⟩ := HR.out.2.2 0 hn
        cases e
      · exact List.eq_nil_of_length_eq_zero (by omega)
    subst h0
    have hnil : ∀ W, (binOp .eql 47 (.slice none 0 c) (.slice none 0 0)).run Tryz.prog W = .ok (.bool true) W := fun W => Lib.run_eql_slice_nil_nil W _ _ Tryz.underlying47
    go_enter Tryz.func51, Tryz.ntmps51
    go_wp2_with fail
    go_ret
    exact ⟨_, rfl, Acc.nil _ _ _ _, Below.refl _ _⟩
  | some ad =>
    have hnil : ∀ W, (binOp .eql 47 (.slice (some ad) l.length c) (.slice none 0 0)).run Tryz.prog W = .ok (.bool false) W := fun W => Lib.run_eql_slice_some_nil W _ _ _ Tryz.underlying47
    go_enter Tryz.func51, Tryz.ntmps51
    obtain ⟨b, o, spot⟩ := ad
    have hnews : ∀ j u, (ivals l)[j]? = some u → w.cell? ((⟨b, o, spot⟩ : Addr).add j) = some u ∧ I64 (l.getD j 0) := by
      intro j u hu
      have hj : j < l.length := by have := (List.getElem?_eq_some_iff.1 hu).1; simpa [ivals] using this
      obtain ⟨b', o', e, hc, hI⟩ := rdSl_int HR.out j hj
      simp only [Option.some.injEq, Addr.mk.injEq] at e
      obtain ⟨rfl, rfl, rfl⟩ := e
      have hadd : ((⟨b, o, none⟩ : Addr).add j) = ⟨b, o + j, none⟩ := by unfold Addr.add; split <;> simp_all
      rw [hadd, hc]
      refine ⟨?_, hI⟩
      rw [← hu]; simp [ivals, hj, List.getD]
    have hI : ∀ a, a ∈ l → I64 a := by
      intro a ha
      obtain ⟨j, hj, rfl⟩ := List.getElem_of_mem ha
      have := (hnews j _ (List.getElem?_eq_getElem (by simpa [ivals] using hj))).2
      simpa [List.getD, hj] using this
    have hacc : Acc w.heap.size (w.heap.size + 1) 2 (w.alloc (.cells #[] 2)) (.slice (some ⟨w.heap.size, 0, none⟩) 0 0) ([] : List Int) :=
      acc_ints_mk (World.ownsRow_made w #[] 0 (Nat.le_refl _) (Nat.zero_le _) rfl) (fun g hg => by simp [Value.ownBlock] at hg; omega) (by simp)
    have hn2 : ∀ j u, (ivals l)[j]? = some u → (w.alloc (.cells #[] 2)).cell? ((⟨b, o, spot⟩ : Addr).add j) = some u := fun j u hu => cellL (belowA _ _) (hnews j u hu).1
    go_wp2_with (refine wpList_append_ints _ rfl _ _ _ rfl E_ints rfl hacc (Nat.le_succ _) (by simp) ⟨b, o, spot⟩ c rfl hn2 hI (by simpa using hl) ?_; intro a' c' w' hA hB _)
    simp only [List.length_nil, Nat.zero_add, List.nil_append] at hA ⊢
    go_wp2_with fail
    go_ret
    exact ⟨_, rfl, hA, (belowA _ _).trans hB⟩
end Go.Proofs.YtamkfnkikiekaaaGreat

/-
  CONTRACT: (row).addTimes of the program.
-/
namespace Go.Proofs.YtamkfnkikiekaaaGreat
open Go.RowKit Go.Shelf Go.IntWalk
open Rep (Rd Own sz)
set_option linter.unusedSimpArgs false
set_option linter.unusedVariables false


end Go.Proofs.YtamkfnkikiekaaaGreat

/-
  CONTRACT: (row).times of the program.
-/
namespace Go.Proofs.YtamkfnkikiekaaaGreat
open Go.RowKit Go.Shelf Go.IntWalk
open Rep (Rd Own sz)
set_option linter.unusedSimpArgs false
set_option linter.unusedVariables false


end Go.Proofs.YtamkfnkikiekaaaGreat

/-
  PLAIN: a row of the reference in memory.
-/
namespace Go.Proofs.YtamkfnkikiekaaaGreat
open Go.RowKit
open Rep (Rd Own sz)
set_option linter.unusedSimpArgs false
set_option linter.unusedVariables false

/-- A row that may be written: at offset o of block b; its two lists in blocks of their own. -/
structure RowIn (w : World) (b o : Nat) (cur : Array Value) (e : TypeId) (p0 p2 : List Nat) (v0 v2 : Value) (r : SRow) : Prop where
  blk : w.heap[b]? = some (.cells cur e (0, 0))
  c0 : cur[o]? = some v0
  c1 : cur[o + 1]? = some (.int .i64 r.2.1)
  c2 : cur[o + 2]? = some v2
  own0 : OwnSl p0 w v0 r.1
  own2 : OwnSl p2 w v2 r.2.2
  n0 : b ∉ p0
  n2 : b ∉ p2
  dis : ∀ k, k ∈ p0 → k ∉ p2
/-- A writing call: one box is turned, the others stay. -/
theorem St.only {w : World} {B : Nat} {wr w1 : World} {p q : List (Nat × Array Value × TypeId)} {g : Nat} {cs cs' : Array Value} {t : TypeId} (h : St w B wr (p ++ (g, cs, t) :: q)) {ps : List Nat} (ho : OnlyAt ps wr w1) (hps : ∀ k, k ∈ ps → w.heap.size ≤ k)
    (hx : ∀ x, x ∈ p ++ q → x.1 ∉ ps) (hg : w1.heap[g]? = some (.cells cs' t (0, 0))) : St w B w1 (p ++ (g, cs', t) :: q) := by
  have h0 := h.box (g, cs, t) (by simp)
  refine ⟨h.bel.trans (ho.below hps), h.lo, by rw [ho.size]; exact h.hi, fun x hm => ?_⟩
  by_cases he : x = (g, cs', t)
  · subst he; exact ⟨h0.1, h0.2.1, hg⟩
  · have hm' : x ∈ p ++ q := by
      rcases List.mem_append.1 hm with hm | hm
      · exact List.mem_append.2 (.inl hm)
      · rcases List.mem_cons.1 hm with hm | hm
        · exact absurd hm he
        · exact List.mem_append.2 (.inr hm)
    have h1 := h.box x (by rcases List.mem_append.1 hm' with hm' | hm' <;> simp [hm'])
    exact ⟨h1.1, h1.2.1, by rw [ho.block _ (hx x hm')]; exact h1.2.2⟩

end Go.Proofs.YtamkfnkikiekaaaGreat

/-
  CONTRACT: (*l07Row).less of the reference. (Printed by wip/genrow.py.)
-/
namespace Go.Proofs.YtamkfnkikiekaaaGreat
open Go.RowKit Go.Shelf Go.IntWalk
open Rep (Rd Own sz)
set_option linter.unusedSimpArgs false
set_option linter.unusedVariables false



end Go.Proofs.YtamkfnkikiekaaaGreat

/-
  PLAIN: a slice that grows by append, its cells known one by one; what it owns is said at the end.
-/
namespace Go.Proofs.YtamkfnkikiekaaaGreat
open Go.RowKit
open Rep (Rd Own sz)
set_option linter.unusedSimpArgs false
set_option linter.unusedVariables false

theorem wp_append_row {P : Program} (w : World) {o : Oper} {a : Act} {K : Act → World → Prop} {Q : Exit → Act → World → Prop} (s x : Operand) (t : TypeId)
    (ho : o.op = .call { callee := .builtin .append, args := #[s, x], argTypes := #[t, t] }) {e : TypeId} {α : Type} [Rep α] {z : Value} {bytes : Nat} (E : ElemT P t e α z bytes) {v : Value} {n : Nat} {xs : List Value}
    (hs : a.eval s = v) (hrow : w.ownsRow 0 e (sz α) v n xs) {vs : List Value} (hvs : vs.length = sz α) (hone : ∀ u, u ∈ vs → u.oneCell' = true)
    (ad : Addr) (c : Nat) (hx : a.eval x = .slice (some ad) 1 c) (hnews : ∀ j u, vs[j]? = some u → w.cell? (ad.add j) = some u) (hlen : n + 1 ≤ 1073741824)
    (h : ∀ g' c' w', (v.ownBlock = some g' ∨ g' = w.heap.size) → w'.ownsRow 0 e (sz α) (.slice (some ⟨g', 0, none⟩) (n + 1) c') (n + 1) (xs ++ vs) → But v.ownBlock.toList w w' → g' < w'.heap.size → K (a.put o.dst (.slice (some ⟨g', 0, none⟩) (n + 1) c')) w') : o.wp P a w K Q := by
  obtain ⟨i, hi, hz, hsz, hb⟩ := E.info
  have hbytes : (n + 1) * bytes ≤ 140737488355328 := by
    have h1 := E.small
    calc (n + 1) * bytes ≤ 1073741824 * 1000 := Nat.mul_le_mul hlen h1
      _ ≤ _ := by decide
  have hm : n + 1 ≤ maxLen := by unfold maxLen; omega
  obtain ⟨v', w', hr, hown, hgr, hnil, hat⟩ := run_append_own_at (P := P) w 0 t o.type e i z (sz α) bytes E.und hi hz hsz hb E.zs E.pos v n xs hrow ad 1 c vs (by omega) hnews hone hm hbytes (Nat.zero_le _)
  rcases hown.2 with ⟨rfl, h0⟩ | ⟨g', cap, cur, rfl, hg', hh', hc', hm', hs', ht'⟩
  · omega
  have hgg : v.ownBlock = some g' ∨ g' = w.heap.size := by
    rcases hat with h | h
    · exact .inl (by rw [← h]; rfl)
    · exact .inr (by simpa [Value.ownBlock] using h)
  have hlt : g' < w'.heap.size := (Array.getElem?_eq_some_iff.1 hh').1
  have hbut : But v.ownBlock.toList w w' := ⟨hgr.os, hgr.tape, hgr.output, hgr.size, fun k hk hp => hgr.block k hk (fun e => hp (by rw [← e]; simp))⟩
  unfold Oper.wp execOp
  simp only [ho, resolve, invoke, builtin, Sem.run_bind, Sem.run_pure, Result.andThen_ok, List.map_toArray, List.map_cons, List.map_nil, hs, hx, hr]
  exact h g' cap w' hgg hown hbut hlt
theorem wpList_append_row {P : Program} (w : World) {ops : Array Oper} {rest : List Oper} {o : Oper} {a : Act} {Q : Exit → Act → World → Prop} (hgd : o.guard = none) (s x : Operand) (t : TypeId)
    (ho : o.op = .call { callee := .builtin .append, args := #[s, x], argTypes := #[t, t] }) {e : TypeId} {α : Type} [Rep α] {z : Value} {bytes : Nat} (E : ElemT P t e α z bytes) {v : Value} {n : Nat} {xs : List Value}
    (hs : a.eval s = v) (hrow : w.ownsRow 0 e (sz α) v n xs) {vs : List Value} (hvs : vs.length = sz α) (hone : ∀ u, u ∈ vs → u.oneCell' = true)
    (ad : Addr) (c : Nat) (hx : a.eval x = .slice (some ad) 1 c) (hnews : ∀ j u, vs[j]? = some u → w.cell? (ad.add j) = some u) (hlen : n + 1 ≤ 1073741824)
    (h : ∀ g' c' w', (v.ownBlock = some g' ∨ g' = w.heap.size) → w'.ownsRow 0 e (sz α) (.slice (some ⟨g', 0, none⟩) (n + 1) c') (n + 1) (xs ++ vs) → But v.ownBlock.toList w w' → g' < w'.heap.size → wpList P ops Q rest (a.put o.dst (.slice (some ⟨g', 0, none⟩) (n + 1) c')) w') : wpList P ops Q (o :: rest) a w :=
  wpList_plain hgd fun _ hK => wp_append_row w s x t ho E hs hrow hvs hone ad c hx hnews hlen fun g' c' w' h1 h2 h3 h4 => hK _ _ (h g' c' w' h1 h2 h3 h4)
theorem row_made {size : Nat} (w : World) (e : TypeId) : (w.alloc (.cells #[] e)).ownsRow 0 e size (.slice (some ⟨w.heap.size, 0, none⟩) 0 0) 0 [] := by
  have h := World.ownsRow_made (e := e) (size := size) w #[] 0 (Nat.zero_le _) (Nat.zero_le _) (by simp)
  exact h
theorem row_frame {w w' : World} {e : TypeId} {size : Nat} {v : Value} {n : Nat} {xs : List Value} (h : w.ownsRow 0 e size v n xs) (hb : ∀ g, v.ownBlock = some g → w'.heap[g]? = w.heap[g]?) : w'.ownsRow 0 e size v n xs := by
  refine ⟨h.1, ?_⟩
  rcases h.2 with hn | ⟨g, cap, cur, rfl, hg, hgg, rest⟩
  · exact .inl hn
  · exact .inr ⟨g, cap, cur, rfl, hg, by rw [hb g rfl]; exact hgg, rest⟩
/-- What a row holds, and who owns it. -/
theorem ownSl_of_row {α : Type} [Rep α] {w : World} {e : TypeId} {v : Value} {l : List α} {xs : List Value} {pss : List (List Nat)} (h : w.ownsRow 0 e (sz α) v l.length xs) (hp : pss.length = l.length)
    (hel : ∀ i (hi : i < l.length), ∃ p vs, pss[i]? = some p ∧ Own p w vs l[i] ∧ ∀ k, k < vs.length → xs[i * sz α + k]? = vs[k]?) : OwnSl (v.ownBlock.toList ++ List.flatten pss) w v l := by
  rcases h.2 with ⟨rfl, h0⟩ | ⟨g, cap, cur, rfl, _, hh, hn, hm, hsz, ht⟩
  · have hl : l = [] := List.eq_nil_of_length_eq_zero h0
    subst hl
    have : pss = [] := List.eq_nil_of_length_eq_zero (by simpa using hp)
    subst this
    exact .inl ⟨rfl, rfl, none, 0, rfl, Nat.zero_le _⟩
  · refine .inr ⟨g, 0, cap, cur, e, pss, rfl, hn, hm, hh, by simp [Value.ownBlock], hp, fun i hi => ?_⟩
    obtain ⟨p, vs, h1, h2, h3⟩ := hel i hi
    refine ⟨p, vs, h1, h2, fun k hk => ?_⟩
    rw [← h3 k hk, ← ht]
    have hv := Rep.rd_len (Rep.own_rd h2)
    have hlt : i * sz α + k < l.length * sz α := by
      have : (i + 1) * sz α ≤ l.length * sz α := Nat.mul_le_mul_right _ hi
      rw [Nat.add_mul] at this; omega
    rw [List.getElem?_take_of_lt hlt, Nat.zero_add]
    simp
/-- An element more. -/
theorem row_el_snoc {α : Type} [Rep α] {w : World} {l : List α} {x : α} {xs us : List Value} {pss : List (List Nat)} {q : List Nat} (hxs : xs.length = l.length * sz α) (hp : pss.length = l.length)
    (hel : ∀ i (hi : i < l.length), ∃ p vs, pss[i]? = some p ∧ Own p w vs l[i] ∧ ∀ k, k < vs.length → xs[i * sz α + k]? = vs[k]?) (hx : Own q w us x) :
    ∀ i (hi : i < (l ++ [x]).length), ∃ p vs, (pss ++ [q])[i]? = some p ∧ Own p w vs (l ++ [x])[i] ∧ ∀ k, k < vs.length → (xs ++ us)[i * sz α + k]? = vs[k]? := by
  intro i hi
  by_cases h : i < l.length
  · obtain ⟨p, vs, h1, h2, h3⟩ := hel i h
    refine ⟨p, vs, by rw [List.getElem?_append_left (by omega)]; exact h1, by rw [List.getElem_append_left h]; exact h2, fun k hk => ?_⟩
    have hv := Rep.rd_len (Rep.own_rd h2)
    have hlt : i * sz α + k < l.length * sz α := by
      have : (i + 1) * sz α ≤ l.length * sz α := Nat.mul_le_mul_right _ h
      rw [Nat.add_mul] at this; omega
    rw [List.getElem?_append_left (by omega)]
    exact h3 k hk
  · have hi' : i = l.length := by simp at hi; omega
    subst hi'
    refine ⟨q, us, by rw [List.getElem?_append_right (by omega), hp]; simp, by simpa using hx, fun k hk => ?_⟩
    rw [List.getElem?_append_right (by omega), hxs]
    congr 1
    omega
theorem news2 {w : World} {b : Nat} {v0 v1 : Value} (h0 : w.cell? ⟨b, 0, none⟩ = some v0) (h1 : w.cell? ⟨b, 1, none⟩ = some v1) : ∀ j u, [v0, v1][j]? = some u → w.cell? ((⟨b, 0, none⟩ : Addr).add j) = some u := by
  intro j u hj
  match j with
  | 0 => simp at hj; subst hj; exact h0
  | 1 => simp at hj; subst hj; exact h1
  | j + 2 => simp at hj
theorem row_base {w : World} {B : Nat} {e : TypeId} {size : Nat} {v : Value} {n : Nat} {xs : List Value} (h : w.ownsRow B e size v n xs) : w.ownsRow 0 e size v n xs := by
  refine ⟨h.1, ?_⟩
  rcases h.2 with hn | ⟨g, cap, cur, rfl, hg, rest⟩
  · exact .inl hn
  · exact .inr ⟨g, cap, cur, rfl, Nat.zero_le _, rest⟩
theorem news1 {w : World} {b : Nat} {v0 : Value} (h0 : w.cell? ⟨b, 0, none⟩ = some v0) : ∀ j u, [v0][j]? = some u → w.cell? ((⟨b, 0, none⟩ : Addr).add j) = some u := by
  intro j u hj
  match j with
  | 0 => simp at hj; subst hj; exact h0
  | j + 1 => simp at hj
end Go.Proofs.YtamkfnkikiekaaaGreat

/-
  PLAIN: a slice that grows by append, what it owns said by a predicate on blocks.
-/
namespace Go.Proofs.YtamkfnkikiekaaaGreat
open Go.RowKit
open Rep (Rd Own sz)
set_option linter.unusedSimpArgs false
set_option linter.unusedVariables false

/-- What stood there is as it was, but for the blocks of A. -/
structure ButP (A : Nat → Prop) (w w' : World) : Prop where
  os : w'.os = w.os
  tape : w'.tape = w.tape
  output : w'.output = w.output
  size : w.heap.size ≤ w'.heap.size
  block : ∀ k, k < w.heap.size → ¬ A k → w'.heap[k]? = w.heap[k]?
theorem ButP.refl (A : Nat → Prop) (w : World) : ButP A w w := ⟨rfl, rfl, rfl, Nat.le_refl _, fun _ _ _ => rfl⟩
theorem ButP.of {A : Nat → Prop} {w w' : World} (h : Below w.heap.size w w') : ButP A w w' := ⟨h.os, h.tape, h.output, h.size, fun k hk _ => h.block k hk⟩
theorem But.butP {A : Nat → Prop} {ps : List Nat} {w w' : World} (h : But ps w w') (hA : ∀ k, k ∈ ps → A k) : ButP A w w' := ⟨h.os, h.tape, h.output, h.size, fun k hk hn => h.block k hk (fun hp => hn (hA k hp))⟩
/-- A step behind another one: what is new may be written. -/
theorem ButP.trans {A C : Nat → Prop} {a b c : World} (h : ButP A a b) (k : ButP C b c) (hC : ∀ z, C z → A z ∨ a.heap.size ≤ z) : ButP A a c :=
  ⟨k.os.trans h.os, k.tape.trans h.tape, k.output.trans h.output, Nat.le_trans h.size k.size, fun i hi hn => (k.block i (Nat.lt_of_lt_of_le hi h.size) (fun hc => by rcases hC i hc with h1 | h1; exact hn h1; omega)).trans (h.block i hi hn)⟩
theorem ButP.wk {A C : Nat → Prop} {w w' : World} (h : ButP A w w') (hA : ∀ k, A k → C k) : ButP C w w' := ⟨h.os, h.tape, h.output, h.size, fun k hk hn => h.block k hk (fun ha => hn (hA k ha))⟩
theorem ButP.below {A : Nat → Prop} {B : Nat} {w w' : World} (h : ButP A w w') (hA : ∀ k, A k → B ≤ k) (hB : B ≤ w.heap.size) : Below B w w' :=
  ⟨h.os, h.tape, h.output, h.size, fun k hk => h.block k (by omega) (fun ha => by have := hA k ha; omega)⟩
theorem Own.butP {α : Type} [Rep α] {A : Nat → Prop} {ps : List Nat} {w w' : World} {vs : List Value} {x : α} (h : Own ps w vs x) (hb : ButP A w w') (hd : ∀ k, k ∈ ps → ¬ A k) : Own ps w' vs x :=
  Rep.own_frame (fun k hk => hb.block k (Rep.own_lt h k hk) (hd k hk)) h
theorem Ip.butP {α : Type} [Rep α] {A C : Nat → Prop} {w w' : World} {vs : List Value} {x : α} (h : Ip C w vs x) (hb : ButP A w w') (hd : ∀ k, C k → ¬ A k) : Ip C w' vs x := by
  obtain ⟨ps, h1, h2, h3⟩ := h
  exact ⟨ps, Own.butP h1 hb (fun k hk => hd k (h3 k hk)), h2, h3⟩
theorem cellB {A : Nat → Prop} {w w' : World} {b o : Nat} {v : Value} (hb : ButP A w w') (h : w.cell? ⟨b, o, none⟩ = some v) (hA : ¬ A b) : w'.cell? ⟨b, o, none⟩ = some v :=
  cellK h (hb.block b (World.block_lt_of_cell? w _ h) hA)

def AccP {α : Type} [Rep α] (A : Nat → Prop) (e : TypeId) (w : World) (v : Value) (l : List α) : Prop :=
  ∃ (xs : List Value) (pss : List (List Nat)), w.ownsRow 0 e (sz α) v l.length xs ∧ pss.length = l.length ∧ (v.ownBlock.toList ++ List.flatten pss).Nodup ∧ (∀ k, k ∈ v.ownBlock.toList ++ List.flatten pss → A k ∧ k < w.heap.size) ∧
    ∀ i (h : i < l.length), ∃ p vs, pss[i]? = some p ∧ Own p w vs l[i] ∧ ∀ k, k < vs.length → xs[i * sz α + k]? = vs[k]?
theorem Acc.accP {α : Type} [Rep α] {B H : Nat} {e : TypeId} {w : World} {v : Value} {l : List α} (h : Acc B H e w v l) (hH : H ≤ w.heap.size) : AccP (fun k => B ≤ k ∧ k < H) e w v l := by
  obtain ⟨xs, pss, h1, h2, h3, h4, h5⟩ := h
  exact ⟨xs, pss, row_base h1, h2, h3, fun k hk => ⟨h4 k hk, by have := (h4 k hk).2; omega⟩, h5⟩
theorem AccP.wk {α : Type} [Rep α] {A C : Nat → Prop} {e : TypeId} {w : World} {v : Value} {l : List α} (h : AccP A e w v l) (hA : ∀ k, A k → C k) : AccP C e w v l := by
  obtain ⟨xs, pss, h1, h2, h3, h4, h5⟩ := h
  exact ⟨xs, pss, h1, h2, h3, fun k hk => ⟨hA k (h4 k hk).1, (h4 k hk).2⟩, h5⟩
theorem AccP.frame {α : Type} [Rep α] {A : Nat → Prop} {e : TypeId} {w w' : World} {v : Value} {l : List α} (h : AccP A e w v l) (hs : w.heap.size ≤ w'.heap.size) (hb : ∀ k, A k → k < w.heap.size → w'.heap[k]? = w.heap[k]?) : AccP A e w' v l := by
  obtain ⟨xs, pss, h1, h2, h3, h4, h5⟩ := h
  refine ⟨xs, pss, row_frame h1 (fun g hg => ?_), h2, h3, fun k hk => ⟨(h4 k hk).1, Nat.lt_of_lt_of_le (h4 k hk).2 hs⟩, fun i hi => ?_⟩
  · have := h4 g (by simp [hg]); exact hb g this.1 this.2
  · obtain ⟨p, vs, hp, hO, hc⟩ := h5 i hi
    refine ⟨p, vs, hp, Rep.own_frame (fun k hk => ?_) hO, hc⟩
    have := h4 k (List.mem_append.2 (.inr (List.mem_flatten.2 ⟨p, List.mem_of_getElem? hp, hk⟩)))
    exact hb k this.1 this.2
theorem AccP.mono {α : Type} [Rep α] {A : Nat → Prop} {e : TypeId} {w w' : World} {v : Value} {l : List α} (h : AccP A e w v l) (hb : Below w.heap.size w w') : AccP A e w' v l :=
  h.frame hb.size (fun k _ hk => hb.block k hk)
theorem AccP.butP {α : Type} [Rep α] {A C : Nat → Prop} {e : TypeId} {w w' : World} {v : Value} {l : List α} (h : AccP A e w v l) (hb : ButP C w w') (hd : ∀ k, A k → ¬ C k) : AccP A e w' v l :=
  h.frame hb.size (fun k hA hk => hb.block k hk (hd k hA))
theorem AccP.ip {α : Type} [Rep α] {A : Nat → Prop} {e : TypeId} {w : World} {v : Value} {l : List α} (h : AccP A e w v l) : Ip A w [v] l := by
  obtain ⟨xs, pss, h1, h2, h3, h4, h5⟩ := h
  exact ⟨_, ⟨v, rfl, ownSl_of_row h1 h2 h5⟩, h3, fun k hk => (h4 k hk).1⟩
theorem AccP.rd {α : Type} [Rep α] {A : Nat → Prop} {e : TypeId} {w : World} {v : Value} {l : List α} (h : AccP A e w v l) : Rd w [v] l := h.ip.rd
theorem AccP.len {α : Type} [Rep α] {A : Nat → Prop} {e : TypeId} {w : World} {v : Value} {l : List α} (h : AccP A e w v l) : ∃ a c, v = .slice a l.length c ∧ l.length ≤ maxLen := by
  obtain ⟨xs, pss, h1, h2, h3, h4, h5⟩ := h
  rcases h1.2 with ⟨rfl, h0⟩ | ⟨g, cap, cur, rfl, hg, hh, hc, hm, hs, ht⟩
  · exact ⟨none, 0, by rw [h0], by omega⟩
  · exact ⟨_, cap, rfl, Nat.le_trans hc hm⟩
theorem AccP.nil {α : Type} [Rep α] (A : Nat → Prop) (e : TypeId) (w : World) : AccP (α := α) A e w (.slice none 0 0) [] :=
  ⟨[], [], World.ownsRow_nil w 0 e _, rfl, by simp [Value.ownBlock], by simp [Value.ownBlock], fun i h => absurd h (Nat.not_lt_zero _)⟩
theorem accP_made {α : Type} [Rep α] (w : World) (e : TypeId) : AccP (α := α) (fun k => k = w.heap.size) e (w.alloc (.cells #[] e)) (.slice (some ⟨w.heap.size, 0, none⟩) 0 0) [] :=
  ⟨[], [], row_made w e, rfl, by simp [Value.ownBlock], by simp [Value.ownBlock], fun i h => absurd h (Nat.not_lt_zero _)⟩
theorem accP_snoc {α : Type} [Rep α] {A C : Nat → Prop} {e : TypeId} {w w' : World} {v : Value} {l : List α} {y : α} {vs : List Value} {xs : List Value} {pss : List (List Nat)} {g' c' : Nat}
    (h1 : w.ownsRow 0 e (sz α) v l.length xs) (h2 : pss.length = l.length) (h3 : (v.ownBlock.toList ++ List.flatten pss).Nodup) (h4 : ∀ k, k ∈ v.ownBlock.toList ++ List.flatten pss → A k ∧ k < w.heap.size)
    (h5 : ∀ i (h : i < l.length), ∃ p vs, pss[i]? = some p ∧ Own p w vs l[i] ∧ ∀ k, k < vs.length → xs[i * sz α + k]? = vs[k]?) (hy : Ip C w vs y) (hd : ∀ k, A k → ¬ C k)
    (hg : v.ownBlock = some g' ∨ g' = w.heap.size) (hrow : w'.ownsRow 0 e (sz α) (.slice (some ⟨g', 0, none⟩) (l.length + 1) c') (l.length + 1) (xs ++ vs)) (hb : But v.ownBlock.toList w w') (hlt : g' < w'.heap.size) :
    AccP (fun k => A k ∨ C k ∨ k = w.heap.size) e w' (.slice (some ⟨g', 0, none⟩) (l.length + 1) c') (l ++ [y]) ∧ ButP A w w' := by
  obtain ⟨q, hq, hqn, hqC⟩ := hy
  have hql := Rep.own_lt hq
  rw [List.nodup_append] at h3
  obtain ⟨n1, n2, n3⟩ := h3
  have hown : ∀ k, k ∈ v.ownBlock.toList → A k ∧ k < w.heap.size := fun k hk => h4 k (List.mem_append.2 (.inl hk))
  have hfl : ∀ k, k ∈ List.flatten pss → A k ∧ k < w.heap.size := fun k hk => h4 k (List.mem_append.2 (.inr hk))
  have hg2 : ∀ k, k ∈ List.flatten pss → k ≠ g' := fun k hk e => by
    subst e
    rcases hg with h | h
    · exact n3 k (by simp [h]) k hk rfl
    · have := (hfl k hk).2; omega
  have hg3 : ∀ k, k ∈ q → k ≠ g' := fun k hk e => by
    subst e
    rcases hg with h | h
    · exact hd k (hown k (by simp [h])).1 (hqC k hk)
    · have := hql k hk; omega
  refine ⟨⟨xs ++ vs, pss ++ [q], by simpa using hrow, by simp [h2], ?_, ?_, ?_⟩, hb.butP (fun k hk => (hown k hk).1)⟩
  · simp only [Value.ownBlock, Option.toList_some, List.singleton_append, List.flatten_append, List.flatten_cons, List.flatten_nil, List.append_nil, List.nodup_cons, List.mem_append, not_or]
    refine ⟨⟨fun h => hg2 _ h rfl, fun h => hg3 _ h rfl⟩, List.nodup_append.2 ⟨n2, hqn, fun a ha b hb2 e => ?_⟩⟩
    subst e
    exact hd a (hfl a ha).1 (hqC a hb2)
  · intro k hk
    simp only [Value.ownBlock, Option.toList_some, List.singleton_append, List.flatten_append, List.flatten_cons, List.flatten_nil, List.append_nil, List.mem_cons, List.mem_append] at hk
    rcases hk with rfl | hk | hk
    · refine ⟨?_, hlt⟩
      rcases hg with h | h
      · exact .inl (hown k (by simp [h])).1
      · exact .inr (.inr h)
    · exact ⟨.inl (hfl k hk).1, Nat.lt_of_lt_of_le (hfl k hk).2 hb.size⟩
    · exact ⟨.inr (.inl (hqC k hk)), Nat.lt_of_lt_of_le (hql k hk) hb.size⟩
  · refine row_el_snoc (by have := h1.1; simpa using this) h2 (fun i hi => ?_) (Own.but hq hb (fun k hk hm => hd k (hown k hm).1 (hqC k hk)))
    obtain ⟨p, us, hp, hO, hc⟩ := h5 i hi
    exact ⟨p, us, hp, Own.but hO hb (fun k hk hm => n3 k hm k (List.mem_flatten.2 ⟨p, List.mem_of_getElem? hp, hk⟩) rfl), hc⟩
theorem wp_append_accP {P : Program} (w : World) {o : Oper} {a : Act} {K : Act → World → Prop} {Q : Exit → Act → World → Prop} (s x : Operand) (t : TypeId)
    (ho : o.op = .call { callee := .builtin .append, args := #[s, x], argTypes := #[t, t] }) {e : TypeId} {α : Type} [Rep α] {z : Value} {bytes : Nat} (E : ElemT P t e α z bytes) {v : Value} {l : List α} {A C : Nat → Prop}
    (hs : a.eval s = v) (hacc : AccP A e w v l) {y : α} {vs : List Value} (hy : Ip C w vs y) (hd : ∀ k, A k → ¬ C k)
    (ad : Addr) (c : Nat) (hx : a.eval x = .slice (some ad) 1 c) (hnews : ∀ j u, vs[j]? = some u → w.cell? (ad.add j) = some u) (hlen : l.length + 1 ≤ 1073741824)
    (h : ∀ a' c' w', AccP (fun k => A k ∨ C k ∨ k = w.heap.size) e w' (.slice a' (l.length + 1) c') (l ++ [y]) → ButP A w w' → K (a.put o.dst (.slice a' (l.length + 1) c')) w') : o.wp P a w K Q := by
  obtain ⟨xs, pss, h1, h2, h3, h4, h5⟩ := hacc
  exact wp_append_row w s x t ho E hs h1 (Rep.rd_len hy.rd) (Rep.rd_one hy.rd) ad c hx hnews hlen (fun g' c' w' hg hrow hb hlt => by
    obtain ⟨r1, r2⟩ := accP_snoc h1 h2 h3 h4 h5 hy hd hg hrow hb hlt
    exact h _ c' w' r1 r2)
theorem wpList_append_accP {P : Program} (w : World) {ops : Array Oper} {rest : List Oper} {o : Oper} {a : Act} {Q : Exit → Act → World → Prop} (hgd : o.guard = none) (s x : Operand) (t : TypeId)
    (ho : o.op = .call { callee := .builtin .append, args := #[s, x], argTypes := #[t, t] }) {e : TypeId} {α : Type} [Rep α] {z : Value} {bytes : Nat} (E : ElemT P t e α z bytes) {v : Value} {l : List α} {A C : Nat → Prop}
    (hs : a.eval s = v) (hacc : AccP A e w v l) {y : α} {vs : List Value} (hy : Ip C w vs y) (hd : ∀ k, A k → ¬ C k)
    (ad : Addr) (c : Nat) (hx : a.eval x = .slice (some ad) 1 c) (hnews : ∀ j u, vs[j]? = some u → w.cell? (ad.add j) = some u) (hlen : l.length + 1 ≤ 1073741824)
    (h : ∀ a' c' w', AccP (fun k => A k ∨ C k ∨ k = w.heap.size) e w' (.slice a' (l.length + 1) c') (l ++ [y]) → ButP A w w' → wpList P ops Q rest (a.put o.dst (.slice a' (l.length + 1) c')) w') : wpList P ops Q (o :: rest) a w :=
  wpList_plain hgd fun _ hK => wp_append_accP w s x t ho E hs hacc hy hd ad c hx hnews hlen fun a' c' w' h1 h2 => hK _ _ (h a' c' w' h1 h2)
theorem AccP.tight {α : Type} [Rep α] {A : Nat → Prop} {e : TypeId} {w : World} {v : Value} {l : List α} (h : AccP A e w v l) : AccP (fun k => A k ∧ k < w.heap.size) e w v l := by
  obtain ⟨xs, pss, h1, h2, h3, h4, h5⟩ := h
  exact ⟨xs, pss, h1, h2, h3, fun k hk => ⟨h4 k hk, (h4 k hk).2⟩, h5⟩
theorem Fresh.ip {α : Type} [Rep α] {lo : Nat} {w : World} {vs : List Value} {x : α} (h : Fresh lo w vs x) : Ip (fun k => lo ≤ k ∧ k < w.heap.size) w vs x := by
  obtain ⟨ps, h1, h2, h3⟩ := h
  exact ⟨ps, h1, h2, fun k hk => ⟨h3 k hk, Rep.own_lt h1 k hk⟩⟩
theorem Ip.fresh {α : Type} [Rep α] {A : Nat → Prop} {lo : Nat} {w : World} {vs : List Value} {x : α} (h : Ip A w vs x) (hA : ∀ k, A k → lo ≤ k) : Fresh lo w vs x := by
  obtain ⟨ps, h1, h2, h3⟩ := h
  exact ⟨ps, h1, h2, fun k hk => hA k (h3 k hk)⟩
theorem St.butP {w : World} {B : Nat} {wr w1 : World} {bx : List (Nat × Array Value × TypeId)} (h : St w B wr bx) {A : Nat → Prop} (hb : ButP A wr w1) (hA : ∀ k, A k → w.heap.size ≤ k) (hx : ∀ x, x ∈ bx → ¬ A x.1) : St w B w1 bx :=
  ⟨h.bel.trans (hb.below hA (Nat.le_trans h.lo h.hi)), h.lo, Nat.le_trans h.hi hb.size, fun x hm => by
    have h1 := h.box x hm
    exact ⟨h1.1, h1.2.1, by rw [hb.block _ (Nat.lt_of_lt_of_le h1.2.1 h.hi) (hx x hm)]; exact h1.2.2⟩⟩
theorem AccP.setCell {α : Type} [Rep α] {A : Nat → Prop} {e : TypeId} {w : World} {v : Value} {l : List α} (h : AccP A e w v l) {b o : Nat} (u : Value) (hA : ¬ A b) : AccP A e (w.setCell ⟨b, o, none⟩ u) v l :=
  h.frame (by simp [World.setCell]) (fun k hk _ => Below.heap_setCell _ _ _ _ (fun e => by subst e; exact hA hk))

end Go.Proofs.YtamkfnkikiekaaaGreat

/-
  PLAIN: what is owned, and cells, when another cell is written.
-/
namespace Go.Proofs.YtamkfnkikiekaaaGreat
open Go.RowKit
open Rep (Rd Own sz)

theorem Ip.setCell {α : Type} [Rep α] {A : Nat → Prop} {w : World} {vs : List Value} {x : α} (h : Ip A w vs x) {b o : Nat} (u : Value) (hA : ¬ A b) : Ip A (w.setCell ⟨b, o, none⟩ u) vs x :=
  h.frame (fun k hk _ => Below.heap_setCell _ _ _ _ (fun e => hA (by simp only at e; rw [← e]; exact hk)))
theorem cell_put {w : World} {b o b' o' : Nat} {v u : Value} (h : w.cell? ⟨b, o, none⟩ = some v) (hne : b ≠ b') : (w.setCell ⟨b', o', none⟩ u).cell? ⟨b, o, none⟩ = some v := by
  rw [World.cell?_setCell_other (h := fun e => hne (by simp only [Addr.mk.injEq] at e; exact e.1.symm))]
  exact h

end Go.Proofs.YtamkfnkikiekaaaGreat

/-
  CONTRACTS: powers; the list of an index.
-/
namespace Go.Proofs.YtamkfnkikiekaaaGreat
open Go.RowKit
open Rep (Rd Own sz)
set_option linter.unusedSimpArgs false
set_option linter.unusedVariables false

/-- The digits of n, m of them. -/
def digs (size : Int) : Nat → Int → List Int
  | 0, _ => []
  | m + 1, n => digs size m (n / size) ++ [n % size]
@[simp] theorem digs_length (size : Int) (m : Nat) (n : Int) : (digs size m n).length = m := by
  induction m generalizing n with
  | zero => rfl
  | succ m ih => simp [digs, ih]
theorem digs_mem (size : Int) (hs : 0 < size) (m : Nat) (n : Int) : ∀ a, a ∈ digs size m n → 0 ≤ a ∧ a < size := by
  induction m generalizing n with
  | zero => intro a ha; cases ha
  | succ m ih =>
    intro a ha
    rcases List.mem_append.1 ha with h | h
    · exact ih _ a h
    · obtain rfl : a = n % size := by simpa using h
      exact ⟨Int.emod_nonneg _ (by omega), Int.emod_lt_of_pos _ hs⟩

theorem dig_set (j : Nat) (t : List Int) (x : Int) (h : 0 < j) : (List.replicate j 0 ++ t).set (j - 1) x = List.replicate (j - 1) 0 ++ x :: t := by
  obtain ⟨k, rfl⟩ : ∃ k, j = k + 1 := ⟨j - 1, by omega⟩
  rw [show List.replicate (k + 1) (0 : Int) = List.replicate k 0 ++ [0] from List.replicate_succ']
  simp [List.set_append]
set_option maxHeartbeats 400000 in
theorem l01Digits_c (size many index : Int) (w : World) (hs : 0 < size) (hs2 : size ≤ 1000000) (hm : 0 ≤ many) (hm2 : many ≤ 1000000) (hi : 0 ≤ index) (hi2 : index ≤ 1000000000000) :
    Calls Tryz.prog 72 #[.int .i64 size, .int .i64 many, .int .i64 index] w fun e w' => ∃ v', e = .returned v' ∧ Fresh w.heap.size w' [v'] (digs size many.toNat index) ∧ Below w.heap.size w w' := by
  obtain ⟨n, rfl⟩ := Int.eq_ofNat_of_zero_le hm
  rw [Int.toNat_natCast]
  go_enter Tryz.func72, Tryz.ntmps72
  go_wp2_with (at_make; refine wpList_make_rep w rfl _ _ 47 rfl E_ints (0 : Int) own0_int n (by omega) rfl rfl ?_)
  intro w1 hown hb1 hs1
  have HO := Lib.hid hown
  have HB := Lib.hid hb1
  clear hown hb1
  go_wp2
  go_loopw [2, 8] (fun ix i wr => ∃ (j : Nat) (x : Int) (t : List Int), j ≤ n ∧ 0 ≤ x ∧ x ≤ 1000000000000 ∧ ix = .int .i64 x ∧ i = .int .i64 ((j : Int) - 1) ∧ Hid (t.length = n - j) ∧ Hid (digs size n index = digs size j x ++ t) ∧
    Hid (OnlyAt [w.heap.size] w1 wr) ∧ Hid (OwnSl [w.heap.size] wr (.slice (some ⟨w.heap.size, 0, none⟩) n n) (List.replicate j 0 ++ t))) (fun _ i _ => (intOf i + 1).toNat)
  case atStart => exact ⟨n, index, [], Nat.le_refl _, hi, hi2, rfl, rfl, by simp [Hid], by simp [Hid], OnlyAt.refl _ _, by simpa [Hid] using HO.out⟩
  case round =>
    obtain ⟨j, x, t, hj, hx, hx2, rfl, rfl, ht, hd, ho, hw⟩ := hrel
    by_cases hlt : 0 < j
    · obtain ⟨g, o', c', hv, hps, hcd, hf, hset⟩ := ownSl_int hw.out (j - 1) (by simp; omega)
      simp only [Value.slice.injEq, Option.some.injEq, Addr.mk.injEq] at hv
      obtain ⟨⟨rfl, rfl, _⟩, _, rfl⟩ := hv
      have h1 := Int.emod_nonneg x (by omega : size ≠ 0)
      have h2 := Int.emod_lt_of_pos x hs
      have h3 : 0 ≤ x / size := Int.ediv_nonneg hx (by omega)
      have h4 : x / size ≤ x := Int.ediv_le_self _ hx
      have HS := Lib.hid (hset (x % size) (i64_of _ h1 (by omega)))
      rw [dig_set _ _ _ hlt] at HS
      rw [Nat.zero_add] at hcd hf HS
      have ej : ((j : Int) - 1).toNat = j - 1 := by omega
      have e1 : 0 ≤ (j : Int) - 1 := by omega
      have e2 : (j : Int) - 1 < n := by omega
      clear hset hw hps
      go_wp2
      go_roundw
      case rel =>
        refine ⟨j - 1, x / size, x % size :: t, by omega, h3, by omega, rfl, ?_, ?_, ?_, ?_, ?_⟩
        · congr 1; omega
        · have := ht.out; simp only [Hid, List.length_cons]; omega
        · have := hd.out
          obtain ⟨k, rfl⟩ : ∃ k, j = k + 1 := ⟨j - 1, by omega⟩
          simp only [digs, List.append_assoc, List.cons_append, List.nil_append] at this
          exact this
        · exact OnlyAt.setCell ho.out (by simp) _
        · exact HS.out
      case measure => simp [intOf]; omega
    · obtain rfl : j = 0 := by omega
      go_wp2
      go_ret
      refine ⟨_, rfl, ⟨[w.heap.size], ⟨_, rfl, ?_⟩, by simp, by simp⟩, HB.out.trans (ho.out.below (by simp))⟩
      have h5 := hw.out
      have h6 := hd.out
      simp only [digs, List.nil_append] at h6
      rw [h6]
      simpa using h5

theorem pow_le_of {s : Int} {a b : Nat} (hs : 1 ≤ s) (h : a ≤ b) : s ^ a ≤ s ^ b := by
  induction b with
  | zero => obtain rfl : a = 0 := (by omega); exact Int.le_refl _
  | succ b ih =>
    by_cases hab : a = b + 1
    · rw [hab]; exact Int.le_refl _
    · have := ih (by omega)
      have h2 : (0 : Int) ≤ s ^ b := Int.pow_nonneg (by omega)
      calc s ^ a ≤ s ^ b := this
        _ = s ^ b * 1 := by omega
        _ ≤ s ^ b * s := Int.mul_le_mul_of_nonneg_left hs h2
        _ = s ^ (b + 1) := (Int.pow_succ _ _).symm
set_option maxHeartbeats 400000 in
theorem l01Power_c (size many : Int) (w : World) (hs : 0 ≤ size) (hm : 0 ≤ many) (hm2 : many ≤ 1000000) (hp : size ^ many.toNat ≤ 1000000000000) :
    Calls Tryz.prog 71 #[.int .i64 size, .int .i64 many] w fun e w' => e = .returned (.int .i64 (size ^ many.toNat)) ∧ w = w' := by
  obtain ⟨n, rfl⟩ := Int.eq_ofNat_of_zero_le hm
  rw [Int.toNat_natCast] at hp ⊢
  go_enter Tryz.func71, Tryz.ntmps71
  go_wp2
  go_loop [1, 5] (fun i p => ∃ j : Nat, j ≤ n ∧ i = .int .i64 ((n : Int) - j) ∧ ∃ q : Int, 0 ≤ q ∧ q ≤ 1000000000000 ∧ Hid (q = size ^ j) ∧ p = .int .i64 q) (fun i _ => (intOf i).toNat)
  case atStart => exact ⟨0, Nat.zero_le _, by simp, 1, by omega, by omega, by simp [Hid], rfl⟩
  case round =>
    obtain ⟨j, hj, rfl, q, hq0, hq1, hq, rfl⟩ := hrel
    by_cases hlt : j < n
    · have e1 : q * size = size ^ (j + 1) := by rw [hq.out, Int.pow_succ]
      have e2 : q * size ≤ 1000000000000 := by
        rcases (show size = 0 ∨ 1 ≤ size by omega) with h0 | h0
        · rw [h0]; omega
        · rw [e1]; exact Int.le_trans (pow_le_of h0 hlt) hp
      have e3 : 0 ≤ q * size := Int.mul_nonneg hq0 (by omega)
      have E1 := Lib.hid e1
      clear e1
      go_wp2
      go_round
      case rel => exact ⟨j + 1, hlt, by go_num, q * size, e3, e2, E1.out, rfl⟩
      case measure => simp [intOf]; omega
    · obtain rfl : j = n := by omega
      go_wp2
      go_ret
      exact ⟨ret_int hq.out, rfl⟩

end Go.Proofs.YtamkfnkikiekaaaGreat

/-
  CONTRACTS: is a number in a list.
-/
namespace Go.Proofs.YtamkfnkikiekaaaGreat
open Go.RowKit Go.Shelf Go.IntWalk
open Rep (Rd Own sz)
set_option linter.unusedSimpArgs false
set_option linter.unusedVariables false

/-- Is the number in the list? -/
def hasI (l : List Int) (a : Int) : Bool := l.any (fun x => a == x)
set_option maxRecDepth 100000 in
set_option maxHeartbeats 1000000 in
theorem indexInt_c (l : List Int) (v : Value) (a : Int) (w : World) (r : Rd w [v] l) :
    Calls Tryz.prog 88 #[v, .int .i64 a] w fun e w' => e = .returned (.int .i64 (firstI (fun x => a == x) l)) ∧ Below w.heap.size w w' := by
  obtain ⟨ad, c, rfl, h⟩ := rd_list r
  have hb := (rdSl_len h).2
  unfold maxLen at hb
  have HR := Lib.hid r
  clear r h
  go_enter Tryz.func88, Tryz.ntmps88
  go_wp2_with fail
  go_loopw [8] (fun i wl => ∃ k : Nat, k ≤ l.length ∧ i = .int .i64 k ∧ Hid (Below w.heap.size w wl) ∧ Hid (∀ j (hj : j < l.length), j < k → (a == l[j]) = false)) (fun i _ => l.length - (intOf i).toNat)
  case atStart => exact ⟨0, Nat.zero_le _, rfl, Below.refl _ _, fun j _ hj => absurd hj (Nat.not_lt_zero _)⟩
  case round =>
    obtain ⟨k, hk, rfl, hbl, hr⟩ := hrel
    have hsr := (St.start w).step hbl.out
    have HB := Lib.hid hbl.out
    by_cases hlt : k < l.length
    · have hkl : (k : Int) < l.length := by omega
      obtain ⟨b, o, rfl, qk, _⟩ := rd_int_at (Rd.mono HR.out hsr.bel) k hlt
      have HAT := Lib.hid (fun h1 => firstI_at (q := fun x => a == x) hlt (fun j hj h => hr.out j hj h) h1)
      have HNX := Lib.hid (fun (h : (a == l[k]) = false) => show ∀ j (hj : j < l.length), j < k + 1 → (a == l[j]) = false from fun j hj hjk => by
        rcases Nat.lt_or_ge j k with h1 | h1
        · exact hr.out j hj h1
        · obtain rfl : j = k := by omega
          exact h)
      generalize l[k] = X at *
      by_cases hx : a = X
      · have hq : (a == X) = true := by simp [hx]
        have H1 := Lib.hid (HAT.out hq)
        clear hx
        go_wp2_with fail
        go_ret
        exact ⟨ret_int H1.out.symm, HB.out⟩
      · have hq : (a == X) = false := by simp [hx]
        have H1 := Lib.hid (HNX.out hq)
        clear hx
        go_wp2_with fail
        go_roundw
        case rel => exact ⟨k + 1, by omega, by go_num, HB.out, H1.out⟩
        case measure => simp [intOf]; omega
    · obtain rfl : k = l.length := by omega
      have hnl : ¬ ((l.length : Int) < l.length) := by omega
      have H1 := Lib.hid (firstI_no (q := fun x => a == x) (fun j hj _ => hr.out j hj hj))
      go_wp2_with fail
      go_ret
      exact ⟨ret_int H1.out.symm, HB.out⟩
set_option maxRecDepth 100000 in
theorem containsInt_c (l : List Int) (v : Value) (a : Int) (w : World) (r : Rd w [v] l) :
    Calls Tryz.prog 62 #[v, .int .i64 a] w fun e w' => e = .returned (.bool (hasI l a)) ∧ Below w.heap.size w w' := by
  obtain ⟨ad, c, rfl, _⟩ := rd_list r
  have HR := Lib.hid r
  clear r
  go_enter Tryz.func62, Tryz.ntmps62
  go_wp2_with fail
  refine (indexInt_c l _ a _ HR.out).mono ?_
  rintro e w1 ⟨rfl, hb1⟩
  have hlo := firstI_lo (fun x => a == x) l
  have HB := Lib.hid hb1
  have HE := Lib.hid (firstI_any (fun x => a == x) l)
  generalize firstI (fun x => a == x) l = F at *
  go_wp2_with fail
  go_ret
  exact ⟨ret_bool HE.out, HB.out⟩
set_option maxRecDepth 100000 in
set_option maxHeartbeats 1000000 in
theorem l00Has_c (l : List Int) (v : Value) (a : Int) (w : World) (r : Rd w [v] l) :
    Calls Tryz.prog 37 #[v, .int .i64 a] w fun e w' => e = .returned (.bool (hasI l a)) ∧ Below w.heap.size w w' := by
  obtain ⟨ad, c, rfl, h⟩ := rd_list r
  have hb := (rdSl_len h).2
  unfold maxLen at hb
  have HR := Lib.hid r
  clear r h
  go_enter Tryz.func37, Tryz.ntmps37
  go_wp2_with fail
  go_loopw [5] (fun i wl => ∃ k : Nat, k ≤ l.length ∧ i = .int .i64 k ∧ Hid (Below w.heap.size w wl) ∧ Hid (∀ j (hj : j < l.length), j < k → (a == l[j]) = false)) (fun i _ => l.length - (intOf i).toNat)
  case atStart => exact ⟨0, Nat.zero_le _, rfl, Below.refl _ _, fun j _ hj => absurd hj (Nat.not_lt_zero _)⟩
  case round =>
    obtain ⟨k, hk, rfl, hbl, hr⟩ := hrel
    have hsr := (St.start w).step hbl.out
    have HB := Lib.hid hbl.out
    by_cases hlt : k < l.length
    · have hkl : (k : Int) < l.length := by omega
      obtain ⟨b, o, rfl, qk, _⟩ := rd_int_at (Rd.mono HR.out hsr.bel) k hlt
      have HAT := Lib.hid (fun (h1 : (a == l[k]) = true) => show hasI l a = true from List.any_eq_true.2 ⟨l[k], List.getElem_mem hlt, h1⟩)
      have HNX := Lib.hid (fun (h : (a == l[k]) = false) => show ∀ j (hj : j < l.length), j < k + 1 → (a == l[j]) = false from fun j hj hjk => by
        rcases Nat.lt_or_ge j k with h1 | h1
        · exact hr.out j hj h1
        · obtain rfl : j = k := by omega
          exact h)
      generalize l[k] = X at *
      by_cases hx : X = a
      · have H1 := Lib.hid (HAT.out (by simp [hx]))
        have hq : (X == a) = true := by simp [hx]
        clear hx
        go_wp2_with fail
        go_ret
        exact ⟨ret_bool H1.out.symm, HB.out⟩
      · have H1 := Lib.hid (HNX.out (by simp; exact fun h => hx h.symm))
        have hq : (X == a) = false := by simp [hx]
        clear hx
        go_wp2_with fail
        go_roundw
        case rel => exact ⟨k + 1, by omega, by go_num, HB.out, H1.out⟩
        case measure => simp [intOf]; omega
    · obtain rfl : k = l.length := by omega
      have hnl : ¬ ((l.length : Int) < l.length) := by omega
      have H1 := Lib.hid (show hasI l a = false from by
        unfold hasI
        rw [List.any_eq_false]
        intro x hx
        obtain ⟨j, hj, rfl⟩ := List.getElem_of_mem hx
        rw [hr.out j hj hj]; decide)
      go_wp2_with fail
      go_ret
      exact ⟨ret_bool H1.out.symm, HB.out⟩

end Go.Proofs.YtamkfnkikiekaaaGreat

/-
  PLAIN: a row whose elements stand in memory of an earlier world.
-/
namespace Go.Proofs.YtamkfnkikiekaaaGreat
open Go.RowKit Go.Shelf Go.IntWalk
open Rep (Rd Own sz)
set_option linter.unusedSimpArgs false
set_option linter.unusedVariables false

theorem ip_int1 {C : Nat → Prop} {w : World} {n : Int} (h : I64 n) : Ip C w [.int .i64 n] n := ⟨[], ⟨rfl, rfl, h⟩, List.nodup_nil, fun k hk => by cases hk⟩
/-- A row of the call's own whose elements stand (in part) in memory of an earlier world. -/
def RowR {α : Type} [Rep α] (w0 : World) (e : TypeId) (w : World) (v : Value) (l : List α) : Prop :=
  ∃ xs, w.ownsRow 0 e (sz α) v l.length xs ∧ ∀ i (h : i < l.length), ∃ vs, Rd w0 vs l[i] ∧ ∀ k, k < vs.length → xs[i * sz α + k]? = vs[k]?
theorem RowR.nil {α : Type} [Rep α] (w0 : World) (e : TypeId) (w : World) : RowR (α := α) w0 e w (.slice none 0 0) [] :=
  ⟨[], World.ownsRow_nil w 0 e _, fun i h => absurd h (Nat.not_lt_zero _)⟩
theorem RowR.snoc {α : Type} [Rep α] {w0 w w' : World} {e : TypeId} {v v' : Value} {l : List α} {y : α} {xs vs : List Value} (hrow : w.ownsRow 0 e (sz α) v l.length xs) (hel : ∀ i (h : i < l.length), ∃ vs, Rd w0 vs l[i] ∧ ∀ k, k < vs.length → xs[i * sz α + k]? = vs[k]?)
    (hy : Rd w0 vs y) (hrow' : w'.ownsRow 0 e (sz α) v' (l.length + 1) (xs ++ vs)) : RowR w0 e w' v' (l ++ [y]) := by
  refine ⟨xs ++ vs, by rw [List.length_append]; exact hrow', fun i hi => ?_⟩
  have hxl := hrow.1
  by_cases hlt : i < l.length
  · obtain ⟨us, hu, hk⟩ := hel i hlt
    refine ⟨us, by rw [List.getElem_append_left hlt]; exact hu, fun k hk2 => ?_⟩
    have hul := Rep.rd_len hu
    have hb := idx_lt (s := sz α) hlt (show k < sz α by omega)
    rw [List.getElem?_append_left (by rw [hxl]; exact hb)]
    exact hk k hk2
  · have : i = l.length := by simp at hi; omega
    subst this
    refine ⟨vs, by simpa using hy, fun k hk2 => ?_⟩
    rw [List.getElem?_append_right (by omega), hxl]
    congr 1
    omega
theorem RowR.rd {α : Type} [Rep α] {w0 w : World} {e : TypeId} {v : Value} {l : List α} (h : RowR w0 e w v l) (hb : Below w0.heap.size w0 w) : Rd w [v] l := by
  obtain ⟨xs, hrow, hel⟩ := h
  rcases hrow.2 with ⟨rfl, h0⟩ | ⟨g, cap, cur, rfl, _, hh, hc, hm, hs, ht⟩
  · obtain rfl : l = [] := List.length_eq_zero_iff.1 h0
    exact ⟨none, 0, rfl, Nat.zero_le _, Nat.zero_le _, fun i hi => absurd hi (Nat.not_lt_zero _)⟩
  · refine ⟨_, _, rfl, hc, hm, fun i hi => ?_⟩
    obtain ⟨vs, hr, hk⟩ := hel i hi
    have hvl := Rep.rd_len hr
    refine ⟨g, 0, vs, rfl, Rep.rd_mono hb hr, fun k hk2 => ?_⟩
    have hk3 : k < vs.length := by omega
    rw [cell_at_block hh]
    have h1 := hk k hk3
    rw [← ht] at h1
    have hb2 := idx_lt (s := sz α) hi (show k < sz α by omega)
    simp only [List.getElem?_take, if_pos hb2] at h1
    simpa using h1
theorem RowR.frame {α : Type} [Rep α] {w0 w w' : World} {e : TypeId} {v : Value} {l : List α} (h : RowR w0 e w v l) (hb : ∀ g, v.ownBlock = some g → w'.heap[g]? = w.heap[g]?) : RowR w0 e w' v l := by
  obtain ⟨xs, hrow, hel⟩ := h
  exact ⟨xs, row_frame hrow hb, hel⟩
/-- .. the elements owned. -/
def RowO {α : Type} [Rep α] (P : Nat → Prop) (w0 : World) (e : TypeId) (w : World) (v : Value) (l : List α) : Prop :=
  ∃ xs, w.ownsRow 0 e (sz α) v l.length xs ∧ ∀ i (h : i < l.length), ∃ vs, Ip P w0 vs l[i] ∧ ∀ k, k < vs.length → xs[i * sz α + k]? = vs[k]?
theorem RowO.snoc {α : Type} [Rep α] {P : Nat → Prop} {w0 w w' : World} {e : TypeId} {v v' : Value} {l : List α} {y : α} {xs vs : List Value} (hrow : w.ownsRow 0 e (sz α) v l.length xs) (hel : ∀ i (h : i < l.length), ∃ vs, Ip P w0 vs l[i] ∧ ∀ k, k < vs.length → xs[i * sz α + k]? = vs[k]?)
    (hy : Ip P w0 vs y) (hrow' : w'.ownsRow 0 e (sz α) v' (l.length + 1) (xs ++ vs)) : RowO P w0 e w' v' (l ++ [y]) := by
  refine ⟨xs ++ vs, by rw [List.length_append]; exact hrow', fun i hi => ?_⟩
  have hxl := hrow.1
  by_cases hlt : i < l.length
  · obtain ⟨us, hu, hk⟩ := hel i hlt
    refine ⟨us, by rw [List.getElem_append_left hlt]; exact hu, fun k hk2 => ?_⟩
    have hul := Rep.rd_len hu.rd
    have hb := idx_lt (s := sz α) hlt (show k < sz α by omega)
    rw [List.getElem?_append_left (by rw [hxl]; exact hb)]
    exact hk k hk2
  · have : i = l.length := by simp at hi; omega
    subst this
    refine ⟨vs, by simpa using hy, fun k hk2 => ?_⟩
    rw [List.getElem?_append_right (by omega), hxl]
    congr 1
    omega
end Go.Proofs.YtamkfnkikiekaaaGreat

/-
  CONTRACTS: the numbers from one on.
-/
namespace Go.Proofs.YtamkfnkikiekaaaGreat
open Go.RowKit Go.Shelf Go.IntWalk
open Rep (Rd Own sz)
set_option linter.unusedSimpArgs false
set_option linter.unusedVariables false

/-- The numbers from one on. -/
def upL (f : Int) (n : Nat) : List Int := (List.range n).map (fun (k : Nat) => f + (k : Int))
theorem upL_len (f : Int) (n : Nat) : (upL f n).length = n := by simp [upL]
theorem upL_succ (f : Int) (n : Nat) : upL f (n + 1) = upL f n ++ [f + (n : Int)] := by simp [upL, List.range_succ]
set_option maxRecDepth 100000 in
set_option maxHeartbeats 2000000 in
theorem upTo_c (f : Int) (n : Nat) (w : World) (hf : 0 ≤ f) (hf2 : f ≤ 1000000) (hn : n ≤ 1000000) :
    Calls Tryz.prog 50 #[.int .i64 f, .int .i64 n] w fun e w' => ∃ v, e = .returned v ∧ Acc w.heap.size w'.heap.size 2 w' v (upL f n) ∧ Below w.heap.size w w' := by
  have HM := Lib.hid (acc_made (α := Int) w 2)
  go_enter Tryz.func50, Tryz.ntmps50
  go_wp2_with fail
  go_loopw [5, 9] (fun o i wl => ∃ (k : Nat) (ao : Option Addr) (co : Nat), k ≤ n ∧ i = .int .i64 k ∧ o = .slice ao k co ∧ Hid (Below w.heap.size w wl) ∧ Hid (Acc w.heap.size wl.heap.size 2 wl (.slice ao k co) (upL f k))) (fun _ i _ => n - (intOf i).toNat)
  case atStart => exact ⟨0, _, _, Nat.zero_le _, rfl, rfl, belowA _ _, by simpa [upL, Hid] using HM.out⟩
  case round =>
    clear HM
    obtain ⟨k, ao, co, hk, rfl, rfl, hbl, hac⟩ := hrel
    have hb0 := hbl.out.size
    have hlen := upL_len f k
    by_cases hlt : k < n
    · go_wp2_with (at_builtin; go_loud (refine wpList_append_ints _ rfl _ _ _ rfl E_ints rfl (Acc.mono hac.out (belowA _ (.cells #[.int .i64 (f + k)] 2))) (by omega) (by simp) ⟨wr.heap.size, 0, none⟩ 1 rfl (ns := [f + (k : Int)]) (news1 (cell_at_block (heap_alloc_new _ _))) (fun b hb => by simp at hb; subst hb; exact ⟨by omega, by omega⟩) (by simp; omega) ?_); intro a9 c9 w9 hA9 hB9 hK9)
      rw [← upL_succ, hlen] at hA9
      have HA := Lib.hid hA9
      have HB := Lib.hid (hbl.out.trans ((belowA wr (.cells #[.int .i64 (f + k)] 2)).mono hbl.out.size) |>.trans hB9)
      clear hA9 hB9 hK9 hac hbl
      go_wp2_with fail
      go_roundw
      case rel => exact ⟨k + 1, a9, c9, hlt, by go_num, rfl, HB.out, HA.out⟩
      case measure => simp [intOf]; omega
    · obtain rfl : k = n := by omega
      go_wp2_with fail
      go_ret
      exact ⟨_, rfl, hac.out, hbl.out⟩

end Go.Proofs.YtamkfnkikiekaaaGreat

/-
  PLAIN: a row whose elements are those of an owned one, cell by cell, owns what that one owned.
-/
namespace Go.Proofs.YtamkfnkikiekaaaGreat
open Go.RowKit
open Rep (Rd Own sz)
set_option linter.unusedSimpArgs false
set_option linter.unusedVariables false

/-- A row of the call's own whose elements have these cells. -/
def RowU (us : Nat → List Value) (s : Nat) (e : TypeId) (w : World) (v : Value) (n : Nat) : Prop :=
  ∃ xs, w.ownsRow 0 e s v n xs ∧ ∀ i, i < n → ∀ k, k < (us i).length → xs[i * s + k]? = (us i)[k]?
theorem RowU.nil (us : Nat → List Value) (s : Nat) (e : TypeId) (w : World) : RowU us s e w (.slice none 0 0) 0 :=
  ⟨[], World.ownsRow_nil w 0 e _, fun i h => absurd h (Nat.not_lt_zero _)⟩
theorem RowU.frame {us : Nat → List Value} {s : Nat} {e : TypeId} {w w' : World} {v : Value} {n : Nat} (h : RowU us s e w v n) (hb : ∀ g, v.ownBlock = some g → w'.heap[g]? = w.heap[g]?) : RowU us s e w' v n := by
  obtain ⟨xs, hrow, hel⟩ := h
  exact ⟨xs, row_frame hrow hb, hel⟩
theorem RowU.snoc {us : Nat → List Value} {s : Nat} {e : TypeId} {w w' : World} {v v' : Value} {n : Nat} {xs : List Value} (hrow : w.ownsRow 0 e s v n xs) (hel : ∀ i, i < n → ∀ k, k < (us i).length → xs[i * s + k]? = (us i)[k]?)
    (hl : ∀ i, i ≤ n → (us i).length = s) (hrow' : w'.ownsRow 0 e s v' (n + 1) (xs ++ us n)) : RowU us s e w' v' (n + 1) := by
  refine ⟨_, hrow', fun i hi k hk => ?_⟩
  have hxl := hrow.1
  have hul := hl i (by omega)
  by_cases hlt : i < n
  · have hb := idx_lt (s := s) hlt (show k < s by omega)
    rw [List.getElem?_append_left (by rw [hxl]; exact hb)]
    exact hel i hlt k hk
  · obtain rfl : i = n := by omega
    rw [List.getElem?_append_right (by omega), hxl]
    congr 1
    omega
end Go.Proofs.YtamkfnkikiekaaaGreat

/-
  CONTRACTS: slices.Equal.
-/
namespace Go.Proofs.YtamkfnkikiekaaaGreat
open Go.RowKit
open Rep (Rd Own sz)
set_option linter.unusedSimpArgs false
set_option linter.unusedVariables false

set_option maxRecDepth 100000 in
set_option maxHeartbeats 1000000 in
theorem equalInts_c (l1 l2 : List Int) (v1 v2 : Value) (w : World) (r1 : Rd w [v1] l1) (r2 : Rd w [v2] l2) :
    Calls Tryz.prog 32 #[v1, v2] w fun e w' => e = .returned (.bool (decide (l1 = l2))) ∧ Below w.heap.size w w' := by
  obtain ⟨a1, c1, rfl, h1⟩ := rd_list r1
  obtain ⟨a2, c2, rfl, h2⟩ := rd_list r2
  clear r1 r2
  have b1 := (rdSl_len h1).2
  have b2 := (rdSl_len h2).2
  unfold maxLen at b1 b2
  have G1 := Lib.hid h1
  have G2 := Lib.hid h2
  clear h1 h2
  by_cases hl : l1.length = l2.length
  · generalize hn1 : l1.length = n1 at *
    generalize hn2 : l2.length = n2 at *
    have H1 := Lib.hid hn1
    have H2 := Lib.hid hn2
    clear hn1 hn2
    subst hl
    have hl' : ((n1 : Int) != n1) = false := by simp
    go_enter Tryz.func32, Tryz.ntmps32
    go_wp2_with fail
    go_loopw [13] (fun i wr => ∃ k : Nat, k ≤ n1 ∧ i = .int .i64 k ∧ Hid (Below w.heap.size w wr) ∧ Hid (l1.take k = l2.take k)) (fun i _ => n1 - (intOf i).toNat)
    case atStart => exact ⟨0, Nat.zero_le _, rfl, Below.refl _ _, by simp [Hid]⟩
    case round =>
      obtain ⟨k, hk, rfl, hbl, hr⟩ := hrel
      by_cases hlt : k < n1
      · have k1 : k < l1.length := by rw [H1.out]; exact hlt
        have k2 : k < l2.length := by rw [H2.out]; exact hlt
        obtain ⟨b1, o1, u0, rfl, q0, hx⟩ := rdSl_one rfl (rdSl_mono hbl.out G1.out) k k1
        obtain ⟨b2, o2, t0, rfl, p0, hy⟩ := rdSl_one rfl (rdSl_mono hbl.out G2.out) k k2
        obtain ⟨rfl, _⟩ := rd_i1 hx
        obtain ⟨rfl, _⟩ := rd_i1 hy
        clear hx hy
        by_cases he : l1[k] = l2[k]
        · have hb : (l1[k] != l2[k]) = false := by simpa using he
          have HE := Lib.hid he
          clear he
          go_wp2_with fail
          go_quiet (fail)
          go_wp2_with fail
          go_roundw
          case rel => exact ⟨k + 1, by omega, by go_num, hbl.out.trans ((drewN_below _ _).mono hbl.out.size), take_succG k1 k2 hr.out HE.out⟩
          case measure => simp [intOf]; omega
        · have hb : (l1[k] != l2[k]) = true := by simpa using he
          have HE := Lib.hid he
          clear he
          go_wp2_with fail
          go_quiet (fail)
          go_wp2_with fail
          go_ret
          exact ⟨ret_bool (by simp [ne_getG k1 k2 HE.out]), hbl.out.trans ((drewN_below _ _).mono hbl.out.size)⟩
      · obtain rfl : k = n1 := by omega
        go_wp2_with fail
        go_ret
        exact ⟨ret_bool (by simp [take_allG H1.out H2.out hr.out]), hbl.out⟩
  · have hl' : ((l1.length : Int) != l2.length) = true := by simp; omega
    have HL := Lib.hid hl
    clear hl
    go_enter Tryz.func32, Tryz.ntmps32
    go_wp2_with fail
    go_ret
    refine ⟨ret_bool ?_, Below.refl _ _⟩
    symm
    simp only [decide_eq_false_iff_not]
    rintro rfl
    exact HL.out rfl

end Go.Proofs.YtamkfnkikiekaaaGreat

