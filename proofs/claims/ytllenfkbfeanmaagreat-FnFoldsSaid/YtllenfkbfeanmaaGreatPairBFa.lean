/-
  SEVERAL TEXTS IN ONE.
-/
import Derived.Test.YtllenfkbfeanmaaGreatPairAFa
import Derived.Test.YtllenfkbfeanmaaGreatRelOfFa
import Derived.Test.YtllenfkbfeanmaaGreatPairsFa
import Derived.Test.YtllenfkbfeanmaaGreatArcFBFa

/-
  PLAIN: the pairs that constraints tell; pairs that are taken away through a third variable.
-/
namespace Go.Proofs.YtllenfkbfeanmaaGreat
open Go.RowKit Go.IntWalk
open Rep (Rd Own sz)
set_option linter.unusedSimpArgs false
set_option linter.unusedVariables false

/-- All constraints leave the pair. -/
def okPair (rs : List RelT) (cs : List OpT) (i j a b : Int) : Bool := cs.all (fun c => tellsB (rs.getD c.1.toNat (0, [])).2 c.2 i j a b)
def okY (rs : List RelT) (cs : List OpT) (i j : Int) (y : List Int) : Bool := okPair rs cs i j (y.getD 0 0) (y.getD 1 0)
def sqN (size : Int) : Nat := size.toNat * size.toNat
def fstRel (t : Tmpl) (x : Inst) (j i : Nat) : RelT := (2, selT (okY t.2 x.2 i j) t.1 2 (sqN t.1))
def fstRow (t : Tmpl) (x : Inst) (j i : Nat) : List RelT := (List.range i).map (fstRel t x j)
def fstP (t : Tmpl) (x : Inst) : Nat → List RelT
  | 0 => []
  | j + 1 => fstP t x j ++ fstRow t x j j
def tri : Nat → Nat
  | 0 => 0
  | j + 1 => tri j + j
theorem fstRow_succ (t : Tmpl) (x : Inst) (j i : Nat) : fstRow t x j (i + 1) = fstRow t x j i ++ [fstRel t x j i] := by
  unfold fstRow
  rw [List.range_succ, List.map_append]
  rfl
@[simp] theorem fstRow_len (t : Tmpl) (x : Inst) (j i : Nat) : (fstRow t x j i).length = i := by simp [fstRow]
@[simp] theorem fstP_len (t : Tmpl) (x : Inst) : ∀ j, (fstP t x j).length = tri j
  | 0 => rfl
  | j + 1 => by simp [fstP, tri, fstP_len t x j]
theorem tri_le {i j : Nat} (h : i ≤ j) : tri i ≤ tri j := by
  induction j with
  | zero =>
    obtain rfl : i = 0 := by omega
    exact Nat.le_refl _
  | succ j ih =>
    rcases Nat.lt_or_ge i (j + 1) with h1 | h1
    · have := ih (by omega)
      simp only [tri]
      omega
    · obtain rfl : i = j + 1 := by omega
      exact Nat.le_refl _
theorem tri_lt {i j V : Nat} (h : i < j) (hj : j < V) : tri j + i < tri V := by
  have := tri_le (show j + 1 ≤ V from hj)
  simp only [tri] at this
  omega
theorem tri_ten {V : Nat} (h : V ≤ 10) : tri V ≤ 45 := by
  have := tri_le h
  have h2 : tri 10 = 45 := by decide
  omega
theorem tri_nat : ∀ j : Nat, j * (j - 1) = 2 * tri j
  | 0 => rfl
  | 1 => rfl
  | j + 2 => by
    have := tri_nat (j + 1)
    simp only [tri, Nat.add_sub_cancel] at this ⊢
    have e : (j + 2) * (j + 2 - 1) = (j + 1) * j + 2 * (j + 1) := by
      rw [show j + 2 - 1 = j + 1 by omega, Nat.mul_comm (j + 1) j, ← Nat.add_mul, Nat.mul_comm]
    omega
theorem tri_half (j : Nat) : j * (j - 1) / 2 = tri j := by rw [tri_nat]; omega
theorem pidx_tri (i j : Nat) : pidx i j = tri j + i := by unfold pidx; rw [tri_half]
theorem pidx_lt2 {i j V : Nat} (h : i < j) (hj : j < V) : pidx i j < tri V := by rw [pidx_tri]; exact tri_lt h hj
theorem sqN_le {size : Int} (h : 1 ≤ size ∧ size ≤ 4) : 1 ≤ sqN size ∧ sqN size ≤ 16 ∧ size ^ 2 = (sqN size : Int) ∧ size * size = (sqN size : Int) := by
  obtain rfl | rfl | rfl | rfl : size = 1 ∨ size = 2 ∨ size = 3 ∨ size = 4 := by omega
  all_goals decide

theorem sqN_int {size : Int} (h : 0 ≤ size) : (sqN size : Int) = size * size := by
  unfold sqN
  rw [Int.natCast_mul, Int.toNat_of_nonneg h]
theorem digs_two {size : Int} (hs : 1 ≤ size) {n : Nat} (h : n < sqN size) : digs size 2 (n : Int) = [(n : Int) / size, (n : Int) % size] := by
  have e := sqN_int (show 0 ≤ size by omega)
  have h2 : (n : Int) / size < size := Int.ediv_lt_of_lt_mul (by omega) (by omega)
  have h3 : 0 ≤ (n : Int) / size := Int.ediv_nonneg (by omega) (by omega)
  simp only [digs, List.nil_append, List.cons_append, List.singleton_append]
  rw [Int.emod_eq_of_lt h3 h2]
/-- The relations of all pairs of V variables, each a choice of the pairs of values. -/
structure PairOk (size : Int) (V : Nat) (P : List RelT) : Prop where
  len : P.length = tri V
  sel : ∀ r, r ∈ P → ∃ q, r = (2, selT q size 2 (sqN size))
theorem getD_mem {α : Type} {l : List α} {n : Nat} (d : α) (h : n < l.length) : l.getD n d ∈ l := by
  rw [List.getD, List.getElem?_eq_getElem h]
  exact List.getElem_mem h
theorem PairOk.own {size : Int} {V i j : Nat} {P : List RelT} (h : PairOk size V P) (hij : i < j) (hj : j < V) : ∃ q, P.getD (pidx i j) (0, []) = (2, selT q size 2 (sqN size)) :=
  h.sel _ (getD_mem _ (by rw [h.len]; exact pidx_lt2 hij hj))
theorem digs_code {size : Int} (hs : 1 ≤ size) : ∀ (m : Nat) (n : Int), codeL size (digs size m n) = n % size ^ m
  | 0, n => by simp [digs, codeL]
  | m + 1, n => by
    rw [digs, codeL_snoc, digs_code hs m, Int.pow_succ, Int.mul_comm (size ^ m) size]
    have h1 := Int.emod_add_mul_ediv n (size * size ^ m)
    have h2 := Int.emod_add_mul_ediv n size
    have h3 := Int.emod_add_mul_ediv (n / size) (size ^ m)
    have h4 : n / (size * size ^ m) = n / size / size ^ m := (Int.ediv_ediv_of_nonneg (by omega)).symm
    have e1 : size * (n / size) = size * (n / size % size ^ m) + size * size ^ m * (n / size / size ^ m) := by
      conv => lhs; rw [← h3]
      rw [Int.mul_add, Int.mul_assoc]
    have e2 : n / size % size ^ m * size = size * (n / size % size ^ m) := Int.mul_comm _ _
    rw [h4] at h1
    omega
theorem selT_inc (q : List Int → Bool) {size : Int} (hs : 1 ≤ size) {m k : Nat} (hk : (k : Int) ≤ size ^ m) : Inc (selT q size m k) := by
  have hp : List.Pairwise (fun a b => cmpL a b < 0) ((List.range k).map (fun (i : Nat) => digs size m (i : Int))) := by
    rw [List.pairwise_map]
    rw [List.pairwise_iff_getElem]
    intro a b ha hb hab
    simp only [List.length_range] at ha hb
    simp only [List.getElem_range]
    have hv : ∀ n : Int, Val size (digs size m n) := fun n a ha => by have := digs_mem size (by omega) m n a ha; omega
    have hc : ∀ n : Nat, n < k → codeL size (digs size m (n : Int)) = n := fun n hn => by rw [digs_code hs]; exact Int.emod_eq_of_lt (by omega) (by omega)
    rcases cmp_tri (digs size m (a : Int)) (digs size m (b : Int)) (by simp) with h | h | h
    · have h1 := hc a ha
      rw [h, hc b hb] at h1
      omega
    · exact h
    · have := code_lt hs _ _ (by simp) (hv _) (hv _) h
      rw [hc a ha, hc b hb] at this
      omega
  have hf : List.Pairwise (fun a b => cmpL a b < 0) (selT q size m k) := hp.filter q
  intro a b hab hb
  rw [List.pairwise_iff_getElem] at hf
  have := hf a b (by omega) hb hab
  rw [List.getD, List.getElem?_eq_getElem (show a < _ by omega), List.getD, List.getElem?_eq_getElem hb]
  exact this
theorem selT_mem2 {q : List Int → Bool} {size : Int} (hs : 1 ≤ size) {m k : Nat} {y : List Int} (h : y ∈ selT q size m k) : y.length = m ∧ ∀ a, a ∈ y → 0 ≤ a ∧ a < size := by
  unfold selT at h
  obtain ⟨n, _, rfl⟩ := List.mem_map.1 (List.mem_filter.1 h).1
  exact ⟨by simp, digs_mem size (by omega) m _⟩
theorem selT_rel {q : List Int → Bool} {size : Int} (hs : 1 ≤ size ∧ size ≤ 4) : relOk size (2, selT q size 2 (sqN size)) = true := by
  have hi := selT_inc q hs.1 (m := 2) (k := sqN size) (by rw [(sqN_le hs).2.2.1]; omega)
  have h1 : inB size 1 4 = true := inB_mk hs
  have h2 : inB 2 1 4 = true := by decide
  unfold relOk
  simp only [h1, h2, Bool.true_and]
  refine tupsOk_of (fun j hj => ?_)
  have hm := selT_mem2 hs.1 (getD_mem [] hj)
  unfold tupAt valsOk
  simp only [Bool.and_eq_true, Bool.or_eq_true, decide_eq_true_eq, List.all_eq_true]
  refine ⟨⟨by rw [hm.1]; rfl, fun a ha => ?_⟩, ?_⟩
  · have := hm.2 a ha
    exact inB_mk (by omega)
  · by_cases h0 : j = 0
    · exact .inl h0
    · exact .inr (hi (j - 1) j (by omega) hj)
theorem PairOk.pairs {size : Int} {V : Nat} {P : List RelT} (h : PairOk size V P) (hs : 1 ≤ size ∧ size ≤ 4) (hV : V ≤ 10) : PairsOk size V P :=
  ⟨hV, by rw [h.len, tri_half], fun r hr => by
    obtain ⟨q, rfl⟩ := h.sel r hr
    exact ⟨selT_rel hs, rfl⟩⟩
theorem fst_ok {t : Tmpl} {x : Inst} : ∀ V, PairOk t.1 V (fstP t x V) := fun V => ⟨by simp, fun r hr => by
  induction V with
  | zero => cases hr
  | succ j ih =>
    rcases List.mem_append.1 hr with h | h
    · exact ih h
    · obtain ⟨i, _, rfl⟩ := List.mem_map.1 h
      exact ⟨_, rfl⟩⟩
def lensP (P : List RelT) : Nat := (P.map (fun r => r.2.length)).sum
abbrev PairS := List RelT × List (Int × Int × Int)
structure PotP (size : Int) (V C : Nat) (s : PairS) : Prop where
  ok : PairOk size V s.1
  pot : s.2.length + lensP s.1 ≤ C
  val : ∀ e, e ∈ s.2 → (0 ≤ e.1 ∧ e.1 < V) ∧ (0 ≤ e.2.1 ∧ e.2.1 < V) ∧ 0 ≤ e.2.2 ∧ e.2.2 < V
end Go.Proofs.YtllenfkbfeanmaaGreat

/-
  PLAIN: the memory of a run that takes pairs away: the relations in place, the steps in a row of their own, boxes.
-/
namespace Go.Proofs.YtllenfkbfeanmaaGreat
open Go.RowKit
open Rep (Rd Own sz)
set_option linter.unusedSimpArgs false
set_option linter.unusedVariables false

/-- The first world's memory is read; the relations and the steps are the run's. -/
structure PairW (w0 : World) (B0 : Nat) (vp : Value) (eS : TypeId) (bx : List (Nat × Array Value × TypeId)) (wl : World) (gs co : Nat) (s : PairS) : Prop where
  st : St w0 wl.heap.size wl bx
  b0 : B0 ≤ wl.heap.size
  lo : w0.heap.size ≤ B0
  dom : Ip (fun z => (w0.heap.size ≤ z ∧ z ≠ gs) ∧ ∀ x, x ∈ bx → x.1 ≠ z) wl [vp] s.1
  row : wl.ownsRow 0 eS 3 (.slice (some ⟨gs, 0, none⟩) s.2.length co) s.2.length (flat3 s.2)
  gs : (B0 ≤ gs ∧ gs < wl.heap.size) ∧ ∀ x, x ∈ bx → x.1 ≠ gs
/-- The block that a slice lies in is one of its own. -/
theorem ip_own {α : Type} [Rep α] {A : Nat → Prop} {w : World} {v : Value} {l : List α} (h : Ip A w [v] l) (hl : 0 < l.length) {z : Nat} (hz : v.ownBlock = some z) : A z := by
  obtain ⟨g, o, c, cur, e, rfl, _, _, _, hA, _⟩ := ip_form h hl
  simp only [Value.ownBlock, Option.some.injEq] at hz
  exact hz ▸ hA
section
variable {w0 : World} {B0 : Nat} {vp : Value} {eS : TypeId} {bx : List (Nat × Array Value × TypeId)} {wl : World} {gs co : Nat} {s : PairS}
theorem PairW.step (h : PairW w0 B0 vp eS bx wl gs co s) {w1 : World} (hb : Below wl.heap.size wl w1) : PairW w0 B0 vp eS bx w1 gs co s :=
  ⟨(h.st.step hb).up hb.size (Nat.le_refl _), Nat.le_trans h.b0 hb.size, h.lo, h.dom.mono hb, ownsRow_below h.row hb, ⟨⟨h.gs.1.1, Nat.lt_of_lt_of_le h.gs.1.2 hb.size⟩, h.gs.2⟩⟩
theorem PairW.rd (h : PairW w0 B0 vp eS bx wl gs co s) : Rd wl [vp] s.1 := h.dom.rd
theorem PairW.bel (h : PairW w0 B0 vp eS bx wl gs co s) : Below w0.heap.size w0 wl := h.st.bel
theorem PairW.box (h : PairW w0 B0 vp eS bx wl gs co s) (vs : Array Value) (ty : TypeId) : PairW w0 B0 vp eS (bx ++ [(wl.heap.size, vs, ty)]) (wl.alloc (.cells vs ty)) gs co s := by
  have hb := belowA wl (.cells vs ty)
  refine ⟨(h.st.alloc vs ty rfl).up (by simp) (Nat.le_refl _), by have := h.b0; simp; omega, h.lo, ?_, ownsRow_below h.row hb, ⟨⟨h.gs.1.1, by have := h.gs.1.2; simp; omega⟩, ?_⟩⟩
  · refine (h.dom.tight.mono hb).wk (fun z hz => ⟨hz.1.1, fun x hx => ?_⟩)
    rcases List.mem_append.1 hx with hx | hx
    · exact hz.1.2 x hx
    · rw [List.mem_singleton] at hx
      subst hx
      have := hz.2
      simp only
      omega
  · intro x hx
    rcases List.mem_append.1 hx with hx | hx
    · exact h.gs.2 x hx
    · rw [List.mem_singleton] at hx
      subst hx
      have := h.gs.1.2
      simp only
      omega
theorem PairW.sub (h : PairW w0 B0 vp eS bx wl gs co s) {bx' : List (Nat × Array Value × TypeId)} (hs : ∀ x, x ∈ bx' → x ∈ bx) : PairW w0 B0 vp eS bx' wl gs co s :=
  ⟨h.st.sub hs, h.b0, h.lo, h.dom.wk (fun z hz => ⟨hz.1, fun x hx => hz.2 x (hs x hx)⟩), h.row, ⟨h.gs.1, fun x hx => h.gs.2 x (hs x hx)⟩⟩
/-- A relation is written anew. -/
theorem PairW.cut (h : PairW w0 B0 vp eS bx wl gs co s) {w1 : World} {P : List RelT} (hl : 0 < s.1.length) (hb : ButP (fun z => vp.ownBlock = some z) wl w1)
    (hd : Ip (fun z => ((w0.heap.size ≤ z ∧ z ≠ gs) ∧ ∀ x, x ∈ bx → x.1 ≠ z) ∨ wl.heap.size ≤ z) w1 [vp] P) : PairW w0 B0 vp eS bx w1 gs co (P, s.2) := by
  have hg := fun z hz => ip_own h.dom hl (z := z) hz
  have hsz := hb.size
  have hbg := h.gs.1.2
  refine ⟨(h.st.butP hb (fun k hk => (hg k hk).1.1) (fun x hx hk => (hg _ hk).2 x hx rfl)).up hsz (Nat.le_refl _), Nat.le_trans h.b0 hsz, h.lo, ?_, ?_, ⟨⟨h.gs.1.1, by omega⟩, h.gs.2⟩⟩
  · refine hd.wk (fun z hz => ?_)
    rcases hz with hz | hz
    · exact hz
    · refine ⟨⟨by have := h.st.lo; omega, by omega⟩, fun x hx => ?_⟩
      have := (h.st.box x hx).2.1
      omega
  · exact row_frame h.row (fun k hk => hb.block k (by
      simp only [Value.ownBlock, Option.some.injEq] at hk
      omega) (fun hz => by
      simp only [Value.ownBlock, Option.some.injEq] at hk
      exact (hg k hz).1.2 hk.symm))
/-- A step is noted. -/
theorem PairW.snoc (h : PairW w0 B0 vp eS bx wl gs co s) {w1 : World} {g1 c1 : Nat} {a b c : Int} (hat : gs = g1 ∨ g1 = wl.heap.size) (hb : But [gs] wl w1) (hlt : g1 < w1.heap.size)
    (hrow : w1.ownsRow 0 eS 3 (.slice (some ⟨g1, 0, none⟩) (s.2.length + 1) c1) (s.2.length + 1) (flat3 s.2 ++ [.int .i64 a, .int .i64 b, .int .i64 c])) : PairW w0 B0 vp eS bx w1 g1 c1 (s.1, s.2 ++ [(a, b, c)]) := by
  have hsz := hb.size
  have hlo : w0.heap.size ≤ gs := Nat.le_trans h.lo h.gs.1.1
  refine ⟨(h.st.butIv hb (fun k hk => by simp at hk; omega) (fun x hx hp => by
    simp only [List.mem_singleton] at hp
    exact h.gs.2 x hx hp)).up hsz (Nat.le_refl _), Nat.le_trans h.b0 hsz, h.lo, ?_, ?_, ⟨⟨?_, hlt⟩, fun x hx => ?_⟩⟩
  · refine ((h.dom.tight).butP (hb.butP (A := fun z => z = gs) (fun k hk => by simpa using hk)) (fun z hz => hz.1.1.2)).wk (fun z hz => ⟨⟨hz.1.1.1, ?_⟩, hz.1.2⟩)
    rcases hat with h1 | h1
    · rw [← h1]; exact hz.1.1.2
    · have := hz.2; omega
  · rw [List.length_append, flat3_snoc]; exact hrow
  · rcases hat with h1 | h1
    · rw [← h1]; exact h.gs.1.1
    · rw [h1]; exact h.b0
  · rcases hat with h1 | h1
    · rw [← h1]; exact h.gs.2 x hx
    · have := (h.st.box x hx).2.1
      omega
end
/-- A slice that grows, boxes; nothing else of the first world is written. -/
structure GrowW {α : Type} [Rep α] (w0 : World) (bx : List (Nat × Array Value × TypeId)) (e : TypeId) (wl : World) (v : Value) (l : List α) : Prop where
  st : St w0 wl.heap.size wl bx
  acc : AccP (fun z => w0.heap.size ≤ z ∧ ∀ x, x ∈ bx → x.1 ≠ z) e wl v l
section
variable {α : Type} [Rep α] {w0 : World} {bx : List (Nat × Array Value × TypeId)} {e : TypeId} {wl : World} {v : Value} {l : List α}
theorem GrowW.step (h : GrowW w0 bx e wl v l) {w1 : World} (hb : Below wl.heap.size wl w1) : GrowW w0 bx e w1 v l :=
  ⟨(h.st.step hb).up hb.size (Nat.le_refl _), h.acc.mono hb⟩
theorem GrowW.box (h : GrowW w0 bx e wl v l) (vs : Array Value) (ty : TypeId) : GrowW w0 (bx ++ [(wl.heap.size, vs, ty)]) e (wl.alloc (.cells vs ty)) v l := by
  have hb := belowA wl (.cells vs ty)
  refine ⟨(h.st.alloc vs ty rfl).up (by simp) (Nat.le_refl _), ?_⟩
  refine (h.acc.tight.mono hb).wk (fun z hz => ⟨hz.1.1, fun x hx => ?_⟩)
  rcases List.mem_append.1 hx with hx | hx
  · exact hz.1.2 x hx
  · rw [List.mem_singleton] at hx
    subst hx
    have := hz.2
    simp only
    omega
theorem GrowW.sub (h : GrowW w0 bx e wl v l) {bx' : List (Nat × Array Value × TypeId)} (hs : ∀ x, x ∈ bx' → x ∈ bx) : GrowW w0 bx' e wl v l :=
  ⟨h.st.sub hs, h.acc.wk (fun z hz => ⟨hz.1, fun x hx => hz.2 x (hs x hx)⟩)⟩
theorem GrowW.snoc (h : GrowW w0 bx e wl v l) {A C : Nat → Prop} {w9 : World} {v' : Value} {l' : List α} (hA : AccP (fun k => A k ∨ C k ∨ k = wl.heap.size) e w9 v' l')
    (hB : ButP A wl w9) (hP : ∀ k, A k → w0.heap.size ≤ k ∧ ∀ x, x ∈ bx → x.1 ≠ k) (hC : ∀ k, C k → w0.heap.size ≤ k ∧ ∀ x, x ∈ bx → x.1 ≠ k) : GrowW w0 bx e w9 v' l' := by
  refine ⟨(h.st.butP hB (fun k hk => (hP k hk).1) (fun x hx hk => (hP _ hk).2 x hx rfl)).up hB.size (Nat.le_refl _), hA.wk (fun z hz => ?_)⟩
  rcases hz with hz | hz | hz
  · exact hP z hz
  · exact hC z hz
  · subst hz
    refine ⟨h.st.lo, fun x hx => ?_⟩
    have := (h.st.box x hx).2.1
    omega
theorem GrowW.fresh (h : GrowW w0 bx e wl v l) : Fresh w0.heap.size wl [v] l := h.acc.ip.fresh (fun z hz => hz.1)
theorem GrowW.bel (h : GrowW w0 bx e wl v l) : Below w0.heap.size w0 wl := h.st.bel
/-- Blocks that are newer than all boxes. -/
theorem GrowW.newer (h : GrowW w0 bx e wl v l) {k : Nat} (hk : wl.heap.size ≤ k) : w0.heap.size ≤ k ∧ ∀ x, x ∈ bx → x.1 ≠ k :=
  ⟨Nat.le_trans h.st.lo hk, fun x hx => by have := (h.st.box x hx).2.1; omega⟩
end
theorem ip_rel2 {A : Nat → Prop} {w : World} {v : Value} {k : Int} {T : List (List Int)} (hk : I64 k) (h : Ip A w [v] T) : Ip A w [.int .i64 k, v] ((k, T) : RelT) :=
  ip_cons (A := fun _ => False) (B := A) (C := A) ⟨[], ⟨rfl, rfl, hk⟩, by simp, by simp⟩ h (fun k hk => hk.elim) (fun k hk => hk.elim) (fun k hk => hk)

end Go.Proofs.YtllenfkbfeanmaaGreat

/-
  PLAIN: a slot of an owned slice is written anew with blocks of what stood there; a row that takes some of a list's elements, their memory shared.
-/
namespace Go.Proofs.YtllenfkbfeanmaaGreat
open Go.RowKit
open Rep (Rd Own sz)
set_option linter.unusedSimpArgs false
set_option linter.unusedVariables false

end Go.Proofs.YtllenfkbfeanmaaGreat

