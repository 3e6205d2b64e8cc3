import Derived.Test.YtoblfnoaepbhfaaGreatPairAQz
import Derived.Test.YtoblfnoaepbhfaaGreatRelOfQz
import Derived.Test.YtoblfnoaepbhfaaGreatPairsQz
import Derived.Test.YtoblfnoaepbhfaaGreatArcFBQz
set_option linter.unusedSimpArgs false
set_option linter.unusedVariables false
namespace Go.Proofs.YtoblfnoaepbhfaaGreat
open Go.RowKit Go.IntWalk
open Rep (Rd Own sz)
def abP (rs : List bH) (cs : List nI) (i j a b : Int) : Bool := cs.all (fun c => iJ (rs.getD c.1.toNat (0, [])).2 c.2 i j a b)
def Gm (rs : List bH) (cs : List nI) (i j : Int) (y : List Int) : Bool := abP rs cs i j (y.getD 0 0) (y.getD 1 0)
def CG (size : Int) : Nat := size.toNat * size.toNat
def abQ (t : dB) (x : Inst) (j i : Nat) : bH := (2, ji (Gm t.2 x.2 i j) t.1 2 (CG t.1))
def jy (t : dB) (x : Inst) (j i : Nat) : List bH := (List.range i).map (abQ t x j)
def ng (t : dB) (x : Inst) : Nat → List bH
 | 0 => []
 | j + 1 => ng t x j ++ jy t x j j
def tri : Nat → Nat
 | 0 => 0
 | j + 1 => tri j + j
theorem FN (t : dB) (x : Inst) (j i : Nat) : jy t x j (i + 1) = jy t x j i ++ [abQ t x j i] := by
 unfold jy
 rw [List.range_succ, List.map_append]
 rfl
@[simp] theorem ajf (t : dB) (x : Inst) (j i : Nat) : (jy t x j i).length = i := by simp [jy]
@[simp] theorem abR (t : dB) (x : Inst) : ∀ j, (ng t x j).length = tri j
 | 0 => rfl
 | j + 1 => by simp [ng, tri, abR t x j]
theorem abS {i j : Nat} (h : i ≤ j) : tri i ≤ tri j := by
 induction j with
 | zero =>
  obtain rfl : i = 0 := by omega
  exact Nat.le_refl _
 | succ j ih =>
  rcases Nat.lt_or_ge i (j + 1) with h1 | h1
  · have := ih (by omega)
    simp only [tri]
    omega
  obtain rfl : i = j + 1 := by omega
  exact Nat.le_refl _
theorem abT {i j V : Nat} (h : i < j) (hj : j < V) : tri j + i < tri V := by
 have := abS (show j + 1 ≤ V from hj)
 simp only [tri] at this
 omega
theorem G8 {V : Nat} (h : V ≤ 10) : tri V ≤ 45 := by
 have := abS h
 have h2 : tri 10 = 45 := by decide
 omega
theorem XO : ∀ j : Nat, j * (j - 1) = 2 * tri j
 | 0 => rfl
 | 1 => rfl
 | j + 2 => by
  have := XO (j + 1)
  simp only [tri, Nat.add_sub_cancel] at this ⊢
  have e : (j + 2) * (j + 2 - 1) = (j + 1) * j + 2 * (j + 1) := by
   rw [show j + 2 - 1 = j + 1 by omega, Nat.mul_comm (j + 1) j, ← Nat.add_mul, Nat.mul_comm]
  omega
theorem RY (j : Nat) : j * (j - 1) / 2 = tri j := by rw [XO]; omega
theorem abU (i j : Nat) : jk i j = tri j + i := by unfold jk; rw [RY]
theorem uV {i j V : Nat} (h : i < j) (hj : j < V) : jk i j < tri V := by rw [abU]; exact abT h hj
theorem JI {size : Int} (h : 1 ≤ size ∧ size ≤ 4) : 1 ≤ CG size ∧ CG size ≤ 16 ∧ size ^ 2 = (CG size : Int) ∧ size * size = (CG size : Int) := by
 obtain rfl | rfl | rfl | rfl : size = 1 ∨ size = 2 ∨ size = 3 ∨ size = 4 := by omega
 all_goals decide
theorem ae1 {size : Int} (h : 0 ≤ size) : (CG size : Int) = size * size := by
 unfold CG
 rw [Int.natCast_mul, Int.toNat_of_nonneg h]
theorem abV {size : Int} (hs : 1 ≤ size) {n : Nat} (h : n < CG size) : eu size 2 (n : Int) = [(n : Int) / size, (n : Int) % size] := by
 have e := ae1 (show 0 ≤ size by omega)
 have h2 : (n : Int) / size < size := Int.ediv_lt_of_lt_mul (by omega) (by omega)
 have h3 : 0 ≤ (n : Int) / size := Int.ediv_nonneg (by omega) (by omega)
 simp only [eu, List.nil_append, List.cons_append, List.singleton_append]
 rw [Int.emod_eq_of_lt h3 h2]
def iP (size : Int) (P : List bH) (i j k : Nat) (y : List Int) : Bool := (List.range size.toNat).any (fun (c : Nat) => iU P i k (y.getD 0 0) (c : Int) && iU P k j (c : Int) (y.getD 1 0))
def zy (P : List bH) (i j : Nat) : List (List Int) := (P.getD (jk i j) (0, [])).2
def qX (size : Int) (P : List bH) (i j k : Nat) : List (List Int) := (zy P i j).filter (iP size P i j k)
def uX (size : Int) (P : List bH) (i j k : Nat) : Bool := decide ((qX size P i j k).length < (zy P i j).length)
def oC (size : Int) (P : List bH) (i j k : Nat) : List bH := P.set (jk i j) (2, qX size P i j k)
structure nU (size : Int) (V : Nat) (P : List bH) : Prop where
 len : P.length = tri V
 sel : ∀ r, r ∈ P → ∃ q, r = (2, ji q size 2 (CG size))
theorem getD_mem {α : Type} {l : List α} {n : Nat} (d : α) (h : n < l.length) : l.getD n d ∈ l := by
 rw [List.getD, List.getElem?_eq_getElem h]
 exact List.getElem_mem h
theorem nU.own {size : Int} {V i j : Nat} {P : List bH} (h : nU size V P) (hij : i < j) (hj : j < V) : ∃ q, P.getD (jk i j) (0, []) = (2, ji q size 2 (CG size)) :=
 h.sel _ (getD_mem _ (by rw [h.len]; exact uV hij hj))
theorem abW (q : List Int → Bool) (size : Int) (m k : Nat) (RZ : List Int → Bool) : ji (fun y => jH (ji q size m k) y && RZ y) size m k = (ji q size m k).filter RZ := by
 conv => rhs; unfold ji
 unfold ji
 rw [List.filter_filter]
 refine List.filter_congr (fun y hy => ?_)
 have : jH (((List.range k).map (fun (i : Nat) => eu size m (i : Int))).filter q) y = q y := by
  unfold jH
  rw [Bool.eq_iff_iff, List.contains_iff_mem, List.mem_filter]
  exact ⟨fun h => h.2, fun h => ⟨hy, h⟩⟩
 rw [this, Bool.and_comm]
theorem Si (q : List Int → Bool) (size : Int) (m k : Nat) (RZ : List Int → Bool) : (ji q size m k).filter RZ = ji (fun y => RZ y && q y) size m k := by
 unfold ji
 rw [List.filter_filter]
theorem Np {size : Int} (hs : 1 ≤ size) : ∀ (m : Nat) (n : Int), dD size (eu size m n) = n % size ^ m
 | 0, n => by simp [eu, dD]
 | m + 1, n => by
  rw [eu, IU, Np hs m, Int.pow_succ, Int.mul_comm (size ^ m) size]
  have h1 := Int.emod_add_mul_ediv n (size * size ^ m)
  have h2 := Int.emod_add_mul_ediv n size
  have h3 := Int.emod_add_mul_ediv (n / size) (size ^ m)
  have h4 : n / (size * size ^ m) = n / size / size ^ m := (Int.ediv_ediv_of_nonneg (by omega)).symm
  have e1 : size * (n / size) = size * (n / size % size ^ m) + size * size ^ m * (n / size / size ^ m) := by
   conv => lhs; rw [← h3]
   rw [Int.mul_add, Int.mul_assoc]
  have e2 : n / size % size ^ m * size = size * (n / size % size ^ m) := Int.mul_comm _ _
  rw [h4] at h1
  omega
theorem abX (q : List Int → Bool) {size : Int} (hs : 1 ≤ size) {m k : Nat} (hk : (k : Int) ≤ size ^ m) : Inc (ji q size m k) := by
 have hp : List.Pairwise (fun a b => cmpL a b < 0) ((List.range k).map (fun (i : Nat) => eu size m (i : Int))) := by
  rw [List.pairwise_map]
  rw [List.pairwise_iff_getElem]
  intro a b ha hb hab
  simp only [List.length_range] at ha hb
  simp only [List.getElem_range]
  have hv : ∀ n : Int, Val size (eu size m n) := fun n a ha => by have := kK size (by omega) m n a ha; omega
  have hc : ∀ n : Nat, n < k → dD size (eu size m (n : Int)) = n := fun n hn => by rw [Np hs]; exact Int.emod_eq_of_lt (by omega) (by omega)
  rcases Ot (eu size m (a : Int)) (eu size m (b : Int)) (by simp) with h | h | h
  · have h1 := hc a ha
    rw [h, hc b hb] at h1
    omega
  · exact h
  have := yL hs _ _ (by simp) (hv _) (hv _) h
  rw [hc a ha, hc b hb] at this
  omega
 have hf : List.Pairwise (fun a b => cmpL a b < 0) (ji q size m k) := hp.filter q
 intro a b hab hb
 rw [List.pairwise_iff_getElem] at hf
 have := hf a b (by omega) hb hab
 rw [List.getD, List.getElem?_eq_getElem (show a < _ by omega), List.getD, List.getElem?_eq_getElem hb]
 exact this
theorem Nq {q : List Int → Bool} {size : Int} (hs : 1 ≤ size) {m k : Nat} {y : List Int} (h : y ∈ ji q size m k) : y.length = m ∧ ∀ a, a ∈ y → 0 ≤ a ∧ a < size := by
 unfold ji at h
 obtain ⟨n, _, rfl⟩ := List.mem_map.1 (List.mem_filter.1 h).1
 exact ⟨by simp, kK size (by omega) m _⟩
theorem abY {q : List Int → Bool} {size : Int} (hs : 1 ≤ size ∧ size ≤ 4) : fJ size (2, ji q size 2 (CG size)) = true := by
 have hi := abX q hs.1 (m := 2) (k := CG size) (by rw [(JI hs).2.2.1]; omega)
 have h1 : inB size 1 4 = true := Ec hs
 have h2 : inB 2 1 4 = true := by decide
 unfold fJ
 simp only [h1, h2, Bool.true_and]
 refine Ew (fun j hj => ?_)
 have hm := Nq hs.1 (getD_mem [] hj)
 unfold nX bG
 simp only [Bool.and_eq_true, Bool.or_eq_true, decide_eq_true_eq, List.all_eq_true]
 refine ⟨⟨by rw [hm.1]; rfl, fun a ha => ?_⟩, ?_⟩
 · have := hm.2 a ha
   exact Ec (by omega)
 by_cases h0 : j = 0
 · exact .inl h0
 exact .inr (hi (j - 1) j (by omega) hj)
theorem nU.pairs {size : Int} {V : Nat} {P : List bH} (h : nU size V P) (hs : 1 ≤ size ∧ size ≤ 4) (hV : V ≤ 10) : yU size V P :=
 ⟨hV, by rw [h.len, RY], fun r hr => by
  obtain ⟨q, rfl⟩ := h.sel r hr
  exact ⟨abY hs, rfl⟩⟩
theorem Sj {size : Int} {V i j : Nat} {P : List bH} (h : nU size V P) (hij : i < j) (hj : j < V) : ∃ q, zy P i j = ji q size 2 (CG size) := by
 obtain ⟨q, hq⟩ := h.own hij hj
 exact ⟨q, by unfold zy; rw [hq]⟩
theorem abZ {size : Int} {V i j k : Nat} {P : List bH} (h : nU size V P) (hij : i < j) (hj : j < V) : ji (fun y => jH (zy P i j) y && iP size P i j k y) size 2 (CG size) = qX size P i j k := by
 obtain ⟨q, hq⟩ := Sj h hij hj
 unfold qX
 rw [hq, abW]
theorem Nr {size : Int} {V i j k : Nat} {P : List bH} (h : nU size V P) (hij : i < j) (hj : j < V) : nU size V (oC size P i j k) := by
 obtain ⟨q, hq⟩ := Sj h hij hj
 refine ⟨by simp [oC, h.len], fun r hr => ?_⟩
 rcases List.mem_or_eq_of_mem_set hr with h1 | rfl
 · exact h.sel r h1
 exact ⟨_, by unfold qX; rw [hq, Si]⟩
theorem DK {α : Type} {l : List α} {f : α → Bool} (h : ¬ (l.filter f).length < l.length) : l.filter f = l := by
 refine List.filter_eq_self.2 ?_
 have h1 := List.length_filter_le f l
 have h2 : (l.filter f).length = l.length := by omega
 exact List.length_filter_eq_length_iff.1 h2
theorem Sl {size : Int} {V i j k : Nat} {P : List bH} (h : nU size V P) (hij : i < j) (hj : j < V) (hg : uX size P i j k = false) : oC size P i j k = P := by
 obtain ⟨q, hq⟩ := h.own hij hj
 have hc : qX size P i j k = zy P i j := DK (of_decide_eq_false hg)
 unfold oC
 rw [hc]
 unfold zy
 have hl : jk i j < P.length := by rw [h.len]; exact uV hij hj
 rw [hq]
 rw [List.getD, List.getElem?_eq_getElem hl] at hq
 simp only [Option.getD_some] at hq
 rw [← hq]
 exact List.set_getElem_self hl
theorem ab1 {t : dB} {x : Inst} : ∀ V, nU t.1 V (ng t x V) := fun V => ⟨by simp, fun r hr => by
 induction V with
 | zero => cases hr
 | succ j ih =>
  rcases List.mem_append.1 hr with h | h
  · exact ih h
  · obtain ⟨i, _, rfl⟩ := List.mem_map.1 h
    exact ⟨_, rfl⟩⟩
def ana (P : List bH) : Nat := (P.map (fun r => r.2.length)).sum
abbrev ab2 := List bH × List (Int × Int × Int)
structure ayL (size : Int) (V C : Nat) (s : ab2) : Prop where
 ok : nU size V s.1
 pot : s.2.length + ana s.1 ≤ C
 val : ∀ e, e ∈ s.2 → (0 ≤ e.1 ∧ e.1 < V) ∧ (0 ≤ e.2.1 ∧ e.2.1 < V) ∧ 0 ≤ e.2.2 ∧ e.2.2 < V
def fZ (V : Int) (s : Int × Int × Int) : Bool := inB s.1 0 (IntKind.i64.wrap (s.2.1 - 1)) && inB s.2.1 0 (V - 1) && inB s.2.2 0 (V - 1) && decide (s.2.2 ≠ s.1) && decide (s.2.2 ≠ s.2.1)
def rD (size V : Int) (P : List bH) (s : Int × Int × Int) : Bool := fZ V s && uX size P s.1.toNat s.2.1.toNat s.2.2.toNat
def kX (size V : Int) : List (Int × Int × Int) → Nat → List bH → List bH × Int × Int
 | [], _, P => (P, 0, 0)
 | s :: l, i, P => if rD size V P s then kX size V l (i + 1) (oC size P s.1.toNat s.2.1.toNat s.2.2.toNat) else ([], (i : Int), 8)
def dJ (t : dB) (x : Inst) (steps : List (Int × Int × Int)) : List bH × Int × Int := if cu t x then kX t.1 x.1 steps 0 (ng t x x.1.toNat) else ([], 0, 1)
theorem DL {size V : Int} {steps : List (Int × Int × Int)} {k : Nat} (hk : k < steps.length) (i : Nat) (P : List bH) :
 kX size V (steps.drop k) i P = if rD size V P steps[k] then kX size V (steps.drop (k + 1)) (i + 1) (oC size P steps[k].1.toNat steps[k].2.1.toNat steps[k].2.2.toNat) else ([], (i : Int), 8) := by
 rw [List.drop_eq_getElem_cons hk, kX]
theorem DN {V : Int} {a b c : Int} (h : fZ V (a, b, c) = true) (hV : 0 ≤ V ∧ V ≤ 10) : 0 ≤ a ∧ a < b ∧ b < V ∧ 0 ≤ c ∧ c < V ∧ c ≠ a ∧ c ≠ b := by
 simp only [fZ, Bool.and_eq_true, decide_eq_true_eq] at h
 obtain ⟨⟨⟨⟨h1, h2⟩, h3⟩, h4⟩, h5⟩ := h
 have h2 := bQ h2
 have h3 := bQ h3
 rw [show IntKind.i64.wrap (b - 1) = b - 1 from i64_in _ (by omega)] at h1
 have h1 := bQ h1
 omega
structure pX (w0 : World) (B0 : Nat) (vp : Value) (eS : TypeId) (bx : List (Nat × Array Value × TypeId)) (wl : World) (gs co : Nat) (s : ab2) : Prop where
 st : St w0 wl.heap.size wl bx
 b0 : B0 ≤ wl.heap.size
 lo : w0.heap.size ≤ B0
 dom : Ip (fun z => (w0.heap.size ≤ z ∧ z ≠ gs) ∧ ∀ x, x ∈ bx → x.1 ≠ z) wl [vp] s.1
 row : wl.ownsRow 0 eS 3 (.slice (some ⟨gs, 0, none⟩) s.2.length co) s.2.length (flat3 s.2)
 gs : (B0 ≤ gs ∧ gs < wl.heap.size) ∧ ∀ x, x ∈ bx → x.1 ≠ gs
theorem ab3 {α : Type} [Rep α] {A : Nat → Prop} {w : World} {v : Value} {l : List α} (h : Ip A w [v] l) (hl : 0 < l.length) {z : Nat} (hz : v.ownBlock = some z) : A z := by
 obtain ⟨g, o, c, cur, e, rfl, _, _, _, hA, _⟩ := vP h hl
 simp only [Value.ownBlock, Option.some.injEq] at hz
 exact hz ▸ hA
section
variable {w0 : World} {B0 : Nat} {vp : Value} {eS : TypeId} {bx : List (Nat × Array Value × TypeId)} {wl : World} {gs co : Nat} {s : ab2}
theorem pX.step (h : pX w0 B0 vp eS bx wl gs co s) {w1 : World} (hb : Below wl.heap.size wl w1) : pX w0 B0 vp eS bx w1 gs co s :=
 ⟨(h.st.step hb).up hb.size (Nat.le_refl _), Nat.le_trans h.b0 hb.size, h.lo, h.dom.mono hb, ownsRow_below h.row hb, ⟨⟨h.gs.1.1, Nat.lt_of_lt_of_le h.gs.1.2 hb.size⟩, h.gs.2⟩⟩
theorem pX.rd (h : pX w0 B0 vp eS bx wl gs co s) : Rd wl [vp] s.1 := h.dom.rd
theorem pX.bel (h : pX w0 B0 vp eS bx wl gs co s) : Below w0.heap.size w0 wl := h.st.bel
theorem pX.box (h : pX w0 B0 vp eS bx wl gs co s) (vs : Array Value) (ty : TypeId) : pX w0 B0 vp eS (bx ++ [(wl.heap.size, vs, ty)]) (wl.alloc (.cells vs ty)) gs co s := by
 have hb := aB wl (.cells vs ty)
 refine ⟨(h.st.alloc vs ty rfl).up (by simp) (Nat.le_refl _), by have := h.b0; simp; omega, h.lo, ?_, ownsRow_below h.row hb, ⟨⟨h.gs.1.1, by have := h.gs.1.2; simp; omega⟩, ?_⟩⟩
 · refine (h.dom.tight.mono hb).wk (fun z hz => ⟨hz.1.1, fun x hx => ?_⟩)
   rcases List.mem_append.1 hx with hx | hx
   · exact hz.1.2 x hx
   rw [List.mem_singleton] at hx
   subst hx
   have := hz.2
   simp only
   omega
 intro x hx
 rcases List.mem_append.1 hx with hx | hx
 · exact h.gs.2 x hx
 rw [List.mem_singleton] at hx
 subst hx
 have := h.gs.1.2
 simp only
 omega
theorem pX.sub (h : pX w0 B0 vp eS bx wl gs co s) {bx' : List (Nat × Array Value × TypeId)} (hs : ∀ x, x ∈ bx' → x ∈ bx) : pX w0 B0 vp eS bx' wl gs co s :=
 ⟨h.st.sub hs, h.b0, h.lo, h.dom.wk (fun z hz => ⟨hz.1, fun x hx => hz.2 x (hs x hx)⟩), h.row, ⟨h.gs.1, fun x hx => h.gs.2 x (hs x hx)⟩⟩
theorem pX.cut (h : pX w0 B0 vp eS bx wl gs co s) {w1 : World} {P : List bH} (hl : 0 < s.1.length) (hb : nN (fun z => vp.ownBlock = some z) wl w1)
 (hd : Ip (fun z => ((w0.heap.size ≤ z ∧ z ≠ gs) ∧ ∀ x, x ∈ bx → x.1 ≠ z) ∨ wl.heap.size ≤ z) w1 [vp] P) : pX w0 B0 vp eS bx w1 gs co (P, s.2) := by
 have hg := fun z hz => ab3 h.dom hl (z := z) hz
 have hsz := hb.size
 have hbg := h.gs.1.2
 refine ⟨(h.st.lU hb (fun k hk => (hg k hk).1.1) (fun x hx hk => (hg _ hk).2 x hx rfl)).up hsz (Nat.le_refl _), Nat.le_trans h.b0 hsz, h.lo, ?_, ?_, ⟨⟨h.gs.1.1, by omega⟩, h.gs.2⟩⟩
 · refine hd.wk (fun z hz => ?_)
   rcases hz with hz | hz
   · exact hz
   refine ⟨⟨by have := h.st.lo; omega, by omega⟩, fun x hx => ?_⟩
   have := (h.st.box x hx).2.1
   omega
 exact lK h.row (fun k hk => hb.block k (by
  simp only [Value.ownBlock, Option.some.injEq] at hk
  omega) (fun hz => by
  simp only [Value.ownBlock, Option.some.injEq] at hk
  exact (hg k hz).1.2 hk.symm))
theorem pX.snoc (h : pX w0 B0 vp eS bx wl gs co s) {w1 : World} {g1 c1 : Nat} {a b c : Int} (hat : gs = g1 ∨ g1 = wl.heap.size) (hb : But [gs] wl w1) (hlt : g1 < w1.heap.size)
 (hrow : w1.ownsRow 0 eS 3 (.slice (some ⟨g1, 0, none⟩) (s.2.length + 1) c1) (s.2.length + 1) (flat3 s.2 ++ [.int .i64 a, .int .i64 b, .int .i64 c])) : pX w0 B0 vp eS bx w1 g1 c1 (s.1, s.2 ++ [(a, b, c)]) := by
 have hsz := hb.size
 have hlo : w0.heap.size ≤ gs := Nat.le_trans h.lo h.gs.1.1
 refine ⟨(h.st.sK hb (fun k hk => by simp at hk; omega) (fun x hx hp => by
  simp only [List.mem_singleton] at hp
  exact h.gs.2 x hx hp)).up hsz (Nat.le_refl _), Nat.le_trans h.b0 hsz, h.lo, ?_, ?_, ⟨⟨?_, hlt⟩, fun x hx => ?_⟩⟩
 · refine ((h.dom.tight).lU (hb.lU (A := fun z => z = gs) (fun k hk => by simpa using hk)) (fun z hz => hz.1.1.2)).wk (fun z hz => ⟨⟨hz.1.1.1, ?_⟩, hz.1.2⟩)
   rcases hat with h1 | h1
   · rw [← h1]; exact hz.1.1.2
   have := hz.2; omega
 · rw [List.length_append, JD]; exact hrow
 · rcases hat with h1 | h1
   · rw [← h1]; exact h.gs.1.1
   rw [h1]; exact h.b0
 rcases hat with h1 | h1
 · rw [← h1]; exact h.gs.2 x hx
 have := (h.st.box x hx).2.1
 omega
end
theorem ajg {A : Nat → Prop} {B : Nat → Prop} {w : World} {g o n c : Nat} {P : List bH} (h : Ip A w [.slice (some ⟨g, o, none⟩) n c] P) (j : Nat) (hj : j < P.length) {v0 v1 : Value} {y : bH} (hy : Ip B w [v0, v1] y) (hAB : ∀ k, A k → ¬ B k) :
 Ip (fun k => A k ∨ B k) ((w.setCell ⟨g, o + j * 2, none⟩ v0).setCell ⟨g, o + j * 2 + 1, none⟩ v1) [.slice (some ⟨g, o, none⟩) n c] (P.set j y) := by
 have h3 := NZ h j hj hy hAB
 have e : putCells w g (o + j * sz bH) [v0, v1] = (w.setCell ⟨g, o + j * 2, none⟩ v0).setCell ⟨g, o + j * 2 + 1, none⟩ v1 := by simp [putCells, sz]
 rwa [e] at h3
theorem Sm (w : World) (g a b : Nat) (v0 v1 : Value) {vp : Value} (hv : vp.ownBlock = some g) : nN (fun z => vp.ownBlock = some z) w ((w.setCell ⟨g, a, none⟩ v0).setCell ⟨g, b, none⟩ v1) :=
 ⟨rfl, rfl, rfl, by simp [World.setCell], fun k hk hn => by
  have hne : k ≠ g := fun e => hn (by rw [e]; exact hv)
  rw [Below.heap_setCell _ _ _ _ (by simpa using hne), Below.heap_setCell _ _ _ _ (by simpa using hne)]⟩
structure lD {α : Type} [Rep α] (w0 : World) (bx : List (Nat × Array Value × TypeId)) (e : TypeId) (wl : World) (v : Value) (l : List α) : Prop where
 st : St w0 wl.heap.size wl bx
 acc : bM (fun z => w0.heap.size ≤ z ∧ ∀ x, x ∈ bx → x.1 ≠ z) e wl v l
section
variable {α : Type} [Rep α] {w0 : World} {bx : List (Nat × Array Value × TypeId)} {e : TypeId} {wl : World} {v : Value} {l : List α}
theorem lD.step (h : lD w0 bx e wl v l) {w1 : World} (hb : Below wl.heap.size wl w1) : lD w0 bx e w1 v l :=
 ⟨(h.st.step hb).up hb.size (Nat.le_refl _), h.acc.mono hb⟩
theorem lD.box (h : lD w0 bx e wl v l) (vs : Array Value) (ty : TypeId) : lD w0 (bx ++ [(wl.heap.size, vs, ty)]) e (wl.alloc (.cells vs ty)) v l := by
 have hb := aB wl (.cells vs ty)
 refine ⟨(h.st.alloc vs ty rfl).up (by simp) (Nat.le_refl _), ?_⟩
 refine (h.acc.tight.mono hb).wk (fun z hz => ⟨hz.1.1, fun x hx => ?_⟩)
 rcases List.mem_append.1 hx with hx | hx
 · exact hz.1.2 x hx
 rw [List.mem_singleton] at hx
 subst hx
 have := hz.2
 simp only
 omega
theorem lD.sub (h : lD w0 bx e wl v l) {bx' : List (Nat × Array Value × TypeId)} (hs : ∀ x, x ∈ bx' → x ∈ bx) : lD w0 bx' e wl v l :=
 ⟨h.st.sub hs, h.acc.wk (fun z hz => ⟨hz.1, fun x hx => hz.2 x (hs x hx)⟩)⟩
theorem lD.snoc (h : lD w0 bx e wl v l) {A C : Nat → Prop} {w9 : World} {v' : Value} {l' : List α} (hA : bM (fun k => A k ∨ C k ∨ k = wl.heap.size) e w9 v' l')
 (hB : nN A wl w9) (hP : ∀ k, A k → w0.heap.size ≤ k ∧ ∀ x, x ∈ bx → x.1 ≠ k) (hC : ∀ k, C k → w0.heap.size ≤ k ∧ ∀ x, x ∈ bx → x.1 ≠ k) : lD w0 bx e w9 v' l' := by
 refine ⟨(h.st.lU hB (fun k hk => (hP k hk).1) (fun x hx hk => (hP _ hk).2 x hx rfl)).up hB.size (Nat.le_refl _), hA.wk (fun z hz => ?_)⟩
 rcases hz with hz | hz | hz
 · exact hP z hz
 · exact hC z hz
 subst hz
 refine ⟨h.st.lo, fun x hx => ?_⟩
 have := (h.st.box x hx).2.1
 omega
theorem lD.fresh (h : lD w0 bx e wl v l) : aQ w0.heap.size wl [v] l := h.acc.ip.fresh (fun z hz => hz.1)
theorem lD.bel (h : lD w0 bx e wl v l) : Below w0.heap.size w0 wl := h.st.bel
theorem lD.newer (h : lD w0 bx e wl v l) {k : Nat} (hk : wl.heap.size ≤ k) : w0.heap.size ≤ k ∧ ∀ x, x ∈ bx → x.1 ≠ k :=
 ⟨Nat.le_trans h.st.lo hk, fun x hx => by have := (h.st.box x hx).2.1; omega⟩
end
theorem Pq {A : Nat → Prop} {w : World} {v : Value} {k : Int} {T : List (List Int)} (hk : I64 k) (h : Ip A w [v] T) : Ip A w [.int .i64 k, v] ((k, T) : bH) :=
 vO (A := fun _ => False) (B := A) (C := A) ⟨[], ⟨rfl, rfl, hk⟩, by simp, by simp⟩ h (fun k hk => hk.elim) (fun k hk => hk.elim) (fun k hk => hk)
theorem YO {α : Type} [Rep α] {A : Nat → Prop} {w : World} {g o n c : Nat} {l : List α} (h : Ip A w [.slice (some ⟨g, o, none⟩) n c] l) (j : Nat) (hj : j < l.length) :
 ∃ (p : List Nat) (us : List Value), Own p w us l[j] ∧ p.Nodup ∧ (∀ k, k ∈ p → A k) ∧ (∀ k, k < sz α → w.cell? ⟨g, o + j * sz α + k, none⟩ = us[k]?) ∧
  ∀ (w1 : World) (p' : List Nat) (vs : List Value) (y : α), Below w.heap.size w w1 → Own p' w1 vs y → p'.Nodup → (∀ k, k ∈ p' → k ∈ p ∨ w.heap.size ≤ k) →
   Ip (fun k => A k ∨ w.heap.size ≤ k) (putCells w1 g (o + j * sz α) vs) [.slice (some ⟨g, o, none⟩) n c] (l.set j y) := by
 obtain ⟨ps, hown, hn, hb⟩ := h
 have hlt := fun k hk => Rep.jK hown k hk
 obtain ⟨v', e', ho⟩ := hown
 obtain rfl : Value.slice (some ⟨g, o, none⟩) n c = v' := by simpa using e'
 rcases ho with ⟨rfl, _⟩ | ⟨g', o', c', cur, e, cZ, hv, h1, h2, h3, rfl, h5, h6⟩
 · exact absurd hj (Nat.not_lt_zero _)
 simp only [Value.slice.injEq, Option.some.injEq, Addr.mk.injEq, and_true] at hv
 obtain ⟨⟨rfl, rfl⟩, rfl, rfl⟩ := hv
 have hjp : j < cZ.length := by omega
 obtain ⟨p, us, hp, hO, hc⟩ := h6 j hj
 have hpj : cZ[j] = p := by rw [List.getElem?_eq_getElem hjp] at hp; simpa using hp
 have hwhole : cZ = cZ.take j ++ p :: cZ.drop (j + 1) := by
  conv => lhs; rw [← List.take_append_drop j cZ, List.drop_eq_getElem_cons hjp, hpj]
 have hmem : ∀ k, k ∈ List.flatten (cZ.take j) ∨ k ∈ p ∨ k ∈ List.flatten (cZ.drop (j + 1)) → k ∈ g :: List.flatten cZ := fun k hk => by
  refine List.mem_cons_of_mem _ ?_
  rw [hwhole, List.flatten_append, List.flatten_cons]
  rcases hk with hk | hk | hk <;> simp [hk]
 have hn2 := hn
 rw [hwhole, List.flatten_append, List.flatten_cons] at hn2
 simp only [List.nodup_cons, List.nodup_append, List.mem_append, not_or] at hn2
 obtain ⟨⟨n1, n2, n3⟩, n4, ⟨n5, n6, n7⟩, n8⟩ := hn2
 have Zc := Rep.dI (Rep.bP hO)
 refine ⟨p, us, hO, n5, fun k hk => hb k (hmem k (.inr (.inl hk))), fun k hk => by rw [aA h3]; exact hc k (by omega), ?_⟩
 intro w1 p' vs y hbl Y7 hn' hb'
 have hvl := Rep.dI (Rep.bP Y7)
 have hsplit : cZ.set j p' = cZ.take j ++ p' :: cZ.drop (j + 1) := List.set_eq_take_append_cons_drop .. |>.trans (by rw [if_pos hjp])
 have anb : g ∉ p' := fun hk => by
  rcases hb' g hk with h | h
  · exact n2 h
  · have := hlt g (by simp); omega
 have hnd : (g :: List.flatten (cZ.set j p')).Nodup := by
  rw [hsplit, List.flatten_append, List.flatten_cons]
  simp only [List.nodup_cons, List.nodup_append, List.mem_append, not_or]
  refine ⟨⟨n1, anb, n3⟩, n4, ⟨hn', n6, fun a ha b hbb => ?_⟩, fun a ha b hbb => ?_⟩
  · rcases hb' a ha with h | h
    · exact n7 a h b hbb
    have := hlt b (hmem b (.inr (.inr hbb))); omega
  rcases hbb with hbb | hbb
  · rcases hb' b hbb with h | h
    · exact n8 a ha b (.inl h)
    have := hlt a (hmem a (.inl ha)); omega
  exact n8 a ha b (.inr hbb)
 have hkeep : ∀ {β : Type} [Rep β] (q : List Nat) (xs : List Value) (z : β), Own q w1 xs z → g ∉ q → Own q (putCells w1 g (o + j * sz α) vs) xs z := by
  intro β _ q xs z hQ hgq
  exact Own.only hQ (fC g vs _ w1) (fun k hk hkg => by obtain rfl : k = g := (by simpa using hkg); exact hgq hk)
 have h31 : w1.heap[g]? = some (.cells cur e (0, 0)) := (hbl.block g (hlt g (by simp))).trans h3
 refine ⟨g :: List.flatten (cZ.set j p'), ⟨_, rfl, .inr ⟨g, o, c, _, e, cZ.set j p', by simp, by simpa using h1, h2, lG g e (0, 0) vs _ w1 cur h31, rfl, by simpa using h5, fun i hi => ?_⟩⟩, hnd, fun k hk => ?_⟩
 · simp only [List.length_set] at hi
   obtain ⟨q, xs, hq, hQ, hcq⟩ := h6 i hi
   have hxl := Rep.dI (Rep.bP hQ)
   by_cases hij : j = i
   · subst hij
     refine ⟨p', vs, by simp [hjp], ?_, fun k hk => ?_⟩
     · simp only [List.getElem_set_self]
       exact hkeep p' vs y Y7 anb
     refine oM vs _ k cur hk ?_
     have := hcq k (by omega)
     rw [List.getElem?_eq_getElem (by omega)] at this
     exact (Array.getElem?_eq_some_iff.1 this).1
   refine ⟨q, xs, by rw [List.getElem?_set_ne hij]; exact hq, ?_, fun k hk => ?_⟩
   · simp only [List.getElem_set_ne hij]
     refine hkeep q xs _ (Own.mono hQ hbl) (fun hk => ?_)
     exact (List.nodup_cons.1 hn).1 (List.mem_flatten.2 ⟨q, List.mem_of_getElem? hq, hk⟩)
   rw [jX]
   · exact hcq k hk
   have hks : k < sz α := by omega
   rcases Nat.lt_or_gt_of_ne hij with hlt | hlt
   · right
     have : (j + 1) * sz α ≤ i * sz α := Nat.mul_le_mul_right _ hlt
     rw [Nat.add_mul] at this
     omega
   left
   have := Eb (s := sz α) hlt hks
   omega
 rcases List.mem_cons.1 hk with rfl | hk
 · exact .inl (hb k (by simp))
 rw [hsplit, List.flatten_append, List.flatten_cons] at hk
 rcases List.mem_append.1 hk with hk | hk
 · exact .inl (hb k (hmem k (.inl hk)))
 rcases List.mem_append.1 hk with hk | hk
 · rcases hb' k hk with h | h
   · exact .inl (hb k (hmem k (.inr (.inl h))))
   exact .inr h
 exact .inl (hb k (hmem k (.inr (.inr hk))))
theorem Sr {α : Type} {l m : List (List α)} (h : l.Sublist m) : l.flatten.Sublist m.flatten := by
 induction h with
 | slnil => exact List.Sublist.refl _
 | cons a _ ih => rw [List.flatten_cons]; exact List.sublist_append_of_sublist_right ih
 | cons_cons a _ ih => rw [List.flatten_cons, List.flatten_cons]; exact List.Sublist.append (List.Sublist.refl _) ih
abbrev Piece := List Int × Value × List Nat
theorem VD {p : List Nat} {w : World} {a : Option Addr} {n c : Nat} {T : List (List Int)} (h : Own p w [.slice a n c] T) (hp : p.Nodup) :
 ∃ L : List Piece, L.map (·.1) = T ∧ (∀ i (hi : i < L.length), ∃ b o, a = some ⟨b, o, none⟩ ∧ w.cell? ⟨b, o + i, none⟩ = some L[i].2.1) ∧ (∀ e, e ∈ L → Rd w [e.2.1] e.1) ∧
  ∀ (M : List Piece) (w1 : World) (e : TypeId) (vN : Value), M.Sublist L → Below w.heap.size w w1 → w1.ownsRow 0 e 1 vN M.length (M.map (·.2.1)) → (∀ z, vN.ownBlock = some z → w.heap.size ≤ z) →
   ∃ p', Own p' w1 [vN] (M.map (·.1)) ∧ p'.Nodup ∧ ∀ k, k ∈ p' → k ∈ p ∨ w.heap.size ≤ k := by
 have hlt := fun k hk => Rep.jK h k hk
 have key : ∃ L : List Piece, L.map (·.1) = T ∧ (∀ i (hi : i < L.length), ∃ b o, a = some ⟨b, o, none⟩ ∧ w.cell? ⟨b, o + i, none⟩ = some L[i].2.1) ∧ (∀ e, e ∈ L → Own e.2.2 w [e.2.1] e.1) ∧ (List.flatten (L.map (·.2.2))).Nodup ∧ ∀ k, k ∈ List.flatten (L.map (·.2.2)) → k ∈ p := by
  obtain ⟨v', e', ho⟩ := h
  obtain rfl : Value.slice a n c = v' := by simpa using e'
  rcases ho with ⟨rfl, rfl, _⟩ | ⟨g, o, c', cur, e, cZ, hv, h1, h2, h3, rfl, h5, h6⟩
  · exact ⟨[], rfl, fun i hi => absurd hi (Nat.not_lt_zero _), by simp, by simp, by simp⟩
  simp only [Value.slice.injEq] at hv
  obtain ⟨rfl, rfl, rfl⟩ := hv
  have hpl : cZ.length = T.length := by simpa using h5
  refine ⟨(List.range T.length).map (fun i => (T.getD i [], (cur[o + i]?).getD (.int .i64 0), cZ.getD i [])), ?_, ?_, ?_, ?_, ?_⟩
  · refine List.ext_getElem (by simp) (fun i h1 h2 => ?_)
    simp [List.getD, h2]
  · intro i hi
    simp only [List.length_map, List.length_range] at hi
    obtain ⟨q, vs, hq, hO, hc⟩ := h6 i hi
    have hvl : vs.length = 1 := Rep.dI (Rep.bP hO)
    have := hc 0 (by omega)
    refine ⟨g, o, rfl, ?_⟩
    rw [aA h3]
    rw [show o + i * sz (List Int) + 0 = o + i by simp [sz]] at this
    simp only [List.getElem_map, List.getElem_range]
    rw [this, List.getElem?_eq_getElem (by omega)]
    rfl
  · intro x hx
    obtain ⟨i, hi, rfl⟩ := List.mem_map.1 hx
    rw [List.mem_range] at hi
    obtain ⟨q, vs, hq, hO, hc⟩ := h6 i hi
    have hvl : vs.length = 1 := Rep.dI (Rep.bP hO)
    obtain ⟨u, rfl⟩ : ∃ u, vs = [u] := by
     match vs, hvl with
     | [u], _ => exact ⟨u, rfl⟩
    have := hc 0 (by simp)
    rw [show o + i * sz (List Int) + 0 = o + i by simp [sz]] at this
    simp only [this, List.getElem?_cons_zero, Option.getD_some]
    rw [show cZ.getD i [] = q by simp [List.getD, hq], show T.getD i [] = T[i] by simp [List.getD, hi]]
    exact hO
  · have e1 : ((List.range T.length).map (fun i => ((T.getD i [], (cur[o + i]?).getD (.int .i64 0), cZ.getD i []) : Piece))).map (·.2.2) = cZ := by
     refine List.ext_getElem (by simp [hpl]) (fun i h1 h2 => ?_)
     simp [List.getD, h2]
    rw [e1]
    exact (List.nodup_cons.1 hp).2
  have e1 : ((List.range T.length).map (fun i => ((T.getD i [], (cur[o + i]?).getD (.int .i64 0), cZ.getD i []) : Piece))).map (·.2.2) = cZ := by
   refine List.ext_getElem (by simp [hpl]) (fun i h1 h2 => ?_)
   simp [List.getD, h2]
  rw [e1]
  exact fun k hk => List.mem_cons_of_mem _ hk
 obtain ⟨L, hL1, hL2, hL3, hL4, hL5⟩ := key
 refine ⟨L, hL1, hL2, fun e he => Rep.bP (hL3 e he), fun M w1 e vN hM hbl hrow hfr => ?_⟩
 have ho := yE (α := List Int) (l := M.map (·.1)) (cZ := M.map (·.2.2)) (e := e) (xs := M.map (·.2.1)) (v := vN) (w := w1) (by simpa [sz] using hrow) (by simp) (fun i hi => by
  simp only [List.length_map] at hi
  refine ⟨M[i].2.2, [M[i].2.1], by simp [hi], ?_, fun k hk => ?_⟩
  · simp only [List.getElem_map]
    exact Own.mono (hL3 _ (hM.subset (List.getElem_mem hi))) hbl
  · simp only [List.length_cons, List.length_nil] at hk
    obtain rfl : k = 0 := by omega
    simp [sz, hi])
 have hsub : (List.flatten (M.map (·.2.2))).Sublist (List.flatten (L.map (·.2.2))) := Sr (hM.map _)
 refine ⟨_, ⟨vN, rfl, ho⟩, ?_, fun k hk => ?_⟩
 · rw [List.nodup_append]
   refine ⟨by cases vN.ownBlock <;> simp, hsub.nodup hL4, fun x hx y hy => ?_⟩
   have h1 := hfr x (by simpa using hx)
   have h2 := hlt y (hL5 y (hsub.subset hy))
   omega
 rcases List.mem_append.1 hk with hk | hk
 · exact .inr (hfr k (by simpa using hk))
 exact .inl (hL5 k (hsub.subset hk))
theorem VE {A : Nat → Prop} {w : World} {vp : Value} {P : List bH} (h : Ip A w [vp] P) (j : Nat) (hj : j < P.length) :
 ∃ g o c m a cc, vp = .slice (some ⟨g, o, none⟩) P.length c ∧ A g ∧ (∃ cur e, w.heap[g]? = some (.cells cur e (0, 0))) ∧ P[j].1 = m ∧ w.cell? ⟨g, o + j * 2, none⟩ = some (.int .i64 m) ∧ w.cell? ⟨g, o + j * 2 + 1, none⟩ = some (.slice a P[j].2.length cc) ∧ Rd w [.slice a P[j].2.length cc] P[j].2 ∧
  ∃ L : List Piece, L.map (·.1) = P[j].2 ∧ (∀ i (hi : i < L.length), ∃ b o, a = some ⟨b, o, none⟩ ∧ w.cell? ⟨b, o + i, none⟩ = some L[i].2.1) ∧ (∀ e, e ∈ L → Rd w [e.2.1] e.1) ∧
   ∀ (M : List Piece) (w1 : World) (e : TypeId) (vN : Value) (k : Int), I64 k → M.Sublist L → Below w.heap.size w w1 → w1.ownsRow 0 e 1 vN M.length (M.map (·.2.1)) → (∀ z, vN.ownBlock = some z → w.heap.size ≤ z) →
    Ip (fun z => A z ∨ w.heap.size ≤ z) ((w1.setCell ⟨g, o + j * 2, none⟩ (.int .i64 k)).setCell ⟨g, o + j * 2 + 1, none⟩ vN) [vp] (P.set j (k, M.map (·.1))) := by
 obtain ⟨g, o, c, cur, e, rfl, _, _, hh, hA, _⟩ := vP h (by omega)
 obtain ⟨p, us, hO, hnd, hpA, hcell, hput⟩ := YO h j hj
 have Zc : us.length = 2 := Rep.dI (Rep.bP hO)
 obtain ⟨u0, u1, rfl⟩ : ∃ u0 u1, us = [u0, u1] := by
  match us, Zc with
  | [u0, u1], _ => exact ⟨u0, u1, rfl⟩
 obtain ⟨p1, p2, rfl, hO1, hO2⟩ := pK rfl hO
 obtain ⟨rfl, hI⟩ := aG (Rep.bP hO1)
 obtain ⟨rfl, _⟩ := hO1
 obtain ⟨a, cc, rfl, hR⟩ := ah (Rep.bP hO2)
 obtain ⟨L, hL1, hL2, hL3, hL4⟩ := VD hO2 (by simpa using hnd)
 have hc0 := hcell 0 (show 0 < 2 by omega)
 have hc1 := hcell 1 (show 1 < 2 by omega)
 have esz : sz bH = 2 := rfl
 rw [esz] at hc0 hc1
 refine ⟨g, o, c, _, a, cc, rfl, hA, ⟨cur, e, hh⟩, rfl, by simpa using hc0, by simpa using hc1, Rep.bP hO2, L, hL1, hL2, hL3, fun M w1 e vN k hk hM hbl hrow hfr => ?_⟩
 obtain ⟨p', hp1, hp2, hp3⟩ := hL4 M w1 e vN hM hbl hrow hfr
 have h9 := hput w1 p' [.int .i64 k, vN] (k, M.map (·.1)) hbl (lS (p := []) ⟨rfl, rfl, hk⟩ hp1) hp2 (fun z hz => by simpa using hp3 z hz)
 have e9 : putCells w1 g (o + j * sz bH) [.int .i64 k, vN] = (w1.setCell ⟨g, o + j * 2, none⟩ (.int .i64 k)).setCell ⟨g, o + j * 2 + 1, none⟩ vN := by simp [putCells, esz]
 rwa [e9] at h9
end Go.Proofs.YtoblfnoaepbhfaaGreat
