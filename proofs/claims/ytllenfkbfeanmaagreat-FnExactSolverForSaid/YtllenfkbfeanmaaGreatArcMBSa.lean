/-
  SEVERAL TEXTS IN ONE.
-/
import Derived.Test.YtllenfkbfeanmaaGreatArcBSa
import Derived.Test.YtllenfkbfeanmaaGreatRowsBSa

/-
  CONTRACTS: a list of the call's own without a number; lists of the call's own.
-/
namespace Go.Proofs.YtllenfkbfeanmaaGreat
open Go.RowKit Go.Shelf Go.IntWalk
open Rep (Rd Own sz)
set_option linter.unusedSimpArgs false
set_option linter.unusedVariables false


end Go.Proofs.YtllenfkbfeanmaaGreat

/-
  PLAIN LAW: making domains consistent along the constraints.
-/
namespace Go.Proofs.YtllenfkbfeanmaaGreat
open Go.RowKit
set_option linter.unusedSimpArgs false
set_option linter.unusedVariables false

abbrev ArcS := List (List Int) × List (Int × Int × Int)
/-- Value a at place p of constraint ci, whose variable is v: kept if supported, else struck and noted. -/
def stepA (ts : List (List Int)) (sc : List Int) (ci p v : Nat) (s : ArcS) (a : Int) : ArcS :=
  if supB ts sc s.1 p a then s else (s.1.set v ((s.1.getD v []).filter (fun x => x != a)), s.2 ++ [((v : Int), a, (ci : Int))])
def placeA (ts : List (List Int)) (sc : List Int) (ci : Nat) (s : ArcS) (p : Nat) : ArcS := (s.1.getD (sc.getD p 0).toNat []).foldl (stepA ts sc ci p (sc.getD p 0).toNat) s
def conA (rs : List RelT) (cs : List OpT) (s : ArcS) (k : Nat) : ArcS := (List.range (cs.getD k (0, [])).2.length).foldl (placeA (rs.getD (cs.getD k (0, [])).1.toNat (0, [])).2 (cs.getD k (0, [])).2 k) s
def roundA (rs : List RelT) (cs : List OpT) (s : ArcS) : ArcS := (List.range cs.length).foldl (conA rs cs) s
def arcsA (rs : List RelT) (cs : List OpT) : Nat → ArcS → ArcS
  | 0, s => s
  | n + 1, s => if (roundA rs cs s).2.length = s.2.length then roundA rs cs s else arcsA rs cs n (roundA rs cs s)

theorem sum_set (l : List (List Int)) (x : List Int) : ∀ (i : Nat) (h : i < l.length), ((l.set i x).map List.length).sum + l[i].length = (l.map List.length).sum + x.length := by
  induction l with
  | nil => intro i h; cases h
  | cons y l ih =>
    intro i h
    cases i with
    | zero => simp; omega
    | succ i =>
      have := ih i (by simpa using h)
      simp only [List.set_cons_succ, List.map_cons, List.sum_cons, List.getElem_cons_succ]
      omega
theorem filter_lt {l : List Int} {a : Int} (h : a ∈ l) : (l.filter (fun x => x != a)).length + 1 ≤ l.length := by
  induction l with
  | nil => cases h
  | cons y l ih =>
    by_cases hy : y = a
    · have h1 : (y != a) = false := by simp [hy]
      have := List.length_filter_le (fun x => x != a) l
      rw [List.filter_cons, h1, List.length_cons]
      simp only [Bool.false_eq_true, if_false]
      omega
    · have h1 : (y != a) = true := by simp [hy]
      have h2 : a ∈ l := by
        rcases List.mem_cons.1 h with h | h
        · exact absurd h.symm hy
        · exact h
      have := ih h2
      rw [List.filter_cons, h1]
      simp only [if_true, List.length_cons]
      omega
/-- Domains as they are kept: one a variable, each value once, not long; and what bounds the steps. -/
structure ArcOk (V C : Nat) (s : ArcS) : Prop where
  len : s.1.length = V
  small : ∀ d, d ∈ s.1 → d.length ≤ 1048576
  nodup : ∀ d, d ∈ s.1 → d.Nodup
  pot : s.2.length + (s.1.map List.length).sum ≤ C
theorem stepA_ok {V C : Nat} {ts : List (List Int)} {sc : List Int} {ci p v : Nat} {s : ArcS} {a : Int} (h : ArcOk V C s) (hv : v < V) (ha : a ∈ s.1.getD v []) : ArcOk V C (stepA ts sc ci p v s a) := by
  unfold stepA
  split
  · exact h
  · have hl : v < s.1.length := by rw [h.len]; exact hv
    have hg : s.1.getD v [] = s.1[v] := by simp [List.getD, hl]
    rw [hg] at ha ⊢
    have hm : s.1[v] ∈ s.1 := List.getElem_mem hl
    refine ⟨by simpa using h.len, fun d hd => ?_, fun d hd => ?_, ?_⟩
    · rcases List.mem_or_eq_of_mem_set hd with h1 | rfl
      · exact h.small d h1
      · exact Nat.le_trans (List.length_filter_le _ _) (h.small _ hm)
    · rcases List.mem_or_eq_of_mem_set hd with h1 | rfl
      · exact h.nodup d h1
      · exact (h.nodup _ hm).filter _
    · have h1 := sum_set s.1 (s.1[v].filter (fun x => x != a)) v hl
      have h2 := filter_lt ha
      have h3 := h.pot
      simp only [List.length_append, List.length_cons, List.length_nil]
      omega
theorem stepA_keep {V C : Nat} {ts : List (List Int)} {sc : List Int} {ci p v : Nat} {s : ArcS} {a b : Int} (h : ArcOk V C s) (hv : v < V) (hb : b ∈ s.1.getD v []) (hab : b ≠ a) : b ∈ (stepA ts sc ci p v s a).1.getD v [] := by
  unfold stepA
  split
  · exact hb
  · have hl : v < s.1.length := by rw [h.len]; exact hv
    have : (s.1.set v ((s.1.getD v []).filter (fun x => x != a))).getD v [] = (s.1.getD v []).filter (fun x => x != a) := by simp [List.getD, hl]
    simp only [this]
    rw [List.mem_filter]
    exact ⟨hb, by simp [hab]⟩
/-- Behind j values of the copied domain L. -/
structure ValInv (V C : Nat) (v : Nat) (L : List Int) (j : Nat) (s : ArcS) : Prop where
  ok : ArcOk V C s
  mem : ∀ i (h : i < L.length), j ≤ i → L[i] ∈ s.1.getD v []
theorem ValInv.step {V C v j : Nat} {L : List Int} {ts : List (List Int)} {sc : List Int} {ci p : Nat} {s : ArcS} (h : ValInv V C v L j s) (hv : v < V) (hL : L.Nodup) (hj : j < L.length) : ValInv V C v L (j + 1) (stepA ts sc ci p v s L[j]) := by
  refine ⟨stepA_ok h.ok hv (h.mem j hj (Nat.le_refl _)), fun i hi hji => stepA_keep h.ok hv (h.mem i hi (by omega)) (fun e => ?_)⟩
  exact (List.pairwise_iff_getElem.1 hL j i hj hi (by omega)) e.symm
theorem ValInv.start {V C v : Nat} {s : ArcS} (h : ArcOk V C s) (hv : v < V) : ValInv V C v (s.1.getD v []) 0 s := ⟨h, fun i hi _ => List.getElem_mem hi⟩
end Go.Proofs.YtllenfkbfeanmaaGreat

/-
  PLAIN: the memory of a run that makes domains consistent: the domains in place, the steps in a row of their own, boxes.
-/
namespace Go.Proofs.YtllenfkbfeanmaaGreat
open Go.RowKit
open Rep (Rd Own sz)
set_option linter.unusedSimpArgs false
set_option linter.unusedVariables false

def flat3 (l : List (Int × Int × Int)) : List Value := l.flatMap (fun t => [.int .i64 t.1, .int .i64 t.2.1, .int .i64 t.2.2])
/-- The first world's memory is read; blocks of AD and those from B0 on are the run's. -/
structure ArcW (w0 : World) (AD : Nat → Prop) (B0 g cd V : Nat) (eS : TypeId) (bx : List (Nat × Array Value × TypeId)) (wl : World) (gs co : Nat) (s : ArcS) : Prop where
  st : St w0 wl.heap.size wl bx
  b0 : B0 ≤ wl.heap.size
  lo : w0.heap.size ≤ B0 ∧ (∀ z, AD z → w0.heap.size ≤ z)
  dom : Ip (fun z => ((AD z ∨ B0 ≤ z) ∧ z ≠ gs) ∧ ∀ x, x ∈ bx → x.1 ≠ z) wl [.slice (some ⟨g, 0, none⟩) V cd] s.1
  row : wl.ownsRow 0 eS 3 (.slice (some ⟨gs, 0, none⟩) s.2.length co) s.2.length (flat3 s.2)
  gs : (B0 ≤ gs ∧ gs < wl.heap.size) ∧ ∀ x, x ∈ bx → x.1 ≠ gs
section
variable {w0 : World} {AD : Nat → Prop} {B0 g cd V : Nat} {eS : TypeId} {bx : List (Nat × Array Value × TypeId)} {wl : World} {gs co : Nat} {s : ArcS}
theorem Ip.tight {α : Type} [Rep α] {A : Nat → Prop} {w : World} {vs : List Value} {x : α} (h : Ip A w vs x) : Ip (fun z => A z ∧ z < w.heap.size) w vs x := by
  obtain ⟨ps, h1, h2, h3⟩ := h
  exact ⟨ps, h1, h2, fun k hk => ⟨h3 k hk, Rep.own_lt h1 k hk⟩⟩
theorem ArcW.step (h : ArcW w0 AD B0 g cd V eS bx wl gs co s) {w1 : World} (hb : Below wl.heap.size wl w1) : ArcW w0 AD B0 g cd V eS bx w1 gs co s :=
  ⟨(h.st.step hb).up hb.size (Nat.le_refl _), Nat.le_trans h.b0 hb.size, h.lo, h.dom.mono hb, ownsRow_below h.row hb, ⟨⟨h.gs.1.1, Nat.lt_of_lt_of_le h.gs.1.2 hb.size⟩, h.gs.2⟩⟩
theorem ArcW.rd (h : ArcW w0 AD B0 g cd V eS bx wl gs co s) : Rd wl [.slice (some ⟨g, 0, none⟩) V cd] s.1 := h.dom.rd
theorem ArcW.bel (h : ArcW w0 AD B0 g cd V eS bx wl gs co s) : Below w0.heap.size w0 wl := h.st.bel
theorem ArcW.box (h : ArcW w0 AD B0 g cd V eS bx wl gs co s) (vs : Array Value) (ty : TypeId) : ArcW w0 AD B0 g cd V eS (bx ++ [(wl.heap.size, vs, ty)]) (wl.alloc (.cells vs ty)) gs co s := by
  have hb := belowA wl (.cells vs ty)
  refine ⟨(h.st.alloc vs ty rfl).up (by simp) (Nat.le_refl _), by have := h.b0; simp; omega, h.lo, ?_, ownsRow_below h.row hb, ⟨⟨h.gs.1.1, by have := h.gs.1.2; simp; omega⟩, ?_⟩⟩
  · refine (h.dom.tight.mono hb).wk (fun z hz => ⟨hz.1.1, fun x hx => ?_⟩)
    rcases List.mem_append.1 hx with hx | hx
    · exact hz.1.2 x hx
    · rw [List.mem_singleton] at hx
      subst hx
      have := hz.2
      simp only
      omega
  · intro x hx
    rcases List.mem_append.1 hx with hx | hx
    · exact h.gs.2 x hx
    · rw [List.mem_singleton] at hx
      subst hx
      have := h.gs.1.2
      simp only
      omega
/-- A domain is written anew. -/
theorem ArcW.put (h : ArcW w0 AD B0 g cd V eS bx wl gs co s) {w1 : World} (hb : Below wl.heap.size wl w1) {v : Nat} (hv : v < s.1.length) {vn : Value} {d : List Int} (hd : Fresh wl.heap.size w1 [vn] d) (hV : s.1.length = V) :
    ArcW w0 AD B0 g cd V eS bx (w1.setCell ⟨g, v, none⟩ vn) gs co (s.1.set v d, s.2) := by
  have h1 := h.step hb
  have hg : ((AD g ∨ B0 ≤ g) ∧ g ≠ gs) ∧ ∀ x, x ∈ bx → x.1 ≠ g := by
    obtain ⟨g', o, c, cur, e, e1, _, _, _, hA, _⟩ := ip_form h1.dom (by omega)
    simp only [Value.slice.injEq, Option.some.injEq, Addr.mk.injEq] at e1
    obtain ⟨⟨rfl, -, -⟩, -, -⟩ := e1
    exact hA
  have hs : (w1.setCell ⟨g, v, none⟩ vn).heap.size = w1.heap.size := by simp [World.setCell]
  refine ⟨?_, by rw [hs]; exact h1.b0, h.lo, ?_, ?_, ⟨by rw [hs]; exact h1.gs.1, h1.gs.2⟩⟩
  · have hbg : w0.heap.size ≤ g := by
      rcases hg.1.1 with h2 | h2
      · exact h.lo.2 g h2
      · exact Nat.le_trans h.lo.1 h2
    refine ⟨h1.st.bel.setCell hbg _, by rw [hs]; exact h1.st.lo, by rw [hs]; exact Nat.le_refl _, fun x hx => ?_⟩
    have h2 := h1.st.box x hx
    refine ⟨h2.1, by rw [hs]; exact h2.2.1, ?_⟩
    rw [Below.heap_setCell _ _ _ _ (fun e => hg.2 x hx (by simpa using e))]
    exact h2.2.2
  · have h3 := ip_put (h.dom.tight.mono hb) v hv (Ip.wk hd.ip (B := fun z => wl.heap.size ≤ z) (fun k hk => hk.1)) (fun k hk hk2 => by have := hk.2; omega)
    · have e : putCells w1 g (0 + v * sz (List Int)) [vn] = w1.setCell ⟨g, v, none⟩ vn := by simp [putCells, sz]
      rw [e] at h3
      refine Ip.wk h3 (fun z hz => ?_)
      rcases hz with hz | hz
      · exact hz.1
      · refine ⟨⟨.inr (by have := h.b0; omega), by have := h.gs.1.2; omega⟩, fun x hx => ?_⟩
        have := (h.st.box x hx).2.1
        omega
  · exact row_frame h1.row (fun k hk => Below.heap_setCell _ _ _ _ (fun e => by
      simp only [Value.ownBlock, Option.some.injEq] at hk
      simp only at e
      exact hg.1.2 (by omega)))
end

end Go.Proofs.YtllenfkbfeanmaaGreat

/-
  CONTRACT: making domains consistent: the program's side.
-/
namespace Go.Proofs.YtllenfkbfeanmaaGreat
open Go.RowKit Go.Shelf Go.IntWalk
open Rep (Rd Own sz)
set_option linter.unusedSimpArgs false
set_option linter.unusedVariables false

theorem ArcW.own {w0 : World} {AD : Nat → Prop} {B0 g cd V : Nat} {eS : TypeId} {bx : List (Nat × Array Value × TypeId)} {wl w1 : World} {gs co : Nat} {s : ArcS} (h : ArcW w0 AD B0 g cd V eS bx wl gs co s) (hb : Below wl.heap.size wl w1)
    {gL : Nat} {cur : Array Value} {e : TypeId} (h1 : wl.heap.size ≤ gL) (h2 : w1.heap[gL]? = some (.cells cur e (0, 0))) : ArcW w0 AD B0 g cd V eS (bx ++ [(gL, cur, e)]) w1 gs co s := by
  have h3 := h.step hb
  have hlt : gL < w1.heap.size := (Array.getElem?_eq_some_iff.1 h2).1
  refine ⟨⟨h3.st.bel, h3.st.lo, h3.st.hi, fun x hx => ?_⟩, h3.b0, h.lo, ?_, h3.row, ⟨h3.gs.1, fun x hx => ?_⟩⟩
  · rcases List.mem_append.1 hx with hx | hx
    · exact h3.st.box x hx
    · rw [List.mem_singleton] at hx
      subst hx
      exact ⟨by have := h.st.lo; simp only; omega, hlt, h2⟩
  · refine (h.dom.tight.mono hb).wk (fun z hz => ⟨hz.1.1, fun x hx => ?_⟩)
    rcases List.mem_append.1 hx with hx | hx
    · exact hz.1.2 x hx
    · rw [List.mem_singleton] at hx
      subst hx
      have := hz.2
      simp only
      omega
  · rcases List.mem_append.1 hx with hx | hx
    · exact h.gs.2 x hx
    · rw [List.mem_singleton] at hx
      subst hx
      have := h.gs.1.2
      simp only
      omega
end Go.Proofs.YtllenfkbfeanmaaGreat

