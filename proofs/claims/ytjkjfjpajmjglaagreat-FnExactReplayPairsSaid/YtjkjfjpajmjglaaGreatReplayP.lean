/-
  PLAIN: steps that are told again; the domains in place and boxes, nothing else written.
-/
import Derived.Test.YtjkjfjpajmjglaaGreatMakeArcs
namespace Go.Proofs.YtjkjfjpajmjglaaGreat
open Go.RowKit
open Rep (Rd Own sz)
set_option linter.unusedSimpArgs false
set_option linter.unusedVariables false

/-- Place p of a constraint is the step's variable's, and the value has no support there. -/
def placeOk (ts : List (List Int)) (sc : List Int) (ds : List (List Int)) (v a : Int) (p : Nat) : Bool := decide (sc.getD p 0 = v) && !supB ts sc ds p a
def firstOk (t : Tmpl) (x : Inst) (ds : List (List Int)) (s : Int × Int × Int) : Bool := (inB s.1 0 (x.1 - 1) && inB s.2.2 0 ((x.2.length : Int) - 1)) && hasI (ds.getD s.1.toNat []) s.2.1
def conAny (rs : List RelT) (c : OpT) (ds : List (List Int)) (v a : Int) : Bool := (List.range c.2.length).any (placeOk (rs.getD c.1.toNat (0, [])).2 c.2 ds v a)
def stepOk (t : Tmpl) (x : Inst) (ds : List (List Int)) (s : Int × Int × Int) : Bool := firstOk t x ds s && conAny t.2 (x.2.getD s.2.2.toNat (0, [])) ds s.1 s.2.1
def cutD (ds : List (List Int)) (s : Int × Int × Int) : List (List Int) := ds.set s.1.toNat ((ds.getD s.1.toNat []).filter (fun x => x != s.2.1))
def replayA (t : Tmpl) (x : Inst) : List (Int × Int × Int) → Nat → List (List Int) → List (List Int) × Int × Int
  | [], _, ds => (ds, 0, 0)
  | s :: l, i, ds => if stepOk t x ds s then replayA t x l (i + 1) (cutD ds s) else ([], (i : Int), 8)
def replayF (t : Tmpl) (x : Inst) (ds : List (List Int)) (steps : List (Int × Int × Int)) : List (List Int) × Int × Int := if domsOk t x ds then replayA t x steps 0 ds else ([], 0, 1)
theorem any_not {f : Nat → Bool} {n : Nat} (h : ∀ p, p < n → f p = false) : (List.range n).any f = false := by
  rw [List.any_eq_false]
  intro p hp
  rw [h p (List.mem_range.1 hp)]
  decide
theorem any_has {f : Nat → Bool} {n p : Nat} (hp : p < n) (h : f p = true) : (List.range n).any f = true := List.any_eq_true.2 ⟨p, List.mem_range.2 hp, h⟩
/-- The present domains stay small. -/
structure DomOk (V : Nat) (ds : List (List Int)) : Prop where
  len : ds.length = V
  small : ∀ d, d ∈ ds → d.length ≤ 1048576
theorem cutD_ok {V : Nat} {ds : List (List Int)} {s : Int × Int × Int} (h : DomOk V ds) (hs : s.1.toNat < ds.length) : DomOk V (cutD ds s) := by
  have hg : ds.getD s.1.toNat [] = ds[s.1.toNat] := by rw [List.getD, List.getElem?_eq_getElem hs]; rfl
  refine ⟨by simp [cutD, h.len], fun d hd => ?_⟩
  rcases List.mem_or_eq_of_mem_set hd with h1 | rfl
  · exact h.small d h1
  · rw [hg]
    exact Nat.le_trans (List.length_filter_le _ _) (h.small _ (List.getElem_mem hs))
theorem cutD_sum (ds : List (List Int)) (s : Int × Int × Int) : ((cutD ds s).map List.length).sum ≤ (ds.map List.length).sum := by
  unfold cutD
  by_cases hs : s.1.toNat < ds.length
  · have hg : ds.getD s.1.toNat [] = ds[s.1.toNat] := by rw [List.getD, List.getElem?_eq_getElem hs]; rfl
    have h1 := sum_set ds ((ds.getD s.1.toNat []).filter (fun x => x != s.2.1)) s.1.toNat hs
    have h2 := List.length_filter_le (fun x => x != s.2.1) (ds.getD s.1.toNat [])
    rw [hg] at h1 h2 ⊢
    omega
  · rw [List.set_eq_of_length_le (by omega)]
    exact Nat.le_refl _
theorem replayA_sum (t : Tmpl) (x : Inst) : ∀ (l : List (Int × Int × Int)) (i : Nat) (ds : List (List Int)), ((replayA t x l i ds).1.map List.length).sum ≤ (ds.map List.length).sum
  | [], _, _ => Nat.le_refl _
  | s :: l, i, ds => by
    rw [replayA]
    split
    · exact Nat.le_trans (replayA_sum t x l (i + 1) (cutD ds s)) (cutD_sum ds s)
    · simp
theorem replayF_small (t : Tmpl) (x : Inst) (ds : List (List Int)) (steps : List (Int × Int × Int)) : mc_Int64SS (replayF t x ds steps).1 ≤ 1000000 := by
  unfold replayF mc_Int64SS
  split
  · rename_i h
    have h1 := replayA_sum t x steps 0 ds
    have h2 := (dom_facts h).forty
    unfold lensA at h2
    omega
  · simp
/-- The first world's memory is read; the domains are the run's. -/
structure DomW (w0 : World) (g cd V : Nat) (bx : List (Nat × Array Value × TypeId)) (wl : World) (ds : List (List Int)) : Prop where
  st : St w0 wl.heap.size wl bx
  dom : Ip (fun z => w0.heap.size ≤ z ∧ ∀ x, x ∈ bx → x.1 ≠ z) wl [.slice (some ⟨g, 0, none⟩) V cd] ds
section
variable {w0 : World} {g cd V : Nat} {bx : List (Nat × Array Value × TypeId)} {wl : World} {ds : List (List Int)}
theorem DomW.step (h : DomW w0 g cd V bx wl ds) {w1 : World} (hb : Below wl.heap.size wl w1) : DomW w0 g cd V bx w1 ds :=
  ⟨(h.st.step hb).up hb.size (Nat.le_refl _), h.dom.mono hb⟩
theorem DomW.rd (h : DomW w0 g cd V bx wl ds) : Rd wl [.slice (some ⟨g, 0, none⟩) V cd] ds := h.dom.rd
theorem DomW.bel (h : DomW w0 g cd V bx wl ds) : Below w0.heap.size w0 wl := h.st.bel
theorem DomW.box (h : DomW w0 g cd V bx wl ds) (vs : Array Value) (ty : TypeId) : DomW w0 g cd V (bx ++ [(wl.heap.size, vs, ty)]) (wl.alloc (.cells vs ty)) ds := by
  have hb := belowA wl (.cells vs ty)
  refine ⟨(h.st.alloc vs ty rfl).up (by simp) (Nat.le_refl _), ?_⟩
  refine (h.dom.tight.mono hb).wk (fun z hz => ⟨hz.1.1, fun x hx => ?_⟩)
  rcases List.mem_append.1 hx with hx | hx
  · exact hz.1.2 x hx
  · rw [List.mem_singleton] at hx
    subst hx
    have := hz.2
    simp only
    omega
theorem DomW.sub (h : DomW w0 g cd V bx wl ds) {bx' : List (Nat × Array Value × TypeId)} (hs : ∀ x, x ∈ bx' → x ∈ bx) : DomW w0 g cd V bx' wl ds :=
  ⟨h.st.sub hs, h.dom.wk (fun z hz => ⟨hz.1, fun x hx => hz.2 x (hs x hx)⟩)⟩
theorem DomW.free (h : DomW w0 g cd V bx wl ds) (hl : 0 < ds.length) (v : Nat) : wl.frozen? ⟨g, v, none⟩ = false := by
  obtain ⟨g', o', c', cur', e', e1, _, _, hh, _, _⟩ := ip_form h.dom hl
  simp only [Value.slice.injEq, Option.some.injEq, Addr.mk.injEq] at e1
  obtain ⟨⟨rfl, -, -⟩, -, -⟩ := e1
  exact free_at_block hh
theorem DomW.put (h : DomW w0 g cd V bx wl ds) {w1 : World} (hb : Below wl.heap.size wl w1) {v : Nat} (hv : v < ds.length) {vn : Value} {d : List Int} (hd : Fresh wl.heap.size w1 [vn] d) :
    DomW w0 g cd V bx (w1.setCell ⟨g, v, none⟩ vn) (ds.set v d) := by
  have h1 := h.step hb
  have hg : w0.heap.size ≤ g ∧ ∀ x, x ∈ bx → x.1 ≠ g := by
    obtain ⟨g', o, c, cur, e, e1, _, _, _, hA, _⟩ := ip_form h1.dom (by omega)
    simp only [Value.slice.injEq, Option.some.injEq, Addr.mk.injEq] at e1
    obtain ⟨⟨rfl, -, -⟩, -, -⟩ := e1
    exact hA
  have hs : (w1.setCell ⟨g, v, none⟩ vn).heap.size = w1.heap.size := by simp [World.setCell]
  refine ⟨?_, ?_⟩
  · refine ⟨h1.st.bel.setCell hg.1 _, by rw [hs]; exact h1.st.lo, by rw [hs]; exact Nat.le_refl _, fun x hx => ?_⟩
    have h2 := h1.st.box x hx
    refine ⟨h2.1, by rw [hs]; exact h2.2.1, ?_⟩
    rw [Below.heap_setCell _ _ _ _ (fun e => hg.2 x hx (by simpa using e))]
    exact h2.2.2
  · have h3 := ip_put (h.dom.tight.mono hb) v hv (Ip.wk hd.ip (B := fun z => wl.heap.size ≤ z) (fun k hk => hk.1)) (fun k hk hk2 => by have := hk.2; omega)
    have e : putCells w1 g (0 + v * sz (List Int)) [vn] = w1.setCell ⟨g, v, none⟩ vn := by simp [putCells, sz]
    rw [e] at h3
    refine Ip.wk h3 (fun z hz => ?_)
    rcases hz with hz | hz
    · exact hz.1
    · refine ⟨by have := h.st.lo; omega, fun x hx => ?_⟩
      have := (h.st.box x hx).2.1
      omega
end

end Go.Proofs.YtjkjfjpajmjglaaGreat
