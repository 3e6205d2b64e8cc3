/-
  SEVERAL TEXTS IN ONE.
-/
import Derived.Test.YtllenfkbfeanmaaGreatArcMBSa
import Derived.Test.YtllenfkbfeanmaaGreatDomBSa

/-
  PLAIN LAW: what the arcs of valid domains answer.
-/
namespace Go.Proofs.YtllenfkbfeanmaaGreat
open Go.RowKit
open Rep (Rd Own sz)
set_option linter.unusedSimpArgs false
set_option linter.unusedVariables false

def lensA (ds : List (List Int)) : Nat := (ds.map List.length).sum
def arcsF (t : Tmpl) (x : Inst) (ds : List (List Int)) : ArcS := arcsA t.2 x.2 (lensA ds + 1) (ds, [])
structure DomFacts (t : Tmpl) (x : Inst) (ds : List (List Int)) : Prop where
  inst : instOk t x = true
  len : (ds.length : Int) = x.1
  ten : ds.length ≤ 10
  ok : ArcOk ds.length (lensA ds) (ds, [])
  forty : lensA ds ≤ 40
  four : ∀ d, d ∈ ds → d.length ≤ 4
/-- Of what values and steps are made. -/
structure InA (P : Int → Prop) (V K : Nat) (s : ArcS) : Prop where
  len : s.1.length = V
  val : ∀ d, d ∈ s.1 → ∀ a, a ∈ d → P a
  step : ∀ e, e ∈ s.2 → (∃ v : Nat, e.1 = (v : Int) ∧ v < V) ∧ P e.2.1 ∧ ∃ k : Nat, e.2.2 = (k : Int) ∧ k < K
section
variable {P : Int → Prop} {V K : Nat}
end
end Go.Proofs.YtllenfkbfeanmaaGreat

/-
  CONTRACTS: MakeArcs and IsArcConsistent, the program's side.
-/
namespace Go.Proofs.YtllenfkbfeanmaaGreat
open Go.RowKit Go.Shelf Go.IntWalk
open Rep (Rd Own sz)
set_option linter.unusedSimpArgs false
set_option linter.unusedVariables false

end Go.Proofs.YtllenfkbfeanmaaGreat

/-
  PLAIN: steps that are told again; the domains in place and boxes, nothing else written.
-/
namespace Go.Proofs.YtllenfkbfeanmaaGreat
open Go.RowKit
open Rep (Rd Own sz)
set_option linter.unusedSimpArgs false
set_option linter.unusedVariables false

/-- The present domains stay small. -/
structure DomOk (V : Nat) (ds : List (List Int)) : Prop where
  len : ds.length = V
  small : ∀ d, d ∈ ds → d.length ≤ 1048576
/-- The first world's memory is read; the domains are the run's. -/
structure DomW (w0 : World) (g cd V : Nat) (bx : List (Nat × Array Value × TypeId)) (wl : World) (ds : List (List Int)) : Prop where
  st : St w0 wl.heap.size wl bx
  dom : Ip (fun z => w0.heap.size ≤ z ∧ ∀ x, x ∈ bx → x.1 ≠ z) wl [.slice (some ⟨g, 0, none⟩) V cd] ds
section
variable {w0 : World} {g cd V : Nat} {bx : List (Nat × Array Value × TypeId)} {wl : World} {ds : List (List Int)}
theorem DomW.step (h : DomW w0 g cd V bx wl ds) {w1 : World} (hb : Below wl.heap.size wl w1) : DomW w0 g cd V bx w1 ds :=
  ⟨(h.st.step hb).up hb.size (Nat.le_refl _), h.dom.mono hb⟩
theorem DomW.rd (h : DomW w0 g cd V bx wl ds) : Rd wl [.slice (some ⟨g, 0, none⟩) V cd] ds := h.dom.rd
theorem DomW.bel (h : DomW w0 g cd V bx wl ds) : Below w0.heap.size w0 wl := h.st.bel
theorem DomW.box (h : DomW w0 g cd V bx wl ds) (vs : Array Value) (ty : TypeId) : DomW w0 g cd V (bx ++ [(wl.heap.size, vs, ty)]) (wl.alloc (.cells vs ty)) ds := by
  have hb := belowA wl (.cells vs ty)
  refine ⟨(h.st.alloc vs ty rfl).up (by simp) (Nat.le_refl _), ?_⟩
  refine (h.dom.tight.mono hb).wk (fun z hz => ⟨hz.1.1, fun x hx => ?_⟩)
  rcases List.mem_append.1 hx with hx | hx
  · exact hz.1.2 x hx
  · rw [List.mem_singleton] at hx
    subst hx
    have := hz.2
    simp only
    omega
theorem DomW.free (h : DomW w0 g cd V bx wl ds) (hl : 0 < ds.length) (v : Nat) : wl.frozen? ⟨g, v, none⟩ = false := by
  obtain ⟨g', o', c', cur', e', e1, _, _, hh, _, _⟩ := ip_form h.dom hl
  simp only [Value.slice.injEq, Option.some.injEq, Addr.mk.injEq] at e1
  obtain ⟨⟨rfl, -, -⟩, -, -⟩ := e1
  exact free_at_block hh
theorem DomW.put (h : DomW w0 g cd V bx wl ds) {w1 : World} (hb : Below wl.heap.size wl w1) {v : Nat} (hv : v < ds.length) {vn : Value} {d : List Int} (hd : Fresh wl.heap.size w1 [vn] d) :
    DomW w0 g cd V bx (w1.setCell ⟨g, v, none⟩ vn) (ds.set v d) := by
  have h1 := h.step hb
  have hg : w0.heap.size ≤ g ∧ ∀ x, x ∈ bx → x.1 ≠ g := by
    obtain ⟨g', o, c, cur, e, e1, _, _, _, hA, _⟩ := ip_form h1.dom (by omega)
    simp only [Value.slice.injEq, Option.some.injEq, Addr.mk.injEq] at e1
    obtain ⟨⟨rfl, -, -⟩, -, -⟩ := e1
    exact hA
  have hs : (w1.setCell ⟨g, v, none⟩ vn).heap.size = w1.heap.size := by simp [World.setCell]
  refine ⟨?_, ?_⟩
  · refine ⟨h1.st.bel.setCell hg.1 _, by rw [hs]; exact h1.st.lo, by rw [hs]; exact Nat.le_refl _, fun x hx => ?_⟩
    have h2 := h1.st.box x hx
    refine ⟨h2.1, by rw [hs]; exact h2.2.1, ?_⟩
    rw [Below.heap_setCell _ _ _ _ (fun e => hg.2 x hx (by simpa using e))]
    exact h2.2.2
  · have h3 := ip_put (h.dom.tight.mono hb) v hv (Ip.wk hd.ip (B := fun z => wl.heap.size ≤ z) (fun k hk => hk.1)) (fun k hk hk2 => by have := hk.2; omega)
    have e : putCells w1 g (0 + v * sz (List Int)) [vn] = w1.setCell ⟨g, v, none⟩ vn := by simp [putCells, sz]
    rw [e] at h3
    refine Ip.wk h3 (fun z hz => ?_)
    rcases hz with hz | hz
    · exact hz.1
    · refine ⟨by have := h.st.lo; omega, fun x hx => ?_⟩
      have := (h.st.box x hx).2.1
      omega
end

end Go.Proofs.YtllenfkbfeanmaaGreat

