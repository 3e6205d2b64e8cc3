/-
  PLAIN: the memory of a run that makes domains consistent: the domains in place, the steps in a row of their own, boxes.
-/
import Derived.Test.YtbbmadmnmlljmaaGreatArcM
import Derived.Test.YtbbmadmnmlljmaaGreatAccP
namespace Go.Proofs.YtbbmadmnmlljmaaGreat
open Go.RowKit
open Rep (Rd Own sz)
set_option linter.unusedSimpArgs false
set_option linter.unusedVariables false

def flat3 (l : List (Int × Int × Int)) : List Value := l.flatMap (fun t => [.int .i64 t.1, .int .i64 t.2.1, .int .i64 t.2.2])
theorem flat3_snoc (l : List (Int × Int × Int)) (a b c : Int) : flat3 (l ++ [(a, b, c)]) = flat3 l ++ [.int .i64 a, .int .i64 b, .int .i64 c] := by simp [flat3]
/-- The first world's memory is read; blocks of AD and those from B0 on are the run's. -/
structure ArcW (w0 : World) (AD : Nat → Prop) (B0 g cd V : Nat) (eS : TypeId) (bx : List (Nat × Array Value × TypeId)) (wl : World) (gs co : Nat) (s : ArcS) : Prop where
  st : St w0 wl.heap.size wl bx
  b0 : B0 ≤ wl.heap.size
  lo : w0.heap.size ≤ B0 ∧ (∀ z, AD z → w0.heap.size ≤ z)
  dom : Ip (fun z => ((AD z ∨ B0 ≤ z) ∧ z ≠ gs) ∧ ∀ x, x ∈ bx → x.1 ≠ z) wl [.slice (some ⟨g, 0, none⟩) V cd] s.1
  row : wl.ownsRow 0 eS 3 (.slice (some ⟨gs, 0, none⟩) s.2.length co) s.2.length (flat3 s.2)
  gs : (B0 ≤ gs ∧ gs < wl.heap.size) ∧ ∀ x, x ∈ bx → x.1 ≠ gs
section
variable {w0 : World} {AD : Nat → Prop} {B0 g cd V : Nat} {eS : TypeId} {bx : List (Nat × Array Value × TypeId)} {wl : World} {gs co : Nat} {s : ArcS}
theorem Ip.tight {α : Type} [Rep α] {A : Nat → Prop} {w : World} {vs : List Value} {x : α} (h : Ip A w vs x) : Ip (fun z => A z ∧ z < w.heap.size) w vs x := by
  obtain ⟨ps, h1, h2, h3⟩ := h
  exact ⟨ps, h1, h2, fun k hk => ⟨h3 k hk, Rep.own_lt h1 k hk⟩⟩
theorem ArcW.step (h : ArcW w0 AD B0 g cd V eS bx wl gs co s) {w1 : World} (hb : Below wl.heap.size wl w1) : ArcW w0 AD B0 g cd V eS bx w1 gs co s :=
  ⟨(h.st.step hb).up hb.size (Nat.le_refl _), Nat.le_trans h.b0 hb.size, h.lo, h.dom.mono hb, ownsRow_below h.row hb, ⟨⟨h.gs.1.1, Nat.lt_of_lt_of_le h.gs.1.2 hb.size⟩, h.gs.2⟩⟩
theorem ArcW.rd (h : ArcW w0 AD B0 g cd V eS bx wl gs co s) : Rd wl [.slice (some ⟨g, 0, none⟩) V cd] s.1 := h.dom.rd
theorem ArcW.bel (h : ArcW w0 AD B0 g cd V eS bx wl gs co s) : Below w0.heap.size w0 wl := h.st.bel
theorem ArcW.box (h : ArcW w0 AD B0 g cd V eS bx wl gs co s) (vs : Array Value) (ty : TypeId) : ArcW w0 AD B0 g cd V eS (bx ++ [(wl.heap.size, vs, ty)]) (wl.alloc (.cells vs ty)) gs co s := by
  have hb := belowA wl (.cells vs ty)
  refine ⟨(h.st.alloc vs ty rfl).up (by simp) (Nat.le_refl _), by have := h.b0; simp; omega, h.lo, ?_, ownsRow_below h.row hb, ⟨⟨h.gs.1.1, by have := h.gs.1.2; simp; omega⟩, ?_⟩⟩
  · refine (h.dom.tight.mono hb).wk (fun z hz => ⟨hz.1.1, fun x hx => ?_⟩)
    rcases List.mem_append.1 hx with hx | hx
    · exact hz.1.2 x hx
    · rw [List.mem_singleton] at hx
      subst hx
      have := hz.2
      simp only
      omega
  · intro x hx
    rcases List.mem_append.1 hx with hx | hx
    · exact h.gs.2 x hx
    · rw [List.mem_singleton] at hx
      subst hx
      have := h.gs.1.2
      simp only
      omega
theorem ArcW.sub (h : ArcW w0 AD B0 g cd V eS bx wl gs co s) {bx' : List (Nat × Array Value × TypeId)} (hs : ∀ x, x ∈ bx' → x ∈ bx) : ArcW w0 AD B0 g cd V eS bx' wl gs co s :=
  ⟨h.st.sub hs, h.b0, h.lo, h.dom.wk (fun z hz => ⟨hz.1, fun x hx => hz.2 x (hs x hx)⟩), h.row, ⟨h.gs.1, fun x hx => h.gs.2 x (hs x hx)⟩⟩
/-- A domain is written anew. -/
theorem ArcW.put (h : ArcW w0 AD B0 g cd V eS bx wl gs co s) {w1 : World} (hb : Below wl.heap.size wl w1) {v : Nat} (hv : v < s.1.length) {vn : Value} {d : List Int} (hd : Fresh wl.heap.size w1 [vn] d) (hV : s.1.length = V) :
    ArcW w0 AD B0 g cd V eS bx (w1.setCell ⟨g, v, none⟩ vn) gs co (s.1.set v d, s.2) := by
  have h1 := h.step hb
  have hg : ((AD g ∨ B0 ≤ g) ∧ g ≠ gs) ∧ ∀ x, x ∈ bx → x.1 ≠ g := by
    obtain ⟨g', o, c, cur, e, e1, _, _, _, hA, _⟩ := ip_form h1.dom (by omega)
    simp only [Value.slice.injEq, Option.some.injEq, Addr.mk.injEq] at e1
    obtain ⟨⟨rfl, -, -⟩, -, -⟩ := e1
    exact hA
  have hs : (w1.setCell ⟨g, v, none⟩ vn).heap.size = w1.heap.size := by simp [World.setCell]
  refine ⟨?_, by rw [hs]; exact h1.b0, h.lo, ?_, ?_, ⟨by rw [hs]; exact h1.gs.1, h1.gs.2⟩⟩
  · have hbg : w0.heap.size ≤ g := by
      rcases hg.1.1 with h2 | h2
      · exact h.lo.2 g h2
      · exact Nat.le_trans h.lo.1 h2
    refine ⟨h1.st.bel.setCell hbg _, by rw [hs]; exact h1.st.lo, by rw [hs]; exact Nat.le_refl _, fun x hx => ?_⟩
    have h2 := h1.st.box x hx
    refine ⟨h2.1, by rw [hs]; exact h2.2.1, ?_⟩
    rw [Below.heap_setCell _ _ _ _ (fun e => hg.2 x hx (by simpa using e))]
    exact h2.2.2
  · have h3 := ip_put (h.dom.tight.mono hb) v hv (Ip.wk hd.ip (B := fun z => wl.heap.size ≤ z) (fun k hk => hk.1)) (fun k hk hk2 => by have := hk.2; omega)
    · have e : putCells w1 g (0 + v * sz (List Int)) [vn] = w1.setCell ⟨g, v, none⟩ vn := by simp [putCells, sz]
      rw [e] at h3
      refine Ip.wk h3 (fun z hz => ?_)
      rcases hz with hz | hz
      · exact hz.1
      · refine ⟨⟨.inr (by have := h.b0; omega), by have := h.gs.1.2; omega⟩, fun x hx => ?_⟩
        have := (h.st.box x hx).2.1
        omega
  · exact row_frame h1.row (fun k hk => Below.heap_setCell _ _ _ _ (fun e => by
      simp only [Value.ownBlock, Option.some.injEq] at hk
      simp only at e
      exact hg.1.2 (by omega)))
/-- A step is noted. -/
theorem ArcW.snoc (h : ArcW w0 AD B0 g cd V eS bx wl gs co s) {w1 : World} {g1 c1 : Nat} {a b c : Int} (hat : gs = g1 ∨ g1 = wl.heap.size) (hb : But [gs] wl w1) (hlt : g1 < w1.heap.size)
    (hrow : w1.ownsRow 0 eS 3 (.slice (some ⟨g1, 0, none⟩) (s.2.length + 1) c1) (s.2.length + 1) (flat3 s.2 ++ [.int .i64 a, .int .i64 b, .int .i64 c])) : ArcW w0 AD B0 g cd V eS bx w1 g1 c1 (s.1, s.2 ++ [(a, b, c)]) := by
  have hsz := hb.size
  have hlo : w0.heap.size ≤ gs := Nat.le_trans h.lo.1 h.gs.1.1
  refine ⟨(h.st.butIv hb (fun k hk => by simp at hk; omega) (fun x hx hp => by
    simp only [List.mem_singleton] at hp
    exact h.gs.2 x hx hp)).up hsz (Nat.le_refl _), Nat.le_trans h.b0 hsz, h.lo, ?_, ?_, ⟨⟨?_, hlt⟩, fun x hx => ?_⟩⟩
  · refine ((h.dom.tight).butP (hb.butP (A := fun z => z = gs) (fun k hk => by simpa using hk)) (fun z hz => hz.1.1.2)).wk (fun z hz => ⟨⟨hz.1.1.1, ?_⟩, hz.1.2⟩)
    rcases hat with h1 | h1
    · rw [← h1]; exact hz.1.1.2
    · have := hz.2; omega
  · rw [List.length_append, flat3_snoc]; exact hrow
  · rcases hat with h1 | h1
    · rw [← h1]; exact h.gs.1.1
    · rw [h1]; exact h.b0
  · rcases hat with h1 | h1
    · rw [← h1]; exact h.gs.2 x hx
    · have := (h.st.box x hx).2.1
      omega
end

end Go.Proofs.YtbbmadmnmlljmaaGreat
