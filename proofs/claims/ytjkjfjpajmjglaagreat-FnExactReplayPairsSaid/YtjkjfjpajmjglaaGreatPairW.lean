/-
  PLAIN: the memory of a run that takes pairs away: the relations in place, the steps in a row of their own, boxes.
-/
import Derived.Test.YtjkjfjpajmjglaaGreatPairP
import Derived.Test.YtjkjfjpajmjglaaGreatArcF
namespace Go.Proofs.YtjkjfjpajmjglaaGreat
open Go.RowKit
open Rep (Rd Own sz)
set_option linter.unusedSimpArgs false
set_option linter.unusedVariables false

/-- The first world's memory is read; the relations and the steps are the run's. -/
structure PairW (w0 : World) (B0 : Nat) (vp : Value) (eS : TypeId) (bx : List (Nat × Array Value × TypeId)) (wl : World) (gs co : Nat) (s : PairS) : Prop where
  st : St w0 wl.heap.size wl bx
  b0 : B0 ≤ wl.heap.size
  lo : w0.heap.size ≤ B0
  dom : Ip (fun z => (w0.heap.size ≤ z ∧ z ≠ gs) ∧ ∀ x, x ∈ bx → x.1 ≠ z) wl [vp] s.1
  row : wl.ownsRow 0 eS 3 (.slice (some ⟨gs, 0, none⟩) s.2.length co) s.2.length (flat3 s.2)
  gs : (B0 ≤ gs ∧ gs < wl.heap.size) ∧ ∀ x, x ∈ bx → x.1 ≠ gs
/-- The block that a slice lies in is one of its own. -/
theorem ip_own {α : Type} [Rep α] {A : Nat → Prop} {w : World} {v : Value} {l : List α} (h : Ip A w [v] l) (hl : 0 < l.length) {z : Nat} (hz : v.ownBlock = some z) : A z := by
  obtain ⟨g, o, c, cur, e, rfl, _, _, _, hA, _⟩ := ip_form h hl
  simp only [Value.ownBlock, Option.some.injEq] at hz
  exact hz ▸ hA
section
variable {w0 : World} {B0 : Nat} {vp : Value} {eS : TypeId} {bx : List (Nat × Array Value × TypeId)} {wl : World} {gs co : Nat} {s : PairS}
theorem PairW.step (h : PairW w0 B0 vp eS bx wl gs co s) {w1 : World} (hb : Below wl.heap.size wl w1) : PairW w0 B0 vp eS bx w1 gs co s :=
  ⟨(h.st.step hb).up hb.size (Nat.le_refl _), Nat.le_trans h.b0 hb.size, h.lo, h.dom.mono hb, ownsRow_below h.row hb, ⟨⟨h.gs.1.1, Nat.lt_of_lt_of_le h.gs.1.2 hb.size⟩, h.gs.2⟩⟩
theorem PairW.rd (h : PairW w0 B0 vp eS bx wl gs co s) : Rd wl [vp] s.1 := h.dom.rd
theorem PairW.bel (h : PairW w0 B0 vp eS bx wl gs co s) : Below w0.heap.size w0 wl := h.st.bel
theorem PairW.box (h : PairW w0 B0 vp eS bx wl gs co s) (vs : Array Value) (ty : TypeId) : PairW w0 B0 vp eS (bx ++ [(wl.heap.size, vs, ty)]) (wl.alloc (.cells vs ty)) gs co s := by
  have hb := belowA wl (.cells vs ty)
  refine ⟨(h.st.alloc vs ty rfl).up (by simp) (Nat.le_refl _), by have := h.b0; simp; omega, h.lo, ?_, ownsRow_below h.row hb, ⟨⟨h.gs.1.1, by have := h.gs.1.2; simp; omega⟩, ?_⟩⟩
  · refine (h.dom.tight.mono hb).wk (fun z hz => ⟨hz.1.1, fun x hx => ?_⟩)
    rcases List.mem_append.1 hx with hx | hx
    · exact hz.1.2 x hx
    · rw [List.mem_singleton] at hx
      subst hx
      have := hz.2
      simp only
      omega
  · intro x hx
    rcases List.mem_append.1 hx with hx | hx
    · exact h.gs.2 x hx
    · rw [List.mem_singleton] at hx
      subst hx
      have := h.gs.1.2
      simp only
      omega
theorem PairW.sub (h : PairW w0 B0 vp eS bx wl gs co s) {bx' : List (Nat × Array Value × TypeId)} (hs : ∀ x, x ∈ bx' → x ∈ bx) : PairW w0 B0 vp eS bx' wl gs co s :=
  ⟨h.st.sub hs, h.b0, h.lo, h.dom.wk (fun z hz => ⟨hz.1, fun x hx => hz.2 x (hs x hx)⟩), h.row, ⟨h.gs.1, fun x hx => h.gs.2 x (hs x hx)⟩⟩
/-- A relation is written anew. -/
theorem PairW.cut (h : PairW w0 B0 vp eS bx wl gs co s) {w1 : World} {P : List RelT} (hl : 0 < s.1.length) (hb : ButP (fun z => vp.ownBlock = some z) wl w1)
    (hd : Ip (fun z => ((w0.heap.size ≤ z ∧ z ≠ gs) ∧ ∀ x, x ∈ bx → x.1 ≠ z) ∨ wl.heap.size ≤ z) w1 [vp] P) : PairW w0 B0 vp eS bx w1 gs co (P, s.2) := by
  have hg := fun z hz => ip_own h.dom hl (z := z) hz
  have hsz := hb.size
  have hbg := h.gs.1.2
  refine ⟨(h.st.butP hb (fun k hk => (hg k hk).1.1) (fun x hx hk => (hg _ hk).2 x hx rfl)).up hsz (Nat.le_refl _), Nat.le_trans h.b0 hsz, h.lo, ?_, ?_, ⟨⟨h.gs.1.1, by omega⟩, h.gs.2⟩⟩
  · refine hd.wk (fun z hz => ?_)
    rcases hz with hz | hz
    · exact hz
    · refine ⟨⟨by have := h.st.lo; omega, by omega⟩, fun x hx => ?_⟩
      have := (h.st.box x hx).2.1
      omega
  · exact row_frame h.row (fun k hk => hb.block k (by
      simp only [Value.ownBlock, Option.some.injEq] at hk
      omega) (fun hz => by
      simp only [Value.ownBlock, Option.some.injEq] at hk
      exact (hg k hz).1.2 hk.symm))
/-- A step is noted. -/
theorem PairW.snoc (h : PairW w0 B0 vp eS bx wl gs co s) {w1 : World} {g1 c1 : Nat} {a b c : Int} (hat : gs = g1 ∨ g1 = wl.heap.size) (hb : But [gs] wl w1) (hlt : g1 < w1.heap.size)
    (hrow : w1.ownsRow 0 eS 3 (.slice (some ⟨g1, 0, none⟩) (s.2.length + 1) c1) (s.2.length + 1) (flat3 s.2 ++ [.int .i64 a, .int .i64 b, .int .i64 c])) : PairW w0 B0 vp eS bx w1 g1 c1 (s.1, s.2 ++ [(a, b, c)]) := by
  have hsz := hb.size
  have hlo : w0.heap.size ≤ gs := Nat.le_trans h.lo h.gs.1.1
  refine ⟨(h.st.butIv hb (fun k hk => by simp at hk; omega) (fun x hx hp => by
    simp only [List.mem_singleton] at hp
    exact h.gs.2 x hx hp)).up hsz (Nat.le_refl _), Nat.le_trans h.b0 hsz, h.lo, ?_, ?_, ⟨⟨?_, hlt⟩, fun x hx => ?_⟩⟩
  · refine ((h.dom.tight).butP (hb.butP (A := fun z => z = gs) (fun k hk => by simpa using hk)) (fun z hz => hz.1.1.2)).wk (fun z hz => ⟨⟨hz.1.1.1, ?_⟩, hz.1.2⟩)
    rcases hat with h1 | h1
    · rw [← h1]; exact hz.1.1.2
    · have := hz.2; omega
  · rw [List.length_append, flat3_snoc]; exact hrow
  · rcases hat with h1 | h1
    · rw [← h1]; exact h.gs.1.1
    · rw [h1]; exact h.b0
  · rcases hat with h1 | h1
    · rw [← h1]; exact h.gs.2 x hx
    · have := (h.st.box x hx).2.1
      omega
/-- At the end: relations and steps are owned, apart from each other. -/
theorem pairW_fresh (h : PairW w0 B0 vp eS bx wl gs co s) (hI : ∀ e, e ∈ s.2 → I64 e.1 ∧ I64 e.2.1 ∧ I64 e.2.2) : Fresh w0.heap.size wl [vp, .slice (some ⟨gs, 0, none⟩) s.2.length co] s := by
  have ho := ownSl_of_row (α := Int × Int × Int) (l := s.2) (pss := List.replicate s.2.length []) h.row (by simp) (fun i hi => ⟨[], _, by simp [hi], own_step3 wl (hI _ (List.getElem_mem hi)), fun k hk => flat3_get s.2 i hi k hk⟩)
  have he : (Value.slice (some ⟨gs, 0, none⟩) s.2.length co).ownBlock.toList ++ List.flatten (List.replicate s.2.length ([] : List Nat)) = [gs] := by simp [Value.ownBlock]
  rw [he] at ho
  have hd2 : Ip (fun z => z = gs) wl [.slice (some ⟨gs, 0, none⟩) s.2.length co] s.2 := ⟨[gs], ⟨_, rfl, ho⟩, by simp, fun k hk => by simpa using hk⟩
  refine ip_cons (C := fun z => w0.heap.size ≤ z) h.dom hd2 (fun k hk => hk.1.2) (fun k hk => hk.1.1) (fun k hk => ?_)
  rw [hk]; exact Nat.le_trans h.lo h.gs.1.1
end
/-- All that a run's steps say fits. -/
theorem pairs_i64 {size : Int} {V C : Nat} {s : PairS} (h : PotP size V C s) (hV : V ≤ 10) : ∀ e, e ∈ s.2 → I64 e.1 ∧ I64 e.2.1 ∧ I64 e.2.2 := fun e he => by
  obtain ⟨h1, h2, h3⟩ := h.val e he
  exact ⟨i64_of _ (by omega) (by omega), i64_of _ (by omega) (by omega), i64_of _ (by omega) (by omega)⟩
/-- A relation of two is written into a slot of its own slice. -/
theorem ip_rel {A : Nat → Prop} {B : Nat → Prop} {w : World} {g o n c : Nat} {P : List RelT} (h : Ip A w [.slice (some ⟨g, o, none⟩) n c] P) (j : Nat) (hj : j < P.length) {v0 v1 : Value} {y : RelT} (hy : Ip B w [v0, v1] y) (hAB : ∀ k, A k → ¬ B k) :
    Ip (fun k => A k ∨ B k) ((w.setCell ⟨g, o + j * 2, none⟩ v0).setCell ⟨g, o + j * 2 + 1, none⟩ v1) [.slice (some ⟨g, o, none⟩) n c] (P.set j y) := by
  have h3 := ip_put h j hj hy hAB
  have e : putCells w g (o + j * sz RelT) [v0, v1] = (w.setCell ⟨g, o + j * 2, none⟩ v0).setCell ⟨g, o + j * 2 + 1, none⟩ v1 := by simp [putCells, sz]
  rwa [e] at h3
theorem butP_rel (w : World) (g a b : Nat) (v0 v1 : Value) {vp : Value} (hv : vp.ownBlock = some g) : ButP (fun z => vp.ownBlock = some z) w ((w.setCell ⟨g, a, none⟩ v0).setCell ⟨g, b, none⟩ v1) :=
  ⟨rfl, rfl, rfl, by simp [World.setCell], fun k hk hn => by
    have hne : k ≠ g := fun e => hn (by rw [e]; exact hv)
    rw [Below.heap_setCell _ _ _ _ (by simpa using hne), Below.heap_setCell _ _ _ _ (by simpa using hne)]⟩

/-- A slice that grows, boxes; nothing else of the first world is written. -/
structure GrowW {α : Type} [Rep α] (w0 : World) (bx : List (Nat × Array Value × TypeId)) (e : TypeId) (wl : World) (v : Value) (l : List α) : Prop where
  st : St w0 wl.heap.size wl bx
  acc : AccP (fun z => w0.heap.size ≤ z ∧ ∀ x, x ∈ bx → x.1 ≠ z) e wl v l
section
variable {α : Type} [Rep α] {w0 : World} {bx : List (Nat × Array Value × TypeId)} {e : TypeId} {wl : World} {v : Value} {l : List α}
theorem GrowW.step (h : GrowW w0 bx e wl v l) {w1 : World} (hb : Below wl.heap.size wl w1) : GrowW w0 bx e w1 v l :=
  ⟨(h.st.step hb).up hb.size (Nat.le_refl _), h.acc.mono hb⟩
theorem GrowW.box (h : GrowW w0 bx e wl v l) (vs : Array Value) (ty : TypeId) : GrowW w0 (bx ++ [(wl.heap.size, vs, ty)]) e (wl.alloc (.cells vs ty)) v l := by
  have hb := belowA wl (.cells vs ty)
  refine ⟨(h.st.alloc vs ty rfl).up (by simp) (Nat.le_refl _), ?_⟩
  refine (h.acc.tight.mono hb).wk (fun z hz => ⟨hz.1.1, fun x hx => ?_⟩)
  rcases List.mem_append.1 hx with hx | hx
  · exact hz.1.2 x hx
  · rw [List.mem_singleton] at hx
    subst hx
    have := hz.2
    simp only
    omega
theorem GrowW.sub (h : GrowW w0 bx e wl v l) {bx' : List (Nat × Array Value × TypeId)} (hs : ∀ x, x ∈ bx' → x ∈ bx) : GrowW w0 bx' e wl v l :=
  ⟨h.st.sub hs, h.acc.wk (fun z hz => ⟨hz.1, fun x hx => hz.2 x (hs x hx)⟩)⟩
theorem GrowW.snoc (h : GrowW w0 bx e wl v l) {A C : Nat → Prop} {w9 : World} {v' : Value} {l' : List α} (hA : AccP (fun k => A k ∨ C k ∨ k = wl.heap.size) e w9 v' l')
    (hB : ButP A wl w9) (hP : ∀ k, A k → w0.heap.size ≤ k ∧ ∀ x, x ∈ bx → x.1 ≠ k) (hC : ∀ k, C k → w0.heap.size ≤ k ∧ ∀ x, x ∈ bx → x.1 ≠ k) : GrowW w0 bx e w9 v' l' := by
  refine ⟨(h.st.butP hB (fun k hk => (hP k hk).1) (fun x hx hk => (hP _ hk).2 x hx rfl)).up hB.size (Nat.le_refl _), hA.wk (fun z hz => ?_)⟩
  rcases hz with hz | hz | hz
  · exact hP z hz
  · exact hC z hz
  · subst hz
    refine ⟨h.st.lo, fun x hx => ?_⟩
    have := (h.st.box x hx).2.1
    omega
theorem GrowW.fresh (h : GrowW w0 bx e wl v l) : Fresh w0.heap.size wl [v] l := h.acc.ip.fresh (fun z hz => hz.1)
theorem GrowW.bel (h : GrowW w0 bx e wl v l) : Below w0.heap.size w0 wl := h.st.bel
/-- Blocks that are newer than all boxes. -/
theorem GrowW.newer (h : GrowW w0 bx e wl v l) {k : Nat} (hk : wl.heap.size ≤ k) : w0.heap.size ≤ k ∧ ∀ x, x ∈ bx → x.1 ≠ k :=
  ⟨Nat.le_trans h.st.lo hk, fun x hx => by have := (h.st.box x hx).2.1; omega⟩
end
theorem ip_rel2 {A : Nat → Prop} {w : World} {v : Value} {k : Int} {T : List (List Int)} (hk : I64 k) (h : Ip A w [v] T) : Ip A w [.int .i64 k, v] ((k, T) : RelT) :=
  ip_cons (A := fun _ => False) (B := A) (C := A) ⟨[], ⟨rfl, rfl, hk⟩, by simp, by simp⟩ h (fun k hk => hk.elim) (fun k hk => hk.elim) (fun k hk => hk)

end Go.Proofs.YtjkjfjpajmjglaaGreat
