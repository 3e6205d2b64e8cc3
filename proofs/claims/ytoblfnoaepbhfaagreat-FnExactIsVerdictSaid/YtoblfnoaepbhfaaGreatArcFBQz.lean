import Derived.Test.YtoblfnoaepbhfaaGreatArcMBQz
import Derived.Test.YtoblfnoaepbhfaaGreatDomBQz
set_option linter.unusedSimpArgs false
set_option linter.unusedVariables false
namespace Go.Proofs.YtoblfnoaepbhfaaGreat
open Go.RowKit
open Rep (Rd Own sz)
def Nh (ds : List (List Int)) : Nat := (ds.map List.length).sum
def agj (t : dB) (x : Inst) (ds : List (List Int)) : wR := agh t.2 x.2 (Nh ds + 1) (ds, [])
theorem Nj {hi : Int} {l : List Int} (h : iE 0 hi l = true) : ∀ i, i < l.length → (i : Int) ≤ l.getD i 0
 | 0, hi0 => by
  simp only [iE, List.all_eq_true, List.mem_range] at h
  have h1 := h 0 hi0
  simp only [uS, Bool.and_eq_true] at h1
  have := bQ h1.1
  simpa using this.1
 | i + 1, hi1 => by
  have ih := Nj h i (by omega)
  simp only [iE, List.all_eq_true, List.mem_range] at h
  have h1 := h (i + 1) hi1
  simp only [uS, Bool.and_eq_true, Bool.or_eq_true, decide_eq_true_eq, Nat.add_sub_cancel] at h1
  have := h1.2
  omega
theorem Vu {size : Int} {l : List Int} (h : iE 0 (size - 1) l = true) (hs : size ≤ 4) : l.length ≤ 4 := by
 by_cases hl : l.length ≤ 4
 · exact hl
 have h1 := Nj h 4 (by omega)
 simp only [iE, List.all_eq_true, List.mem_range] at h
 have h2 := h 4 (by omega)
 simp only [uS, Bool.and_eq_true] at h2
 have := bQ h2.1
 omega
theorem Ry {lo hi : Int} {l : List Int} (h : iE lo hi l = true) : l.Nodup := by
 rw [Q8] at h
 simp only [Bool.and_eq_true, decide_eq_true_eq] at h
 have := (Q7 l).1 h.2
 exact this.imp (fun hab => by omega)
theorem aeR {ds : List (List Int)} {n : Nat} (h : ∀ d, d ∈ ds → d.length ≤ n) : Nh ds ≤ n * ds.length := by
 unfold Nh
 induction ds with
 | nil => simp
 | cons d ds ih =>
  have h1 := h d (by simp)
  have h2 := ih (fun e he => h e (by simp [he]))
  simp only [List.map_cons, List.sum_cons, List.length_cons, Nat.mul_add, Nat.mul_one]
  omega
structure Rz (t : dB) (x : Inst) (ds : List (List Int)) : Prop where
 inst : cu t x = true
 len : (ds.length : Int) = x.1
 ten : ds.length ≤ 10
 ok : Nc ds.length (Nh ds) (ds, [])
 forty : Nh ds ≤ 40
 four : ∀ d, d ∈ ds → d.length ≤ 4
theorem Nk {t : dB} {x : Inst} {ds : List (List Int)} (h : mZ t x ds = true) : Rz t x ds := by
 simp only [mZ, Bool.and_eq_true, decide_eq_true_eq, List.all_eq_true] at h
 obtain ⟨h1, h2, h3⟩ := h
 have h4 := (aX h1).2.1
 have h5 := (dV (aX h1).1).1
 have h6 : ∀ d, d ∈ ds → d.length ≤ 4 := fun d hd => Vu (h3 d hd) h5.2
 have h7 := aeR h6
 refine ⟨h1, h2, by omega, ⟨rfl, fun d hd => by have := h6 d hd; omega, fun d hd => Ry (h3 d hd), by simp [Nh]⟩, by omega, h6⟩
structure InA (P : Int → Prop) (V K : Nat) (s : wR) : Prop where
 len : s.1.length = V
 val : ∀ d, d ∈ s.1 → ∀ a, a ∈ d → P a
 step : ∀ e, e ∈ s.2 → (∃ v : Nat, e.1 = (v : Int) ∧ v < V) ∧ P e.2.1 ∧ ∃ k : Nat, e.2.2 = (k : Int) ∧ k < K
section
variable {P : Int → Prop} {V K : Nat}
end
open Go.Shelf Go.IntWalk
theorem Nl {α : Type} [Rep α] {A : Nat → Prop} {e : TypeId} {w : World} {v : Value} {l : List α} (h : bM A e w v l) (hl : 0 < l.length) : ∃ g c, v = .slice (some ⟨g, 0, none⟩) l.length c := by
 obtain ⟨xs, cZ, h1, _⟩ := h
 rcases h1.2 with ⟨rfl, h0⟩ | ⟨g, cap, cur, rfl, _⟩
 · omega
 exact ⟨g, cap, rfl⟩
def lY (ts : List (List Int)) (sc : List Int) (ds : List (List Int)) (v a : Int) (p : Nat) : Bool := decide (sc.getD p 0 = v) && !EM ts sc ds p a
def ou (t : dB) (x : Inst) (ds : List (List Int)) (s : Int × Int × Int) : Bool := (inB s.1 0 (x.1 - 1) && inB s.2.2 0 ((x.2.length : Int) - 1)) && nS (ds.getD s.1.toNat []) s.2.1
def abL (rs : List bH) (c : nI) (ds : List (List Int)) (v a : Int) : Bool := (List.range c.2.length).any (lY (rs.getD c.1.toNat (0, [])).2 c.2 ds v a)
def nT (t : dB) (x : Inst) (ds : List (List Int)) (s : Int × Int × Int) : Bool := ou t x ds s && abL t.2 (x.2.getD s.2.2.toNat (0, [])) ds s.1 s.2.1
def aeS (ds : List (List Int)) (s : Int × Int × Int) : List (List Int) := ds.set s.1.toNat ((ds.getD s.1.toNat []).filter (fun x => x != s.2.1))
def kW (t : dB) (x : Inst) : List (Int × Int × Int) → Nat → List (List Int) → List (List Int) × Int × Int
 | [], _, ds => (ds, 0, 0)
 | s :: l, i, ds => if nT t x ds s then kW t x l (i + 1) (aeS ds s) else ([], (i : Int), 8)
def eX (t : dB) (x : Inst) (ds : List (List Int)) (steps : List (Int × Int × Int)) : List (List Int) × Int × Int := if mZ t x ds then kW t x steps 0 ds else ([], 0, 1)
theorem G6 {f : Nat → Bool} {n : Nat} (h : ∀ p, p < n → f p = false) : (List.range n).any f = false := by
 rw [List.any_eq_false]
 intro p hp
 rw [h p (List.mem_range.1 hp)]
 decide
theorem G7 {f : Nat → Bool} {n p : Nat} (hp : p < n) (h : f p = true) : (List.range n).any f = true := List.any_eq_true.2 ⟨p, List.mem_range.2 hp, h⟩
structure FK (V : Nat) (ds : List (List Int)) : Prop where
 len : ds.length = V
 small : ∀ d, d ∈ ds → d.length ≤ 1048576
theorem XM {V : Nat} {ds : List (List Int)} {s : Int × Int × Int} (h : FK V ds) (hs : s.1.toNat < ds.length) : FK V (aeS ds s) := by
 have hg : ds.getD s.1.toNat [] = ds[s.1.toNat] := by rw [List.getD, List.getElem?_eq_getElem hs]; rfl
 refine ⟨by simp [aeS, h.len], fun d hd => ?_⟩
 rcases List.mem_or_eq_of_mem_set hd with h1 | rfl
 · exact h.small d h1
 rw [hg]
 exact Nat.le_trans (List.length_filter_le _ _) (h.small _ (List.getElem_mem hs))
structure vI (w0 : World) (g cd V : Nat) (bx : List (Nat × Array Value × TypeId)) (wl : World) (ds : List (List Int)) : Prop where
 st : St w0 wl.heap.size wl bx
 dom : Ip (fun z => w0.heap.size ≤ z ∧ ∀ x, x ∈ bx → x.1 ≠ z) wl [.slice (some ⟨g, 0, none⟩) V cd] ds
section
variable {w0 : World} {g cd V : Nat} {bx : List (Nat × Array Value × TypeId)} {wl : World} {ds : List (List Int)}
theorem vI.step (h : vI w0 g cd V bx wl ds) {w1 : World} (hb : Below wl.heap.size wl w1) : vI w0 g cd V bx w1 ds :=
 ⟨(h.st.step hb).up hb.size (Nat.le_refl _), h.dom.mono hb⟩
theorem vI.rd (h : vI w0 g cd V bx wl ds) : Rd wl [.slice (some ⟨g, 0, none⟩) V cd] ds := h.dom.rd
theorem vI.bel (h : vI w0 g cd V bx wl ds) : Below w0.heap.size w0 wl := h.st.bel
theorem vI.box (h : vI w0 g cd V bx wl ds) (vs : Array Value) (ty : TypeId) : vI w0 g cd V (bx ++ [(wl.heap.size, vs, ty)]) (wl.alloc (.cells vs ty)) ds := by
 have hb := aB wl (.cells vs ty)
 refine ⟨(h.st.alloc vs ty rfl).up (by simp) (Nat.le_refl _), ?_⟩
 refine (h.dom.tight.mono hb).wk (fun z hz => ⟨hz.1.1, fun x hx => ?_⟩)
 rcases List.mem_append.1 hx with hx | hx
 · exact hz.1.2 x hx
 rw [List.mem_singleton] at hx
 subst hx
 have := hz.2
 simp only
 omega
theorem vI.sub (h : vI w0 g cd V bx wl ds) {bx' : List (Nat × Array Value × TypeId)} (hs : ∀ x, x ∈ bx' → x ∈ bx) : vI w0 g cd V bx' wl ds :=
 ⟨h.st.sub hs, h.dom.wk (fun z hz => ⟨hz.1, fun x hx => hz.2 x (hs x hx)⟩)⟩
theorem vI.free (h : vI w0 g cd V bx wl ds) (hl : 0 < ds.length) (v : Nat) : wl.frozen? ⟨g, v, none⟩ = false := by
 obtain ⟨g', o', c', cur', e', e1, _, _, hh, _, _⟩ := vP h.dom hl
 simp only [Value.slice.injEq, Option.some.injEq, Addr.mk.injEq] at e1
 obtain ⟨⟨rfl, -, -⟩, -, -⟩ := e1
 exact aO hh
theorem vI.put (h : vI w0 g cd V bx wl ds) {w1 : World} (hb : Below wl.heap.size wl w1) {v : Nat} (hv : v < ds.length) {vn : Value} {d : List Int} (hd : aQ wl.heap.size w1 [vn] d) :
 vI w0 g cd V bx (w1.setCell ⟨g, v, none⟩ vn) (ds.set v d) := by
 have h1 := h.step hb
 have hg : w0.heap.size ≤ g ∧ ∀ x, x ∈ bx → x.1 ≠ g := by
  obtain ⟨g', o, c, cur, e, e1, _, _, _, hA, _⟩ := vP h1.dom (by omega)
  simp only [Value.slice.injEq, Option.some.injEq, Addr.mk.injEq] at e1
  obtain ⟨⟨rfl, -, -⟩, -, -⟩ := e1
  exact hA
 have hs : (w1.setCell ⟨g, v, none⟩ vn).heap.size = w1.heap.size := by simp [World.setCell]
 refine ⟨?_, ?_⟩
 · refine ⟨h1.st.bel.setCell hg.1 _, by rw [hs]; exact h1.st.lo, by rw [hs]; exact Nat.le_refl _, fun x hx => ?_⟩
   have h2 := h1.st.box x hx
   refine ⟨h2.1, by rw [hs]; exact h2.2.1, ?_⟩
   rw [Below.heap_setCell _ _ _ _ (fun e => hg.2 x hx (by simpa using e))]
   exact h2.2.2
 have h3 := NZ (h.dom.tight.mono hb) v hv (Ip.wk hd.ip (B := fun z => wl.heap.size ≤ z) (fun k hk => hk.1)) (fun k hk hk2 => by have := hk.2; omega)
 have e : putCells w1 g (0 + v * sz (List Int)) [vn] = w1.setCell ⟨g, v, none⟩ vn := by simp [putCells, sz]
 rw [e] at h3
 refine Ip.wk h3 (fun z hz => ?_)
 rcases hz with hz | hz
 · exact hz.1
 refine ⟨by have := h.st.lo; omega, fun x hx => ?_⟩
 have := (h.st.box x hx).2.1
 omega
end
end Go.Proofs.YtoblfnoaepbhfaaGreat
