/-
  CONTRACTS: values at places; the first constraint that fails; the first relation that an operation breaks. Both sides.
-/
import Derived.Test.YtbbmadmnmlljmaaGreatArcI
import Derived.Test.YtbbmadmnmlljmaaGreatKeepS
import Derived.Test.YtbbmadmnmlljmaaGreatHas
import Derived.Test.YtbbmadmnmlljmaaGreatOwnS
namespace Go.Proofs.YtbbmadmnmlljmaaGreat
open Go.RowKit Go.Shelf Go.IntWalk
open Rep (Rd Own sz)
set_option linter.unusedSimpArgs false
set_option linter.unusedVariables false

def chosenL (vals places : List Int) : List Int := places.map (fun v => vals.getD v.toNat 0)
/-- What a right instance says of a constraint, its relation too. -/
structure ConF (t : Tmpl) (vars : Int) (c : OpT) (n : Nat) : Prop where
  rel : c.1 = (n : Int)
  lt : n < t.2.length
  inc : Inc (t.2.getD n (0, [])).2
  cnt : (t.2.getD n (0, [])).2.length ≤ 256
  sc : ∀ v, v ∈ c.2 → 0 ≤ v ∧ v < vars
  four : c.2.length ≤ 4
theorem conF_of {t : Tmpl} {x : Inst} (h : instOk t x = true) {c : OpT} (hc : c ∈ x.2) : ∃ n, ConF t x.1 c n := by
  obtain ⟨k, hk, rfl⟩ := List.getElem_of_mem hc
  obtain ⟨n, h1, h2, _, h4, h5⟩ := con_facts h hk
  have hr := (tmplOk_get (instOk_get h).1).2.2 _ (List.getElem_mem h2)
  have hg : t.2.getD n (0, []) = t.2[n] := by rw [List.getD, List.getElem?_eq_getElem h2]; rfl
  exact ⟨n, h1, h2, by rw [hg]; exact relOk_inc hr, by rw [hg]; exact (relOk_count hr).2, h4, h5⟩
def holdsC (t : Tmpl) (vals : List Int) (c : OpT) : Bool := hasT (t.2.getD c.1.toNat (0, [])).2 (chosenL vals c.2)
def failF (t : Tmpl) (x : Inst) (vals : List Int) : Int := firstI (fun c => !holdsC t vals c) x.2

end Go.Proofs.YtbbmadmnmlljmaaGreat
