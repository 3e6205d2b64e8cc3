/-
  PLAIN: the search for polymorphisms: value after value, each one looked at; by recursion and by going on; the lists that are looked at.
-/
import Derived.Test.YtamkfnkikiekaaaGreatTmplBRa
import Derived.Test.YtamkfnkikiekaaaGreatRowsBRa
namespace Go.Proofs.YtamkfnkikiekaaaGreat
open Go.RowKit
set_option linter.unusedSimpArgs false
set_option linter.unusedVariables false

/-- How a search ends: with a table, by the budget, or with none, after so many steps. -/
inductive PolyR where
  | hit (l : List Int)
  | out
  | dry (s : Nat)
section
variable (kind fit : List Int → Bool) (size : Nat)
end

/-- The place of a list of chosen tuples at p. -/
def cellP (size : Int) (r : RelT) (ch : List Int) (p : Nat) : Int := codeL size (ch.map (fun i => (r.2.getD i.toNat []).getD p 0))
/-- The places of the list of chosen tuples with number n. -/
def cellsL (size : Int) (m : Nat) (r : RelT) (n : Nat) : List Int := (List.range r.1.toNat).map (cellP size r (digs r.2.length m n))
def maxC (l : List Int) : Int := l.foldl max 0
def lookN (size : Int) (m k : Nat) (r : RelT) (n : Nat) : OpT := ((k : Int), cellsL size m r n)
def looksR (size : Int) (m k : Nat) (r : RelT) : List OpT := (List.range (r.2.length ^ m)).map (lookN size m k r)
def looksTo (t : Tmpl) (m : Nat) : Nat → List OpT
  | 0 => []
  | j + 1 => looksTo t m j ++ looksR t.1 m j (t.2.getD j (0, []))
def dueL (L : List OpT) (p : Nat) : List OpT := L.filter (fun l => decide (maxC l.2 = (p : Int)))
/-- What is known of a look of a valid template. -/
structure LookOk (t : Tmpl) (m : Nat) (l : OpT) : Prop where
  rel : 0 ≤ l.1 ∧ l.1 < (t.2.length : Int)
  len : l.2.length = (t.2.getD l.1.toNat (0, [])).1.toNat
  val : ∀ c, c ∈ l.2 → 0 ≤ c ∧ c < t.1 ^ m
end Go.Proofs.YtamkfnkikiekaaaGreat

