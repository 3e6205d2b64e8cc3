/-
  SEVERAL TEXTS IN ONE.
-/
import Derived.Test.YtllenfkbfeanmaaGreatKindSa
import Derived.Test.YtllenfkbfeanmaaGreatFailBSa
import Derived.Test.YtllenfkbfeanmaaGreatArcFBSa
import Derived.Test.YtllenfkbfeanmaaGreatPairsSa
import Derived.Test.YtllenfkbfeanmaaGreatKindSSa
import Derived.Test.YtllenfkbfeanmaaGreatArcsSSa
import Derived.Test.YtllenfkbfeanmaaGreatMakeArcsSSa

/-
  CONTRACTS: solving by a semilattice: the code of its arguments, domains with all values; the program's side.
-/
namespace Go.Proofs.YtllenfkbfeanmaaGreat
open Go.RowKit Go.Shelf Go.IntWalk
open Rep (Rd Own sz)
set_option linter.unusedSimpArgs false
set_option linter.unusedVariables false

def fullD (size V : Nat) : List (List Int) := List.replicate V (upL 0 size)
end Go.Proofs.YtllenfkbfeanmaaGreat

/-
  CONTRACT: solving by a semilattice: the program's side. (Printed by wip/gensemi.py.)
-/
namespace Go.Proofs.YtllenfkbfeanmaaGreat
open Go.RowKit Go.Shelf Go.IntWalk
open Rep (Rd Own sz)
set_option linter.unusedSimpArgs false
set_option linter.unusedVariables false

/-- Facts of a run that begins with all values. -/
structure FullFacts (t : Tmpl) (x : Inst) (sn V : Nat) : Prop where
  f : DomFacts t x (fullD sn V)
  len : (fullD sn V).length = V
  i64 : ∀ e, e ∈ (arcsF t x (fullD sn V)).2 → I64 e.1 ∧ I64 e.2.1 ∧ I64 e.2.2
  inn : InA (fun a => 0 ≤ a ∧ a ≤ t.1 - 1) V x.2.length (arcsF t x (fullD sn V))
end Go.Proofs.YtllenfkbfeanmaaGreat

/-
  CONTRACTS: solving by a semilattice: the code of its arguments, domains with all values; the reference's side.
-/
namespace Go.Proofs.YtllenfkbfeanmaaGreat
open Go.RowKit Go.Shelf Go.IntWalk
open Rep (Rd Own sz)
set_option linter.unusedSimpArgs false
set_option linter.unusedVariables false

end Go.Proofs.YtllenfkbfeanmaaGreat

/-
  CONTRACT: solving by a semilattice: the reference's side. (Printed by wip/gensemi.py.)
-/
namespace Go.Proofs.YtllenfkbfeanmaaGreat
open Go.RowKit Go.Shelf Go.IntWalk
open Rep (Rd Own sz)
set_option linter.unusedSimpArgs false
set_option linter.unusedVariables false


end Go.Proofs.YtllenfkbfeanmaaGreat

