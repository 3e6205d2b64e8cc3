/-
  No cell of these rows narrows 'for every input' (looked for: loops, veiled, ifaces, maps, wideKeys, modest, calm, conditions, laid).
  DERIVED. THE GIVEN ROWS OF THIS SEAT. 12 by the template 'for every input the law returns true; each argument reads behind the call as it read before'; 0 by the template 'total and deterministic' (their statements: YtkbeihkjhmillaaTotals.lean).
  GIVEN WITH THE SEED: the statements are not yours to turn. If you find one false, say at which input.
  Laid BY PROGRAM, IN A SANDBOX (cutbox-rows.mjs): the forced cells as the released guide's own fill.sh prints them over the translation 3e5653f52e2a9bee… (all of the seat's roots in one cut). By AI agents, Wed Nov 11 2026. No macro, syntax, notation, axiom, sorry.
-/
import Derived.Test.YtkbeihkjhmillaaChecked
import GoSem.Claim
import GoSem.ClaimJoined
import GoSem.ClaimMapViews
import Derived.JoinedTies
import Derived.KernelRfl
namespace Go.Proofs.Ytkbeihkjhmillaa
/- THE CELL 'sum', in the pinned program and in every row, IS THE sha256 OF THE DUMP (.gsa) THAT YtkbeihkjhmillaaProg.lean LOADS. Nothing in Lean hashes anything: it is a label: what it is worth is what the hold of that sum in a sandbox is worth. -/
noncomputable def Try.pinned : Pinned := { name := "ytkbeihkjhmillaa", sum := "3e5653f52e2a9beee5faadd2e0e90edd48e3a278dd792cb1388e7afc30bd4bad", checked := Try.checked }
namespace Rows
def none {H : Type} : Left H := { results := [], args := [] }

/-- 'laws.FnExactHoldsIn': WHATEVER THE INPUT: true; the input reads as it did. -/
def fnExactHoldsInSpec : ChangeSpec := { name := "fnExactHoldsIn", fn := fun _ => fun
  | [d1, d2] => { results := [.lit (.bool true)], args := [d1, d2] }
  | _ => none }
def fnExactHoldsInRow : OpenClaim := { program := "ytkbeihkjhmillaa", sum := "3e5653f52e2a9beee5faadd2e0e90edd48e3a278dd792cb1388e7afc30bd4bad", func := "loop.example/g01085/laws.FnExactHoldsIn", spec := "fnExactHoldsIn", unfollowed := true, recurses := true, apart := false }
def FnExactHoldsInSaid : Prop := fnExactHoldsInRow.holds Try.pinned (OpenSpec.ofChange fnExactHoldsInSpec)

/-- ITS FALSE NEIGHBOUR: 'it returns false'. Refute it at one input. -/
def fnExactHoldsInWrong : ChangeSpec := { name := "fnExactHoldsIn", fn := fun _ => fun
  | [d1, d2] => { results := [.lit (.bool false)], args := [d1, d2] }
  | _ => none }
def FnExactHoldsInWrongFalsely : Prop := fnExactHoldsInRow.holds Try.pinned (OpenSpec.ofChange fnExactHoldsInWrong)

/-- 'laws.FnExactIsRefutation': WHATEVER THE INPUT: true; the input reads as it did. -/
def fnExactIsRefutationSpec : ChangeSpec := { name := "fnExactIsRefutation", fn := fun _ => fun
  | [d1, d2] => { results := [.lit (.bool true)], args := [d1, d2] }
  | _ => none }
def fnExactIsRefutationRow : OpenClaim := { program := "ytkbeihkjhmillaa", sum := "3e5653f52e2a9beee5faadd2e0e90edd48e3a278dd792cb1388e7afc30bd4bad", func := "loop.example/g01085/laws.FnExactIsRefutation", spec := "fnExactIsRefutation", unfollowed := true, recurses := true, apart := false }
def FnExactIsRefutationSaid : Prop := fnExactIsRefutationRow.holds Try.pinned (OpenSpec.ofChange fnExactIsRefutationSpec)

/-- ITS FALSE NEIGHBOUR: 'it returns false'. Refute it at one input. -/
def fnExactIsRefutationWrong : ChangeSpec := { name := "fnExactIsRefutation", fn := fun _ => fun
  | [d1, d2] => { results := [.lit (.bool false)], args := [d1, d2] }
  | _ => none }
def FnExactIsRefutationWrongFalsely : Prop := fnExactIsRefutationRow.holds Try.pinned (OpenSpec.ofChange fnExactIsRefutationWrong)

/-- 'laws.FnExactRankOfSystem': WHATEVER THE INPUT: true; the input reads as it did. -/
def fnExactRankOfSystemSpec : ChangeSpec := { name := "fnExactRankOfSystem", fn := fun _ => fun
  | [d] => { results := [.lit (.bool true)], args := [d] }
  | _ => none }
def fnExactRankOfSystemRow : OpenClaim := { program := "ytkbeihkjhmillaa", sum := "3e5653f52e2a9beee5faadd2e0e90edd48e3a278dd792cb1388e7afc30bd4bad", func := "loop.example/g01085/laws.FnExactRankOfSystem", spec := "fnExactRankOfSystem", unfollowed := true, recurses := true, apart := false }
def FnExactRankOfSystemSaid : Prop := fnExactRankOfSystemRow.holds Try.pinned (OpenSpec.ofChange fnExactRankOfSystemSpec)

/-- ITS FALSE NEIGHBOUR: 'it returns false'. Refute it at one input. -/
def fnExactRankOfSystemWrong : ChangeSpec := { name := "fnExactRankOfSystem", fn := fun _ => fun
  | [d] => { results := [.lit (.bool false)], args := [d] }
  | _ => none }
def FnExactRankOfSystemWrongFalsely : Prop := fnExactRankOfSystemRow.holds Try.pinned (OpenSpec.ofChange fnExactRankOfSystemWrong)

/-- 'laws.FnExactRefuteSystem': WHATEVER THE INPUT: true; the input reads as it did. -/
def fnExactRefuteSystemSpec : ChangeSpec := { name := "fnExactRefuteSystem", fn := fun _ => fun
  | [d] => { results := [.lit (.bool true)], args := [d] }
  | _ => none }
def fnExactRefuteSystemRow : OpenClaim := { program := "ytkbeihkjhmillaa", sum := "3e5653f52e2a9beee5faadd2e0e90edd48e3a278dd792cb1388e7afc30bd4bad", func := "loop.example/g01085/laws.FnExactRefuteSystem", spec := "fnExactRefuteSystem", unfollowed := true, recurses := true, apart := false }
def FnExactRefuteSystemSaid : Prop := fnExactRefuteSystemRow.holds Try.pinned (OpenSpec.ofChange fnExactRefuteSystemSpec)

/-- ITS FALSE NEIGHBOUR: 'it returns false'. Refute it at one input. -/
def fnExactRefuteSystemWrong : ChangeSpec := { name := "fnExactRefuteSystem", fn := fun _ => fun
  | [d] => { results := [.lit (.bool false)], args := [d] }
  | _ => none }
def FnExactRefuteSystemWrongFalsely : Prop := fnExactRefuteSystemRow.holds Try.pinned (OpenSpec.ofChange fnExactRefuteSystemWrong)

/-- 'laws.FnExactCountAnswers': WHATEVER THE INPUT: true; the input reads as it did. -/
def fnExactCountAnswersSpec : ChangeSpec := { name := "fnExactCountAnswers", fn := fun _ => fun
  | [d] => { results := [.lit (.bool true)], args := [d] }
  | _ => none }
def fnExactCountAnswersRow : OpenClaim := { program := "ytkbeihkjhmillaa", sum := "3e5653f52e2a9beee5faadd2e0e90edd48e3a278dd792cb1388e7afc30bd4bad", func := "loop.example/g01085/laws.FnExactCountAnswers", spec := "fnExactCountAnswers", unfollowed := true, recurses := true, apart := false }
def FnExactCountAnswersSaid : Prop := fnExactCountAnswersRow.holds Try.pinned (OpenSpec.ofChange fnExactCountAnswersSpec)

/-- ITS FALSE NEIGHBOUR: 'it returns false'. Refute it at one input. -/
def fnExactCountAnswersWrong : ChangeSpec := { name := "fnExactCountAnswers", fn := fun _ => fun
  | [d] => { results := [.lit (.bool false)], args := [d] }
  | _ => none }
def FnExactCountAnswersWrongFalsely : Prop := fnExactCountAnswersRow.holds Try.pinned (OpenSpec.ofChange fnExactCountAnswersWrong)

/-- 'laws.FnExactSolveSystem': WHATEVER THE INPUT: true; the input reads as it did. -/
def fnExactSolveSystemSpec : ChangeSpec := { name := "fnExactSolveSystem", fn := fun _ => fun
  | [d] => { results := [.lit (.bool true)], args := [d] }
  | _ => none }
def fnExactSolveSystemRow : OpenClaim := { program := "ytkbeihkjhmillaa", sum := "3e5653f52e2a9beee5faadd2e0e90edd48e3a278dd792cb1388e7afc30bd4bad", func := "loop.example/g01085/laws.FnExactSolveSystem", spec := "fnExactSolveSystem", unfollowed := true, recurses := true, apart := false }
def FnExactSolveSystemSaid : Prop := fnExactSolveSystemRow.holds Try.pinned (OpenSpec.ofChange fnExactSolveSystemSpec)

/-- ITS FALSE NEIGHBOUR: 'it returns false'. Refute it at one input. -/
def fnExactSolveSystemWrong : ChangeSpec := { name := "fnExactSolveSystem", fn := fun _ => fun
  | [d] => { results := [.lit (.bool false)], args := [d] }
  | _ => none }
def FnExactSolveSystemWrongFalsely : Prop := fnExactSolveSystemRow.holds Try.pinned (OpenSpec.ofChange fnExactSolveSystemWrong)

/-- 'laws.FnExactFollows': WHATEVER THE INPUT: true; the input reads as it did. -/
def fnExactFollowsSpec : ChangeSpec := { name := "fnExactFollows", fn := fun _ => fun
  | [d1, d2] => { results := [.lit (.bool true)], args := [d1, d2] }
  | _ => none }
def fnExactFollowsRow : OpenClaim := { program := "ytkbeihkjhmillaa", sum := "3e5653f52e2a9beee5faadd2e0e90edd48e3a278dd792cb1388e7afc30bd4bad", func := "loop.example/g01085/laws.FnExactFollows", spec := "fnExactFollows", unfollowed := true, recurses := true, apart := false }
def FnExactFollowsSaid : Prop := fnExactFollowsRow.holds Try.pinned (OpenSpec.ofChange fnExactFollowsSpec)

/-- ITS FALSE NEIGHBOUR: 'it returns false'. Refute it at one input. -/
def fnExactFollowsWrong : ChangeSpec := { name := "fnExactFollows", fn := fun _ => fun
  | [d1, d2] => { results := [.lit (.bool false)], args := [d1, d2] }
  | _ => none }
def FnExactFollowsWrongFalsely : Prop := fnExactFollowsRow.holds Try.pinned (OpenSpec.ofChange fnExactFollowsWrong)

/-- 'laws.FnExactReduceSystem': WHATEVER THE INPUT: true; the input reads as it did. -/
def fnExactReduceSystemSpec : ChangeSpec := { name := "fnExactReduceSystem", fn := fun _ => fun
  | [d] => { results := [.lit (.bool true)], args := [d] }
  | _ => none }
def fnExactReduceSystemRow : OpenClaim := { program := "ytkbeihkjhmillaa", sum := "3e5653f52e2a9beee5faadd2e0e90edd48e3a278dd792cb1388e7afc30bd4bad", func := "loop.example/g01085/laws.FnExactReduceSystem", spec := "fnExactReduceSystem", unfollowed := true, recurses := true, apart := false }
def FnExactReduceSystemSaid : Prop := fnExactReduceSystemRow.holds Try.pinned (OpenSpec.ofChange fnExactReduceSystemSpec)

/-- ITS FALSE NEIGHBOUR: 'it returns false'. Refute it at one input. -/
def fnExactReduceSystemWrong : ChangeSpec := { name := "fnExactReduceSystem", fn := fun _ => fun
  | [d] => { results := [.lit (.bool false)], args := [d] }
  | _ => none }
def FnExactReduceSystemWrongFalsely : Prop := fnExactReduceSystemRow.holds Try.pinned (OpenSpec.ofChange fnExactReduceSystemWrong)

/-- 'laws.FnExactDerivationOf': WHATEVER THE INPUT: true; the input reads as it did. -/
def fnExactDerivationOfSpec : ChangeSpec := { name := "fnExactDerivationOf", fn := fun _ => fun
  | [d1, d2] => { results := [.lit (.bool true)], args := [d1, d2] }
  | _ => none }
def fnExactDerivationOfRow : OpenClaim := { program := "ytkbeihkjhmillaa", sum := "3e5653f52e2a9beee5faadd2e0e90edd48e3a278dd792cb1388e7afc30bd4bad", func := "loop.example/g01085/laws.FnExactDerivationOf", spec := "fnExactDerivationOf", unfollowed := true, recurses := true, apart := false }
def FnExactDerivationOfSaid : Prop := fnExactDerivationOfRow.holds Try.pinned (OpenSpec.ofChange fnExactDerivationOfSpec)

/-- ITS FALSE NEIGHBOUR: 'it returns false'. Refute it at one input. -/
def fnExactDerivationOfWrong : ChangeSpec := { name := "fnExactDerivationOf", fn := fun _ => fun
  | [d1, d2] => { results := [.lit (.bool false)], args := [d1, d2] }
  | _ => none }
def FnExactDerivationOfWrongFalsely : Prop := fnExactDerivationOfRow.holds Try.pinned (OpenSpec.ofChange fnExactDerivationOfWrong)

/-- 'laws.FnExactRelOfSystem': WHATEVER THE INPUT: true; the input reads as it did. -/
def fnExactRelOfSystemSpec : ChangeSpec := { name := "fnExactRelOfSystem", fn := fun _ => fun
  | [d] => { results := [.lit (.bool true)], args := [d] }
  | _ => none }
def fnExactRelOfSystemRow : OpenClaim := { program := "ytkbeihkjhmillaa", sum := "3e5653f52e2a9beee5faadd2e0e90edd48e3a278dd792cb1388e7afc30bd4bad", func := "loop.example/g01085/laws.FnExactRelOfSystem", spec := "fnExactRelOfSystem", unfollowed := true, recurses := true, apart := false }
def FnExactRelOfSystemSaid : Prop := fnExactRelOfSystemRow.holds Try.pinned (OpenSpec.ofChange fnExactRelOfSystemSpec)

/-- ITS FALSE NEIGHBOUR: 'it returns false'. Refute it at one input. -/
def fnExactRelOfSystemWrong : ChangeSpec := { name := "fnExactRelOfSystem", fn := fun _ => fun
  | [d] => { results := [.lit (.bool false)], args := [d] }
  | _ => none }
def FnExactRelOfSystemWrongFalsely : Prop := fnExactRelOfSystemRow.holds Try.pinned (OpenSpec.ofChange fnExactRelOfSystemWrong)

/-- 'laws.FnDerived': WHATEVER THE INPUT: true; the input reads as it did. -/
def fnDerivedSpec : ChangeSpec := { name := "fnDerived", fn := fun _ => fun
  | [d1, d2] => { results := [.lit (.bool true)], args := [d1, d2] }
  | _ => none }
def fnDerivedRow : OpenClaim := { program := "ytkbeihkjhmillaa", sum := "3e5653f52e2a9beee5faadd2e0e90edd48e3a278dd792cb1388e7afc30bd4bad", func := "loop.example/g01085/laws.FnDerived", spec := "fnDerived", unfollowed := true, recurses := true, apart := false }
def FnDerivedSaid : Prop := fnDerivedRow.holds Try.pinned (OpenSpec.ofChange fnDerivedSpec)

/-- ITS FALSE NEIGHBOUR: 'it returns false'. Refute it at one input. -/
def fnDerivedWrong : ChangeSpec := { name := "fnDerived", fn := fun _ => fun
  | [d1, d2] => { results := [.lit (.bool false)], args := [d1, d2] }
  | _ => none }
def FnDerivedWrongFalsely : Prop := fnDerivedRow.holds Try.pinned (OpenSpec.ofChange fnDerivedWrong)

/-- 'laws.FnExactAnswersOf': WHATEVER THE INPUT: true; the input reads as it did. -/
def fnExactAnswersOfSpec : ChangeSpec := { name := "fnExactAnswersOf", fn := fun _ => fun
  | [d] => { results := [.lit (.bool true)], args := [d] }
  | _ => none }
def fnExactAnswersOfRow : OpenClaim := { program := "ytkbeihkjhmillaa", sum := "3e5653f52e2a9beee5faadd2e0e90edd48e3a278dd792cb1388e7afc30bd4bad", func := "loop.example/g01085/laws.FnExactAnswersOf", spec := "fnExactAnswersOf", unfollowed := true, recurses := true, apart := false }
def FnExactAnswersOfSaid : Prop := fnExactAnswersOfRow.holds Try.pinned (OpenSpec.ofChange fnExactAnswersOfSpec)

/-- ITS FALSE NEIGHBOUR: 'it returns false'. Refute it at one input. -/
def fnExactAnswersOfWrong : ChangeSpec := { name := "fnExactAnswersOf", fn := fun _ => fun
  | [d] => { results := [.lit (.bool false)], args := [d] }
  | _ => none }
def FnExactAnswersOfWrongFalsely : Prop := fnExactAnswersOfRow.holds Try.pinned (OpenSpec.ofChange fnExactAnswersOfWrong)

/- THE SECOND FORM. 'bulk': how many values and letters a reading holds, each counted each time it is reached (what is shared counts as often as it is met; a slice's spare places count too). A statement '..UptoSaid' is the law's where the arguments, and the package variables that the reading takes, are together of bulk at most 1048576: NARROWER than '..Said'. Prove '..Said' where nothing that the law and all that it calls make is longer than what came in: it says more and counts as full. Else prove '..UptoSaid'. A law counts once. -/
mutual
def uptoBulk {H : Type} : DataW H → Nat
  | .lit (.string bytes) => bytes.length + 1
  | .lit _ => 1
  | .nil => 1
  | .ptr d => uptoBulk d + 1
  | .slice elems spare => uptoBulkAll elems + uptoBulkAll spare + 1
  | .agg parts => uptoBulkAll parts + 1
  | .iface _ d => uptoBulk d + 1
  | .map entries => uptoBulkEntries entries + 1
  | .held _ => 1
def uptoBulkAll {H : Type} : List (DataW H) → Nat
  | [] => 0
  | d :: r => uptoBulk d + uptoBulkAll r
def uptoBulkEntries {H : Type} : List (Lit × DataW H) → Nat
  | [] => 0
  | x :: r => uptoBulkEntry x + uptoBulkEntries r
def uptoBulkEntry {H : Type} : Lit × DataW H → Nat
  | (.string bytes, d) => bytes.length + uptoBulk d + 1
  | (_, d) => uptoBulk d + 1
 end
def uptoSmall : (H : Type) → List (DataW H) → Bool := fun _ ds => decide (uptoBulkAll ds ≤ 1048576)
def OpenSpec.upto (s : _root_.Go.ChangeSpec) : _root_.Go.OpenSpec := { _root_.Go.OpenSpec.ofChange s with cond := some uptoSmall }

/-- 'laws.FnExactHoldsIn', WHERE WHAT IT READS IS OF BULK AT MOST 1048576: true; the input reads as it did. -/
def fnExactHoldsInUptoRow : OpenClaim := { program := "ytkbeihkjhmillaa", sum := "3e5653f52e2a9beee5faadd2e0e90edd48e3a278dd792cb1388e7afc30bd4bad", func := "loop.example/g01085/laws.FnExactHoldsIn", spec := "fnExactHoldsIn", unfollowed := true, recurses := true, apart := false, narrowed := true }
def FnExactHoldsInUptoSaid : Prop := fnExactHoldsInUptoRow.holds Try.pinned (OpenSpec.upto fnExactHoldsInSpec)

/-- 'laws.FnExactIsRefutation', WHERE WHAT IT READS IS OF BULK AT MOST 1048576: true; the input reads as it did. -/
def fnExactIsRefutationUptoRow : OpenClaim := { program := "ytkbeihkjhmillaa", sum := "3e5653f52e2a9beee5faadd2e0e90edd48e3a278dd792cb1388e7afc30bd4bad", func := "loop.example/g01085/laws.FnExactIsRefutation", spec := "fnExactIsRefutation", unfollowed := true, recurses := true, apart := false, narrowed := true }
def FnExactIsRefutationUptoSaid : Prop := fnExactIsRefutationUptoRow.holds Try.pinned (OpenSpec.upto fnExactIsRefutationSpec)

/-- 'laws.FnExactRankOfSystem', WHERE WHAT IT READS IS OF BULK AT MOST 1048576: true; the input reads as it did. -/
def fnExactRankOfSystemUptoRow : OpenClaim := { program := "ytkbeihkjhmillaa", sum := "3e5653f52e2a9beee5faadd2e0e90edd48e3a278dd792cb1388e7afc30bd4bad", func := "loop.example/g01085/laws.FnExactRankOfSystem", spec := "fnExactRankOfSystem", unfollowed := true, recurses := true, apart := false, narrowed := true }
def FnExactRankOfSystemUptoSaid : Prop := fnExactRankOfSystemUptoRow.holds Try.pinned (OpenSpec.upto fnExactRankOfSystemSpec)

/-- 'laws.FnExactRefuteSystem', WHERE WHAT IT READS IS OF BULK AT MOST 1048576: true; the input reads as it did. -/
def fnExactRefuteSystemUptoRow : OpenClaim := { program := "ytkbeihkjhmillaa", sum := "3e5653f52e2a9beee5faadd2e0e90edd48e3a278dd792cb1388e7afc30bd4bad", func := "loop.example/g01085/laws.FnExactRefuteSystem", spec := "fnExactRefuteSystem", unfollowed := true, recurses := true, apart := false, narrowed := true }
def FnExactRefuteSystemUptoSaid : Prop := fnExactRefuteSystemUptoRow.holds Try.pinned (OpenSpec.upto fnExactRefuteSystemSpec)

/-- 'laws.FnExactCountAnswers', WHERE WHAT IT READS IS OF BULK AT MOST 1048576: true; the input reads as it did. -/
def fnExactCountAnswersUptoRow : OpenClaim := { program := "ytkbeihkjhmillaa", sum := "3e5653f52e2a9beee5faadd2e0e90edd48e3a278dd792cb1388e7afc30bd4bad", func := "loop.example/g01085/laws.FnExactCountAnswers", spec := "fnExactCountAnswers", unfollowed := true, recurses := true, apart := false, narrowed := true }
def FnExactCountAnswersUptoSaid : Prop := fnExactCountAnswersUptoRow.holds Try.pinned (OpenSpec.upto fnExactCountAnswersSpec)

/-- 'laws.FnExactSolveSystem', WHERE WHAT IT READS IS OF BULK AT MOST 1048576: true; the input reads as it did. -/
def fnExactSolveSystemUptoRow : OpenClaim := { program := "ytkbeihkjhmillaa", sum := "3e5653f52e2a9beee5faadd2e0e90edd48e3a278dd792cb1388e7afc30bd4bad", func := "loop.example/g01085/laws.FnExactSolveSystem", spec := "fnExactSolveSystem", unfollowed := true, recurses := true, apart := false, narrowed := true }
def FnExactSolveSystemUptoSaid : Prop := fnExactSolveSystemUptoRow.holds Try.pinned (OpenSpec.upto fnExactSolveSystemSpec)

/-- 'laws.FnExactFollows', WHERE WHAT IT READS IS OF BULK AT MOST 1048576: true; the input reads as it did. -/
def fnExactFollowsUptoRow : OpenClaim := { program := "ytkbeihkjhmillaa", sum := "3e5653f52e2a9beee5faadd2e0e90edd48e3a278dd792cb1388e7afc30bd4bad", func := "loop.example/g01085/laws.FnExactFollows", spec := "fnExactFollows", unfollowed := true, recurses := true, apart := false, narrowed := true }
def FnExactFollowsUptoSaid : Prop := fnExactFollowsUptoRow.holds Try.pinned (OpenSpec.upto fnExactFollowsSpec)

/-- 'laws.FnExactReduceSystem', WHERE WHAT IT READS IS OF BULK AT MOST 1048576: true; the input reads as it did. -/
def fnExactReduceSystemUptoRow : OpenClaim := { program := "ytkbeihkjhmillaa", sum := "3e5653f52e2a9beee5faadd2e0e90edd48e3a278dd792cb1388e7afc30bd4bad", func := "loop.example/g01085/laws.FnExactReduceSystem", spec := "fnExactReduceSystem", unfollowed := true, recurses := true, apart := false, narrowed := true }
def FnExactReduceSystemUptoSaid : Prop := fnExactReduceSystemUptoRow.holds Try.pinned (OpenSpec.upto fnExactReduceSystemSpec)

/-- 'laws.FnExactDerivationOf', WHERE WHAT IT READS IS OF BULK AT MOST 1048576: true; the input reads as it did. -/
def fnExactDerivationOfUptoRow : OpenClaim := { program := "ytkbeihkjhmillaa", sum := "3e5653f52e2a9beee5faadd2e0e90edd48e3a278dd792cb1388e7afc30bd4bad", func := "loop.example/g01085/laws.FnExactDerivationOf", spec := "fnExactDerivationOf", unfollowed := true, recurses := true, apart := false, narrowed := true }
def FnExactDerivationOfUptoSaid : Prop := fnExactDerivationOfUptoRow.holds Try.pinned (OpenSpec.upto fnExactDerivationOfSpec)

/-- 'laws.FnExactRelOfSystem', WHERE WHAT IT READS IS OF BULK AT MOST 1048576: true; the input reads as it did. -/
def fnExactRelOfSystemUptoRow : OpenClaim := { program := "ytkbeihkjhmillaa", sum := "3e5653f52e2a9beee5faadd2e0e90edd48e3a278dd792cb1388e7afc30bd4bad", func := "loop.example/g01085/laws.FnExactRelOfSystem", spec := "fnExactRelOfSystem", unfollowed := true, recurses := true, apart := false, narrowed := true }
def FnExactRelOfSystemUptoSaid : Prop := fnExactRelOfSystemUptoRow.holds Try.pinned (OpenSpec.upto fnExactRelOfSystemSpec)

/-- 'laws.FnDerived', WHERE WHAT IT READS IS OF BULK AT MOST 1048576: true; the input reads as it did. -/
def fnDerivedUptoRow : OpenClaim := { program := "ytkbeihkjhmillaa", sum := "3e5653f52e2a9beee5faadd2e0e90edd48e3a278dd792cb1388e7afc30bd4bad", func := "loop.example/g01085/laws.FnDerived", spec := "fnDerived", unfollowed := true, recurses := true, apart := false, narrowed := true }
def FnDerivedUptoSaid : Prop := fnDerivedUptoRow.holds Try.pinned (OpenSpec.upto fnDerivedSpec)

/-- 'laws.FnExactAnswersOf', WHERE WHAT IT READS IS OF BULK AT MOST 1048576: true; the input reads as it did. -/
def fnExactAnswersOfUptoRow : OpenClaim := { program := "ytkbeihkjhmillaa", sum := "3e5653f52e2a9beee5faadd2e0e90edd48e3a278dd792cb1388e7afc30bd4bad", func := "loop.example/g01085/laws.FnExactAnswersOf", spec := "fnExactAnswersOf", unfollowed := true, recurses := true, apart := false, narrowed := true }
def FnExactAnswersOfUptoSaid : Prop := fnExactAnswersOfUptoRow.holds Try.pinned (OpenSpec.upto fnExactAnswersOfSpec)

end Rows
end Go.Proofs.Ytkbeihkjhmillaa
