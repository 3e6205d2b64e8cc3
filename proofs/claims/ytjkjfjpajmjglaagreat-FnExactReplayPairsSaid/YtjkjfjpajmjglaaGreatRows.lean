/-
  No cell of these rows narrows 'for every input' (looked for: loops, veiled, ifaces, maps, wideKeys, modest, calm, conditions, laid).
  DERIVED. THE GIVEN ROWS OF THIS SEAT. 7 by the template 'for every input the law returns true; each argument reads behind the call as it read before'; 0 by the template 'total and deterministic' (their statements: YtjkjfjpajmjglaaGreatTotals.lean).
  GIVEN WITH THE SEED: the statements are not yours to turn. If you find one false, say at which input.
  Laid BY PROGRAM, IN A SANDBOX (cutbox-rows.mjs): the forced cells as the released guide's own fill.sh prints them over the translation b8d5a2ee3f26a480… (all of the seat's roots in one cut). By AI agents, Wed Nov 11 2026. No macro, syntax, notation, axiom, sorry.
-/
import Derived.Test.YtjkjfjpajmjglaaGreatChecked
import GoSem.Claim
import GoSem.ClaimJoined
import GoSem.ClaimMapViews
import Derived.JoinedTies
import Derived.KernelRfl
namespace Go.Proofs.YtjkjfjpajmjglaaGreat
/- THE CELL 'sum', in the pinned program and in every row, IS THE sha256 OF THE DUMP (.gsa) THAT YtjkjfjpajmjglaaGreatProg.lean LOADS. Nothing in Lean hashes anything: it is a label: what it is worth is what the hold of that sum in a sandbox is worth. -/
noncomputable def Tryz.pinned : Pinned := { name := "ytjkjfjpajmjglaagreat", sum := "b8d5a2ee3f26a48070316da6183bf428d2ebe644876ae3c7e108b2959bdc2fdd", checked := Tryz.checked }
namespace Rows
def none {H : Type} : Left H := { results := [], args := [] }

/-- 'laws.FnExactReplayPairs': WHATEVER THE INPUT: true; the input reads as it did. -/
def fnExactReplayPairsSpec : ChangeSpec := { name := "fnExactReplayPairs", fn := fun _ => fun
  | [d1, d2, d3] => { results := [.lit (.bool true)], args := [d1, d2, d3] }
  | _ => none }
def fnExactReplayPairsRow : OpenClaim := { program := "ytjkjfjpajmjglaagreat", sum := "b8d5a2ee3f26a48070316da6183bf428d2ebe644876ae3c7e108b2959bdc2fdd", func := "loop.example/g01085/laws.FnExactReplayPairs", spec := "fnExactReplayPairs", unfollowed := true, recurses := true, apart := false }
def FnExactReplayPairsSaid : Prop := fnExactReplayPairsRow.holds Tryz.pinned (OpenSpec.ofChange fnExactReplayPairsSpec)

/-- ITS FALSE NEIGHBOUR: 'it returns false'. Refute it at one input. -/
def fnExactReplayPairsWrong : ChangeSpec := { name := "fnExactReplayPairs", fn := fun _ => fun
  | [d1, d2, d3] => { results := [.lit (.bool false)], args := [d1, d2, d3] }
  | _ => none }
def FnExactReplayPairsWrongFalsely : Prop := fnExactReplayPairsRow.holds Tryz.pinned (OpenSpec.ofChange fnExactReplayPairsWrong)

/-- 'laws.FnExactMakePairs': WHATEVER THE INPUT: true; the input reads as it did. -/
def fnExactMakePairsSpec : ChangeSpec := { name := "fnExactMakePairs", fn := fun _ => fun
  | [d1, d2] => { results := [.lit (.bool true)], args := [d1, d2] }
  | _ => none }
def fnExactMakePairsRow : OpenClaim := { program := "ytjkjfjpajmjglaagreat", sum := "b8d5a2ee3f26a48070316da6183bf428d2ebe644876ae3c7e108b2959bdc2fdd", func := "loop.example/g01085/laws.FnExactMakePairs", spec := "fnExactMakePairs", unfollowed := true, recurses := true, apart := false }
def FnExactMakePairsSaid : Prop := fnExactMakePairsRow.holds Tryz.pinned (OpenSpec.ofChange fnExactMakePairsSpec)

/-- ITS FALSE NEIGHBOUR: 'it returns false'. Refute it at one input. -/
def fnExactMakePairsWrong : ChangeSpec := { name := "fnExactMakePairs", fn := fun _ => fun
  | [d1, d2] => { results := [.lit (.bool false)], args := [d1, d2] }
  | _ => none }
def FnExactMakePairsWrongFalsely : Prop := fnExactMakePairsRow.holds Tryz.pinned (OpenSpec.ofChange fnExactMakePairsWrong)

/-- 'laws.FnExactSolveByConstant': WHATEVER THE INPUT: true; the input reads as it did. -/
def fnExactSolveByConstantSpec : ChangeSpec := { name := "fnExactSolveByConstant", fn := fun _ => fun
  | [d1, d2, d3] => { results := [.lit (.bool true)], args := [d1, d2, d3] }
  | _ => none }
def fnExactSolveByConstantRow : OpenClaim := { program := "ytjkjfjpajmjglaagreat", sum := "b8d5a2ee3f26a48070316da6183bf428d2ebe644876ae3c7e108b2959bdc2fdd", func := "loop.example/g01085/laws.FnExactSolveByConstant", spec := "fnExactSolveByConstant", unfollowed := true, recurses := true, apart := false }
def FnExactSolveByConstantSaid : Prop := fnExactSolveByConstantRow.holds Tryz.pinned (OpenSpec.ofChange fnExactSolveByConstantSpec)

/-- ITS FALSE NEIGHBOUR: 'it returns false'. Refute it at one input. -/
def fnExactSolveByConstantWrong : ChangeSpec := { name := "fnExactSolveByConstant", fn := fun _ => fun
  | [d1, d2, d3] => { results := [.lit (.bool false)], args := [d1, d2, d3] }
  | _ => none }
def FnExactSolveByConstantWrongFalsely : Prop := fnExactSolveByConstantRow.holds Tryz.pinned (OpenSpec.ofChange fnExactSolveByConstantWrong)

/-- 'laws.FnExactIsArcConsistent': WHATEVER THE INPUT: true; the input reads as it did. -/
def fnExactIsArcConsistentSpec : ChangeSpec := { name := "fnExactIsArcConsistent", fn := fun _ => fun
  | [d1, d2, d3] => { results := [.lit (.bool true)], args := [d1, d2, d3] }
  | _ => none }
def fnExactIsArcConsistentRow : OpenClaim := { program := "ytjkjfjpajmjglaagreat", sum := "b8d5a2ee3f26a48070316da6183bf428d2ebe644876ae3c7e108b2959bdc2fdd", func := "loop.example/g01085/laws.FnExactIsArcConsistent", spec := "fnExactIsArcConsistent", unfollowed := true, recurses := true, apart := false }
def FnExactIsArcConsistentSaid : Prop := fnExactIsArcConsistentRow.holds Tryz.pinned (OpenSpec.ofChange fnExactIsArcConsistentSpec)

/-- ITS FALSE NEIGHBOUR: 'it returns false'. Refute it at one input. -/
def fnExactIsArcConsistentWrong : ChangeSpec := { name := "fnExactIsArcConsistent", fn := fun _ => fun
  | [d1, d2, d3] => { results := [.lit (.bool false)], args := [d1, d2, d3] }
  | _ => none }
def FnExactIsArcConsistentWrongFalsely : Prop := fnExactIsArcConsistentRow.holds Tryz.pinned (OpenSpec.ofChange fnExactIsArcConsistentWrong)

/-- 'laws.FnExactReplayArcs': WHATEVER THE INPUT: true; the input reads as it did. -/
def fnExactReplayArcsSpec : ChangeSpec := { name := "fnExactReplayArcs", fn := fun _ => fun
  | [d1, d2, d3, d4] => { results := [.lit (.bool true)], args := [d1, d2, d3, d4] }
  | _ => none }
def fnExactReplayArcsRow : OpenClaim := { program := "ytjkjfjpajmjglaagreat", sum := "b8d5a2ee3f26a48070316da6183bf428d2ebe644876ae3c7e108b2959bdc2fdd", func := "loop.example/g01085/laws.FnExactReplayArcs", spec := "fnExactReplayArcs", unfollowed := true, recurses := true, apart := false }
def FnExactReplayArcsSaid : Prop := fnExactReplayArcsRow.holds Tryz.pinned (OpenSpec.ofChange fnExactReplayArcsSpec)

/-- ITS FALSE NEIGHBOUR: 'it returns false'. Refute it at one input. -/
def fnExactReplayArcsWrong : ChangeSpec := { name := "fnExactReplayArcs", fn := fun _ => fun
  | [d1, d2, d3, d4] => { results := [.lit (.bool false)], args := [d1, d2, d3, d4] }
  | _ => none }
def FnExactReplayArcsWrongFalsely : Prop := fnExactReplayArcsRow.holds Tryz.pinned (OpenSpec.ofChange fnExactReplayArcsWrong)

/-- 'laws.FnExactMakeArcs': WHATEVER THE INPUT: true; the input reads as it did. -/
def fnExactMakeArcsSpec : ChangeSpec := { name := "fnExactMakeArcs", fn := fun _ => fun
  | [d1, d2, d3] => { results := [.lit (.bool true)], args := [d1, d2, d3] }
  | _ => none }
def fnExactMakeArcsRow : OpenClaim := { program := "ytjkjfjpajmjglaagreat", sum := "b8d5a2ee3f26a48070316da6183bf428d2ebe644876ae3c7e108b2959bdc2fdd", func := "loop.example/g01085/laws.FnExactMakeArcs", spec := "fnExactMakeArcs", unfollowed := true, recurses := true, apart := false }
def FnExactMakeArcsSaid : Prop := fnExactMakeArcsRow.holds Tryz.pinned (OpenSpec.ofChange fnExactMakeArcsSpec)

/-- ITS FALSE NEIGHBOUR: 'it returns false'. Refute it at one input. -/
def fnExactMakeArcsWrong : ChangeSpec := { name := "fnExactMakeArcs", fn := fun _ => fun
  | [d1, d2, d3] => { results := [.lit (.bool false)], args := [d1, d2, d3] }
  | _ => none }
def FnExactMakeArcsWrongFalsely : Prop := fnExactMakeArcsRow.holds Tryz.pinned (OpenSpec.ofChange fnExactMakeArcsWrong)

/-- 'laws.FnExactInstanceOfFormula': WHATEVER THE INPUT: true; the input reads as it did. -/
def fnExactInstanceOfFormulaSpec : ChangeSpec := { name := "fnExactInstanceOfFormula", fn := fun _ => fun
  | [d1, d2] => { results := [.lit (.bool true)], args := [d1, d2] }
  | _ => none }
def fnExactInstanceOfFormulaRow : OpenClaim := { program := "ytjkjfjpajmjglaagreat", sum := "b8d5a2ee3f26a48070316da6183bf428d2ebe644876ae3c7e108b2959bdc2fdd", func := "loop.example/g01085/laws.FnExactInstanceOfFormula", spec := "fnExactInstanceOfFormula", unfollowed := true, recurses := true, apart := false }
def FnExactInstanceOfFormulaSaid : Prop := fnExactInstanceOfFormulaRow.holds Tryz.pinned (OpenSpec.ofChange fnExactInstanceOfFormulaSpec)

/-- ITS FALSE NEIGHBOUR: 'it returns false'. Refute it at one input. -/
def fnExactInstanceOfFormulaWrong : ChangeSpec := { name := "fnExactInstanceOfFormula", fn := fun _ => fun
  | [d1, d2] => { results := [.lit (.bool false)], args := [d1, d2] }
  | _ => none }
def FnExactInstanceOfFormulaWrongFalsely : Prop := fnExactInstanceOfFormulaRow.holds Tryz.pinned (OpenSpec.ofChange fnExactInstanceOfFormulaWrong)

/- THE SECOND FORM. 'bulk': how many values and letters a reading holds, each counted each time it is reached (what is shared counts as often as it is met; a slice's spare places count too). A statement '..UptoSaid' is the law's where the arguments, and the package variables that the reading takes, are together of bulk at most 1048576: NARROWER than '..Said'. Prove '..Said' where nothing that the law and all that it calls make is longer than what came in: it says more and counts as full. Else prove '..UptoSaid'. A law counts once. -/
mutual
def uptoBulk {H : Type} : DataW H → Nat
  | .lit (.string bytes) => bytes.length + 1
  | .lit _ => 1
  | .nil => 1
  | .ptr d => uptoBulk d + 1
  | .slice elems spare => uptoBulkAll elems + uptoBulkAll spare + 1
  | .agg parts => uptoBulkAll parts + 1
  | .iface _ d => uptoBulk d + 1
  | .map entries => uptoBulkEntries entries + 1
  | .held _ => 1
def uptoBulkAll {H : Type} : List (DataW H) → Nat
  | [] => 0
  | d :: r => uptoBulk d + uptoBulkAll r
def uptoBulkEntries {H : Type} : List (Lit × DataW H) → Nat
  | [] => 0
  | x :: r => uptoBulkEntry x + uptoBulkEntries r
def uptoBulkEntry {H : Type} : Lit × DataW H → Nat
  | (.string bytes, d) => bytes.length + uptoBulk d + 1
  | (_, d) => uptoBulk d + 1
 end
def uptoSmall : (H : Type) → List (DataW H) → Bool := fun _ ds => decide (uptoBulkAll ds ≤ 1048576)
def OpenSpec.upto (s : _root_.Go.ChangeSpec) : _root_.Go.OpenSpec := { _root_.Go.OpenSpec.ofChange s with cond := some uptoSmall }

/-- 'laws.FnExactReplayPairs', WHERE WHAT IT READS IS OF BULK AT MOST 1048576: true; the input reads as it did. -/
def fnExactReplayPairsUptoRow : OpenClaim := { program := "ytjkjfjpajmjglaagreat", sum := "b8d5a2ee3f26a48070316da6183bf428d2ebe644876ae3c7e108b2959bdc2fdd", func := "loop.example/g01085/laws.FnExactReplayPairs", spec := "fnExactReplayPairs", unfollowed := true, recurses := true, apart := false, narrowed := true }
def FnExactReplayPairsUptoSaid : Prop := fnExactReplayPairsUptoRow.holds Tryz.pinned (OpenSpec.upto fnExactReplayPairsSpec)

/-- 'laws.FnExactMakePairs', WHERE WHAT IT READS IS OF BULK AT MOST 1048576: true; the input reads as it did. -/
def fnExactMakePairsUptoRow : OpenClaim := { program := "ytjkjfjpajmjglaagreat", sum := "b8d5a2ee3f26a48070316da6183bf428d2ebe644876ae3c7e108b2959bdc2fdd", func := "loop.example/g01085/laws.FnExactMakePairs", spec := "fnExactMakePairs", unfollowed := true, recurses := true, apart := false, narrowed := true }
def FnExactMakePairsUptoSaid : Prop := fnExactMakePairsUptoRow.holds Tryz.pinned (OpenSpec.upto fnExactMakePairsSpec)

/-- 'laws.FnExactSolveByConstant', WHERE WHAT IT READS IS OF BULK AT MOST 1048576: true; the input reads as it did. -/
def fnExactSolveByConstantUptoRow : OpenClaim := { program := "ytjkjfjpajmjglaagreat", sum := "b8d5a2ee3f26a48070316da6183bf428d2ebe644876ae3c7e108b2959bdc2fdd", func := "loop.example/g01085/laws.FnExactSolveByConstant", spec := "fnExactSolveByConstant", unfollowed := true, recurses := true, apart := false, narrowed := true }
def FnExactSolveByConstantUptoSaid : Prop := fnExactSolveByConstantUptoRow.holds Tryz.pinned (OpenSpec.upto fnExactSolveByConstantSpec)

/-- 'laws.FnExactIsArcConsistent', WHERE WHAT IT READS IS OF BULK AT MOST 1048576: true; the input reads as it did. -/
def fnExactIsArcConsistentUptoRow : OpenClaim := { program := "ytjkjfjpajmjglaagreat", sum := "b8d5a2ee3f26a48070316da6183bf428d2ebe644876ae3c7e108b2959bdc2fdd", func := "loop.example/g01085/laws.FnExactIsArcConsistent", spec := "fnExactIsArcConsistent", unfollowed := true, recurses := true, apart := false, narrowed := true }
def FnExactIsArcConsistentUptoSaid : Prop := fnExactIsArcConsistentUptoRow.holds Tryz.pinned (OpenSpec.upto fnExactIsArcConsistentSpec)

/-- 'laws.FnExactReplayArcs', WHERE WHAT IT READS IS OF BULK AT MOST 1048576: true; the input reads as it did. -/
def fnExactReplayArcsUptoRow : OpenClaim := { program := "ytjkjfjpajmjglaagreat", sum := "b8d5a2ee3f26a48070316da6183bf428d2ebe644876ae3c7e108b2959bdc2fdd", func := "loop.example/g01085/laws.FnExactReplayArcs", spec := "fnExactReplayArcs", unfollowed := true, recurses := true, apart := false, narrowed := true }
def FnExactReplayArcsUptoSaid : Prop := fnExactReplayArcsUptoRow.holds Tryz.pinned (OpenSpec.upto fnExactReplayArcsSpec)

/-- 'laws.FnExactMakeArcs', WHERE WHAT IT READS IS OF BULK AT MOST 1048576: true; the input reads as it did. -/
def fnExactMakeArcsUptoRow : OpenClaim := { program := "ytjkjfjpajmjglaagreat", sum := "b8d5a2ee3f26a48070316da6183bf428d2ebe644876ae3c7e108b2959bdc2fdd", func := "loop.example/g01085/laws.FnExactMakeArcs", spec := "fnExactMakeArcs", unfollowed := true, recurses := true, apart := false, narrowed := true }
def FnExactMakeArcsUptoSaid : Prop := fnExactMakeArcsUptoRow.holds Tryz.pinned (OpenSpec.upto fnExactMakeArcsSpec)

/-- 'laws.FnExactInstanceOfFormula', WHERE WHAT IT READS IS OF BULK AT MOST 1048576: true; the input reads as it did. -/
def fnExactInstanceOfFormulaUptoRow : OpenClaim := { program := "ytjkjfjpajmjglaagreat", sum := "b8d5a2ee3f26a48070316da6183bf428d2ebe644876ae3c7e108b2959bdc2fdd", func := "loop.example/g01085/laws.FnExactInstanceOfFormula", spec := "fnExactInstanceOfFormula", unfollowed := true, recurses := true, apart := false, narrowed := true }
def FnExactInstanceOfFormulaUptoSaid : Prop := fnExactInstanceOfFormulaUptoRow.holds Tryz.pinned (OpenSpec.upto fnExactInstanceOfFormulaSpec)

end Rows
end Go.Proofs.YtjkjfjpajmjglaaGreat
