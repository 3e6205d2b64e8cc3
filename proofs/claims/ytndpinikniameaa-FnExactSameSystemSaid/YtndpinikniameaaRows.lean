/-
  No cell of these rows narrows 'for every input' (looked for: loops, veiled, ifaces, maps, wideKeys, modest, calm, conditions, laid).
  DERIVED. THE GIVEN ROWS OF THIS SEAT. 5 by the template 'for every input the law returns true; each argument reads behind the call as it read before'; 0 by the template 'total and deterministic' (their statements: YtndpinikniameaaTotals.lean).
  GIVEN WITH THE SEED: the statements are not yours to turn. If you find one false, say at which input.
  Laid BY PROGRAM, IN A SANDBOX (cutbox-rows.mjs): the forced cells as the released guide's own fill.sh prints them over the translation dedc836cc11dcac6… (all of the seat's roots in one cut). By AI agents, Wed Nov 11 2026. No macro, syntax, notation, axiom, sorry.
-/
import Derived.Test.YtndpinikniameaaChecked
import GoSem.Claim
import GoSem.ClaimJoined
import GoSem.ClaimMapViews
import Derived.JoinedTies
import Derived.KernelRfl
namespace Go.Proofs.Ytndpinikniameaa
/- THE CELL 'sum', in the pinned program and in every row, IS THE sha256 OF THE DUMP (.gsa) THAT YtndpinikniameaaProg.lean LOADS. Nothing in Lean hashes anything: it is a label: what it is worth is what the hold of that sum in a sandbox is worth. -/
noncomputable def Try.pinned : Pinned := { name := "ytndpinikniameaa", sum := "dedc836cc11dcac63692a1c523bc2042c0cce8c3fdceed7424159c72d201d950", checked := Try.checked }
namespace Rows
def none {H : Type} : Left H := { results := [], args := [] }

/-- 'laws.FnExactDepthOf': WHATEVER THE INPUT: true; the input reads as it did. -/
def fnExactDepthOfSpec : ChangeSpec := { name := "fnExactDepthOf", fn := fun _ => fun
  | [d] => { results := [.lit (.bool true)], args := [d] }
  | _ => none }
def fnExactDepthOfRow : OpenClaim := { program := "ytndpinikniameaa", sum := "dedc836cc11dcac63692a1c523bc2042c0cce8c3fdceed7424159c72d201d950", func := "loop.example/g01085/laws.FnExactDepthOf", spec := "fnExactDepthOf", apart := false }
def FnExactDepthOfSaid : Prop := fnExactDepthOfRow.holds Try.pinned (OpenSpec.ofChange fnExactDepthOfSpec)

/-- ITS FALSE NEIGHBOUR: 'it returns false'. Refute it at one input. -/
def fnExactDepthOfWrong : ChangeSpec := { name := "fnExactDepthOf", fn := fun _ => fun
  | [d] => { results := [.lit (.bool false)], args := [d] }
  | _ => none }
def FnExactDepthOfWrongFalsely : Prop := fnExactDepthOfRow.holds Try.pinned (OpenSpec.ofChange fnExactDepthOfWrong)

/-- 'laws.FnExactAffineOp': WHATEVER THE INPUT: true; the input reads as it did. -/
def fnExactAffineOpSpec : ChangeSpec := { name := "fnExactAffineOp", fn := fun _ => fun
  | [d] => { results := [.lit (.bool true)], args := [d] }
  | _ => none }
def fnExactAffineOpRow : OpenClaim := { program := "ytndpinikniameaa", sum := "dedc836cc11dcac63692a1c523bc2042c0cce8c3fdceed7424159c72d201d950", func := "loop.example/g01085/laws.FnExactAffineOp", spec := "fnExactAffineOp", unfollowed := true, recurses := true, apart := false }
def FnExactAffineOpSaid : Prop := fnExactAffineOpRow.holds Try.pinned (OpenSpec.ofChange fnExactAffineOpSpec)

/-- ITS FALSE NEIGHBOUR: 'it returns false'. Refute it at one input. -/
def fnExactAffineOpWrong : ChangeSpec := { name := "fnExactAffineOp", fn := fun _ => fun
  | [d] => { results := [.lit (.bool false)], args := [d] }
  | _ => none }
def FnExactAffineOpWrongFalsely : Prop := fnExactAffineOpRow.holds Try.pinned (OpenSpec.ofChange fnExactAffineOpWrong)

/-- 'laws.FnExactValidSystem': WHATEVER THE INPUT: true; the input reads as it did. -/
def fnExactValidSystemSpec : ChangeSpec := { name := "fnExactValidSystem", fn := fun _ => fun
  | [d] => { results := [.lit (.bool true)], args := [d] }
  | _ => none }
def fnExactValidSystemRow : OpenClaim := { program := "ytndpinikniameaa", sum := "dedc836cc11dcac63692a1c523bc2042c0cce8c3fdceed7424159c72d201d950", func := "loop.example/g01085/laws.FnExactValidSystem", spec := "fnExactValidSystem", unfollowed := true, recurses := true, apart := false }
def FnExactValidSystemSaid : Prop := fnExactValidSystemRow.holds Try.pinned (OpenSpec.ofChange fnExactValidSystemSpec)

/-- ITS FALSE NEIGHBOUR: 'it returns false'. Refute it at one input. -/
def fnExactValidSystemWrong : ChangeSpec := { name := "fnExactValidSystem", fn := fun _ => fun
  | [d] => { results := [.lit (.bool false)], args := [d] }
  | _ => none }
def FnExactValidSystemWrongFalsely : Prop := fnExactValidSystemRow.holds Try.pinned (OpenSpec.ofChange fnExactValidSystemWrong)

/-- 'laws.FnExactSameSystem': WHATEVER THE INPUT: true; the input reads as it did. -/
def fnExactSameSystemSpec : ChangeSpec := { name := "fnExactSameSystem", fn := fun _ => fun
  | [d1, d2] => { results := [.lit (.bool true)], args := [d1, d2] }
  | _ => none }
def fnExactSameSystemRow : OpenClaim := { program := "ytndpinikniameaa", sum := "dedc836cc11dcac63692a1c523bc2042c0cce8c3fdceed7424159c72d201d950", func := "loop.example/g01085/laws.FnExactSameSystem", spec := "fnExactSameSystem", unfollowed := true, recurses := true, apart := false }
def FnExactSameSystemSaid : Prop := fnExactSameSystemRow.holds Try.pinned (OpenSpec.ofChange fnExactSameSystemSpec)

/-- ITS FALSE NEIGHBOUR: 'it returns false'. Refute it at one input. -/
def fnExactSameSystemWrong : ChangeSpec := { name := "fnExactSameSystem", fn := fun _ => fun
  | [d1, d2] => { results := [.lit (.bool false)], args := [d1, d2] }
  | _ => none }
def FnExactSameSystemWrongFalsely : Prop := fnExactSameSystemRow.holds Try.pinned (OpenSpec.ofChange fnExactSameSystemWrong)

/-- 'laws.FnExactSameVerdict': WHATEVER THE INPUT: true; the input reads as it did. -/
def fnExactSameVerdictSpec : ChangeSpec := { name := "fnExactSameVerdict", fn := fun _ => fun
  | [d1, d2] => { results := [.lit (.bool true)], args := [d1, d2] }
  | _ => none }
def fnExactSameVerdictRow : OpenClaim := { program := "ytndpinikniameaa", sum := "dedc836cc11dcac63692a1c523bc2042c0cce8c3fdceed7424159c72d201d950", func := "loop.example/g01085/laws.FnExactSameVerdict", spec := "fnExactSameVerdict", apart := false }
def FnExactSameVerdictSaid : Prop := fnExactSameVerdictRow.holds Try.pinned (OpenSpec.ofChange fnExactSameVerdictSpec)

/-- ITS FALSE NEIGHBOUR: 'it returns false'. Refute it at one input. -/
def fnExactSameVerdictWrong : ChangeSpec := { name := "fnExactSameVerdict", fn := fun _ => fun
  | [d1, d2] => { results := [.lit (.bool false)], args := [d1, d2] }
  | _ => none }
def FnExactSameVerdictWrongFalsely : Prop := fnExactSameVerdictRow.holds Try.pinned (OpenSpec.ofChange fnExactSameVerdictWrong)

/- THE SECOND FORM. 'bulk': how many values and letters a reading holds, each counted each time it is reached (what is shared counts as often as it is met; a slice's spare places count too). A statement '..UptoSaid' is the law's where the arguments, and the package variables that the reading takes, are together of bulk at most 1048576: NARROWER than '..Said'. Prove '..Said' where nothing that the law and all that it calls make is longer than what came in: it says more and counts as full. Else prove '..UptoSaid'. A law counts once. -/
mutual
def uptoBulk {H : Type} : DataW H → Nat
  | .lit (.string bytes) => bytes.length + 1
  | .lit _ => 1
  | .nil => 1
  | .ptr d => uptoBulk d + 1
  | .slice elems spare => uptoBulkAll elems + uptoBulkAll spare + 1
  | .agg parts => uptoBulkAll parts + 1
  | .iface _ d => uptoBulk d + 1
  | .map entries => uptoBulkEntries entries + 1
  | .held _ => 1
def uptoBulkAll {H : Type} : List (DataW H) → Nat
  | [] => 0
  | d :: r => uptoBulk d + uptoBulkAll r
def uptoBulkEntries {H : Type} : List (Lit × DataW H) → Nat
  | [] => 0
  | x :: r => uptoBulkEntry x + uptoBulkEntries r
def uptoBulkEntry {H : Type} : Lit × DataW H → Nat
  | (.string bytes, d) => bytes.length + uptoBulk d + 1
  | (_, d) => uptoBulk d + 1
 end
def uptoSmall : (H : Type) → List (DataW H) → Bool := fun _ ds => decide (uptoBulkAll ds ≤ 1048576)
def OpenSpec.upto (s : _root_.Go.ChangeSpec) : _root_.Go.OpenSpec := { _root_.Go.OpenSpec.ofChange s with cond := some uptoSmall }

/-- 'laws.FnExactDepthOf', WHERE WHAT IT READS IS OF BULK AT MOST 1048576: true; the input reads as it did. -/
def fnExactDepthOfUptoRow : OpenClaim := { program := "ytndpinikniameaa", sum := "dedc836cc11dcac63692a1c523bc2042c0cce8c3fdceed7424159c72d201d950", func := "loop.example/g01085/laws.FnExactDepthOf", spec := "fnExactDepthOf", apart := false, narrowed := true }
def FnExactDepthOfUptoSaid : Prop := fnExactDepthOfUptoRow.holds Try.pinned (OpenSpec.upto fnExactDepthOfSpec)

/-- 'laws.FnExactAffineOp', WHERE WHAT IT READS IS OF BULK AT MOST 1048576: true; the input reads as it did. -/
def fnExactAffineOpUptoRow : OpenClaim := { program := "ytndpinikniameaa", sum := "dedc836cc11dcac63692a1c523bc2042c0cce8c3fdceed7424159c72d201d950", func := "loop.example/g01085/laws.FnExactAffineOp", spec := "fnExactAffineOp", unfollowed := true, recurses := true, apart := false, narrowed := true }
def FnExactAffineOpUptoSaid : Prop := fnExactAffineOpUptoRow.holds Try.pinned (OpenSpec.upto fnExactAffineOpSpec)

/-- 'laws.FnExactValidSystem', WHERE WHAT IT READS IS OF BULK AT MOST 1048576: true; the input reads as it did. -/
def fnExactValidSystemUptoRow : OpenClaim := { program := "ytndpinikniameaa", sum := "dedc836cc11dcac63692a1c523bc2042c0cce8c3fdceed7424159c72d201d950", func := "loop.example/g01085/laws.FnExactValidSystem", spec := "fnExactValidSystem", unfollowed := true, recurses := true, apart := false, narrowed := true }
def FnExactValidSystemUptoSaid : Prop := fnExactValidSystemUptoRow.holds Try.pinned (OpenSpec.upto fnExactValidSystemSpec)

/-- 'laws.FnExactSameSystem', WHERE WHAT IT READS IS OF BULK AT MOST 1048576: true; the input reads as it did. -/
def fnExactSameSystemUptoRow : OpenClaim := { program := "ytndpinikniameaa", sum := "dedc836cc11dcac63692a1c523bc2042c0cce8c3fdceed7424159c72d201d950", func := "loop.example/g01085/laws.FnExactSameSystem", spec := "fnExactSameSystem", unfollowed := true, recurses := true, apart := false, narrowed := true }
def FnExactSameSystemUptoSaid : Prop := fnExactSameSystemUptoRow.holds Try.pinned (OpenSpec.upto fnExactSameSystemSpec)

/-- 'laws.FnExactSameVerdict', WHERE WHAT IT READS IS OF BULK AT MOST 1048576: true; the input reads as it did. -/
def fnExactSameVerdictUptoRow : OpenClaim := { program := "ytndpinikniameaa", sum := "dedc836cc11dcac63692a1c523bc2042c0cce8c3fdceed7424159c72d201d950", func := "loop.example/g01085/laws.FnExactSameVerdict", spec := "fnExactSameVerdict", apart := false, narrowed := true }
def FnExactSameVerdictUptoSaid : Prop := fnExactSameVerdictUptoRow.holds Try.pinned (OpenSpec.upto fnExactSameVerdictSpec)

end Rows
end Go.Proofs.Ytndpinikniameaa
