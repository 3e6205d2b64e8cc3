/-
  No cell of these rows narrows 'for every input' (looked for: loops, veiled, ifaces, maps, wideKeys, modest, calm, conditions, laid).
  DERIVED. THE GIVEN ROWS OF THIS SEAT. 5 by the template 'for every input the law returns true; each argument reads behind the call as it read before'; 0 by the template 'total and deterministic' (their statements: YtjkjfjpajmjglaaTotals.lean).
  GIVEN WITH THE SEED: the statements are not yours to turn. If you find one false, say at which input.
  Laid BY PROGRAM, IN A SANDBOX (cutbox-rows.mjs): the forced cells as the released guide's own fill.sh prints them over the translation 0c009ccd658b2878… (all of the seat's roots in one cut). By AI agents, Wed Nov 11 2026. No macro, syntax, notation, axiom, sorry.
-/
import Derived.Test.YtjkjfjpajmjglaaChecked
import GoSem.Claim
import GoSem.ClaimJoined
import GoSem.ClaimMapViews
import Derived.JoinedTies
import Derived.KernelRfl
namespace Go.Proofs.Ytjkjfjpajmjglaa
/- THE CELL 'sum', in the pinned program and in every row, IS THE sha256 OF THE DUMP (.gsa) THAT YtjkjfjpajmjglaaProg.lean LOADS. Nothing in Lean hashes anything: it is a label: what it is worth is what the hold of that sum in a sandbox is worth. -/
noncomputable def Try.pinned : Pinned := { name := "ytjkjfjpajmjglaa", sum := "0c009ccd658b28782fabb67092156eb668d4b834fd29a442a58757cd92b8054c", checked := Try.checked }
namespace Rows
def none {H : Type} : Left H := { results := [], args := [] }

/-- 'laws.FnExactFoldValues': WHATEVER THE INPUT: true; the input reads as it did. -/
def fnExactFoldValuesSpec : ChangeSpec := { name := "fnExactFoldValues", fn := fun _ => fun
  | [d1, d2, d3] => { results := [.lit (.bool true)], args := [d1, d2, d3] }
  | _ => none }
def fnExactFoldValuesRow : OpenClaim := { program := "ytjkjfjpajmjglaa", sum := "0c009ccd658b28782fabb67092156eb668d4b834fd29a442a58757cd92b8054c", func := "loop.example/g01085/laws.FnExactFoldValues", spec := "fnExactFoldValues", unfollowed := true, recurses := true, apart := false }
def FnExactFoldValuesSaid : Prop := fnExactFoldValuesRow.holds Try.pinned (OpenSpec.ofChange fnExactFoldValuesSpec)

/-- ITS FALSE NEIGHBOUR: 'it returns false'. Refute it at one input. -/
def fnExactFoldValuesWrong : ChangeSpec := { name := "fnExactFoldValues", fn := fun _ => fun
  | [d1, d2, d3] => { results := [.lit (.bool false)], args := [d1, d2, d3] }
  | _ => none }
def FnExactFoldValuesWrongFalsely : Prop := fnExactFoldValuesRow.holds Try.pinned (OpenSpec.ofChange fnExactFoldValuesWrong)

/-- 'laws.FnExactIsAffine': WHATEVER THE INPUT: true; the input reads as it did. -/
def fnExactIsAffineSpec : ChangeSpec := { name := "fnExactIsAffine", fn := fun _ => fun
  | [d1, d2] => { results := [.lit (.bool true)], args := [d1, d2] }
  | _ => none }
def fnExactIsAffineRow : OpenClaim := { program := "ytjkjfjpajmjglaa", sum := "0c009ccd658b28782fabb67092156eb668d4b834fd29a442a58757cd92b8054c", func := "loop.example/g01085/laws.FnExactIsAffine", spec := "fnExactIsAffine", unfollowed := true, recurses := true, apart := false }
def FnExactIsAffineSaid : Prop := fnExactIsAffineRow.holds Try.pinned (OpenSpec.ofChange fnExactIsAffineSpec)

/-- ITS FALSE NEIGHBOUR: 'it returns false'. Refute it at one input. -/
def fnExactIsAffineWrong : ChangeSpec := { name := "fnExactIsAffine", fn := fun _ => fun
  | [d1, d2] => { results := [.lit (.bool false)], args := [d1, d2] }
  | _ => none }
def FnExactIsAffineWrongFalsely : Prop := fnExactIsAffineRow.holds Try.pinned (OpenSpec.ofChange fnExactIsAffineWrong)

/-- 'laws.FnExactValidDomains': WHATEVER THE INPUT: true; the input reads as it did. -/
def fnExactValidDomainsSpec : ChangeSpec := { name := "fnExactValidDomains", fn := fun _ => fun
  | [d1, d2, d3] => { results := [.lit (.bool true)], args := [d1, d2, d3] }
  | _ => none }
def fnExactValidDomainsRow : OpenClaim := { program := "ytjkjfjpajmjglaa", sum := "0c009ccd658b28782fabb67092156eb668d4b834fd29a442a58757cd92b8054c", func := "loop.example/g01085/laws.FnExactValidDomains", spec := "fnExactValidDomains", unfollowed := true, recurses := true, apart := false }
def FnExactValidDomainsSaid : Prop := fnExactValidDomainsRow.holds Try.pinned (OpenSpec.ofChange fnExactValidDomainsSpec)

/-- ITS FALSE NEIGHBOUR: 'it returns false'. Refute it at one input. -/
def fnExactValidDomainsWrong : ChangeSpec := { name := "fnExactValidDomains", fn := fun _ => fun
  | [d1, d2, d3] => { results := [.lit (.bool false)], args := [d1, d2, d3] }
  | _ => none }
def FnExactValidDomainsWrongFalsely : Prop := fnExactValidDomainsRow.holds Try.pinned (OpenSpec.ofChange fnExactValidDomainsWrong)

/-- 'laws.FnExactRestrictInstance': WHATEVER THE INPUT: true; the input reads as it did. -/
def fnExactRestrictInstanceSpec : ChangeSpec := { name := "fnExactRestrictInstance", fn := fun _ => fun
  | [d1, d2, d3] => { results := [.lit (.bool true)], args := [d1, d2, d3] }
  | _ => none }
def fnExactRestrictInstanceRow : OpenClaim := { program := "ytjkjfjpajmjglaa", sum := "0c009ccd658b28782fabb67092156eb668d4b834fd29a442a58757cd92b8054c", func := "loop.example/g01085/laws.FnExactRestrictInstance", spec := "fnExactRestrictInstance", unfollowed := true, recurses := true, apart := false }
def FnExactRestrictInstanceSaid : Prop := fnExactRestrictInstanceRow.holds Try.pinned (OpenSpec.ofChange fnExactRestrictInstanceSpec)

/-- ITS FALSE NEIGHBOUR: 'it returns false'. Refute it at one input. -/
def fnExactRestrictInstanceWrong : ChangeSpec := { name := "fnExactRestrictInstance", fn := fun _ => fun
  | [d1, d2, d3] => { results := [.lit (.bool false)], args := [d1, d2, d3] }
  | _ => none }
def FnExactRestrictInstanceWrongFalsely : Prop := fnExactRestrictInstanceRow.holds Try.pinned (OpenSpec.ofChange fnExactRestrictInstanceWrong)

/-- 'laws.FnExactGreedyValues': WHATEVER THE INPUT: true; the input reads as it did. -/
def fnExactGreedyValuesSpec : ChangeSpec := { name := "fnExactGreedyValues", fn := fun _ => fun
  | [d1, d2, d3] => { results := [.lit (.bool true)], args := [d1, d2, d3] }
  | _ => none }
def fnExactGreedyValuesRow : OpenClaim := { program := "ytjkjfjpajmjglaa", sum := "0c009ccd658b28782fabb67092156eb668d4b834fd29a442a58757cd92b8054c", func := "loop.example/g01085/laws.FnExactGreedyValues", spec := "fnExactGreedyValues", unfollowed := true, recurses := true, apart := false }
def FnExactGreedyValuesSaid : Prop := fnExactGreedyValuesRow.holds Try.pinned (OpenSpec.ofChange fnExactGreedyValuesSpec)

/-- ITS FALSE NEIGHBOUR: 'it returns false'. Refute it at one input. -/
def fnExactGreedyValuesWrong : ChangeSpec := { name := "fnExactGreedyValues", fn := fun _ => fun
  | [d1, d2, d3] => { results := [.lit (.bool false)], args := [d1, d2, d3] }
  | _ => none }
def FnExactGreedyValuesWrongFalsely : Prop := fnExactGreedyValuesRow.holds Try.pinned (OpenSpec.ofChange fnExactGreedyValuesWrong)

/- THE SECOND FORM. 'bulk': how many values and letters a reading holds, each counted each time it is reached (what is shared counts as often as it is met; a slice's spare places count too). A statement '..UptoSaid' is the law's where the arguments, and the package variables that the reading takes, are together of bulk at most 1048576: NARROWER than '..Said'. Prove '..Said' where nothing that the law and all that it calls make is longer than what came in: it says more and counts as full. Else prove '..UptoSaid'. A law counts once. -/
mutual
def uptoBulk {H : Type} : DataW H → Nat
  | .lit (.string bytes) => bytes.length + 1
  | .lit _ => 1
  | .nil => 1
  | .ptr d => uptoBulk d + 1
  | .slice elems spare => uptoBulkAll elems + uptoBulkAll spare + 1
  | .agg parts => uptoBulkAll parts + 1
  | .iface _ d => uptoBulk d + 1
  | .map entries => uptoBulkEntries entries + 1
  | .held _ => 1
def uptoBulkAll {H : Type} : List (DataW H) → Nat
  | [] => 0
  | d :: r => uptoBulk d + uptoBulkAll r
def uptoBulkEntries {H : Type} : List (Lit × DataW H) → Nat
  | [] => 0
  | x :: r => uptoBulkEntry x + uptoBulkEntries r
def uptoBulkEntry {H : Type} : Lit × DataW H → Nat
  | (.string bytes, d) => bytes.length + uptoBulk d + 1
  | (_, d) => uptoBulk d + 1
 end
def uptoSmall : (H : Type) → List (DataW H) → Bool := fun _ ds => decide (uptoBulkAll ds ≤ 1048576)
def OpenSpec.upto (s : _root_.Go.ChangeSpec) : _root_.Go.OpenSpec := { _root_.Go.OpenSpec.ofChange s with cond := some uptoSmall }

/-- 'laws.FnExactFoldValues', WHERE WHAT IT READS IS OF BULK AT MOST 1048576: true; the input reads as it did. -/
def fnExactFoldValuesUptoRow : OpenClaim := { program := "ytjkjfjpajmjglaa", sum := "0c009ccd658b28782fabb67092156eb668d4b834fd29a442a58757cd92b8054c", func := "loop.example/g01085/laws.FnExactFoldValues", spec := "fnExactFoldValues", unfollowed := true, recurses := true, apart := false, narrowed := true }
def FnExactFoldValuesUptoSaid : Prop := fnExactFoldValuesUptoRow.holds Try.pinned (OpenSpec.upto fnExactFoldValuesSpec)

/-- 'laws.FnExactIsAffine', WHERE WHAT IT READS IS OF BULK AT MOST 1048576: true; the input reads as it did. -/
def fnExactIsAffineUptoRow : OpenClaim := { program := "ytjkjfjpajmjglaa", sum := "0c009ccd658b28782fabb67092156eb668d4b834fd29a442a58757cd92b8054c", func := "loop.example/g01085/laws.FnExactIsAffine", spec := "fnExactIsAffine", unfollowed := true, recurses := true, apart := false, narrowed := true }
def FnExactIsAffineUptoSaid : Prop := fnExactIsAffineUptoRow.holds Try.pinned (OpenSpec.upto fnExactIsAffineSpec)

/-- 'laws.FnExactValidDomains', WHERE WHAT IT READS IS OF BULK AT MOST 1048576: true; the input reads as it did. -/
def fnExactValidDomainsUptoRow : OpenClaim := { program := "ytjkjfjpajmjglaa", sum := "0c009ccd658b28782fabb67092156eb668d4b834fd29a442a58757cd92b8054c", func := "loop.example/g01085/laws.FnExactValidDomains", spec := "fnExactValidDomains", unfollowed := true, recurses := true, apart := false, narrowed := true }
def FnExactValidDomainsUptoSaid : Prop := fnExactValidDomainsUptoRow.holds Try.pinned (OpenSpec.upto fnExactValidDomainsSpec)

/-- 'laws.FnExactRestrictInstance', WHERE WHAT IT READS IS OF BULK AT MOST 1048576: true; the input reads as it did. -/
def fnExactRestrictInstanceUptoRow : OpenClaim := { program := "ytjkjfjpajmjglaa", sum := "0c009ccd658b28782fabb67092156eb668d4b834fd29a442a58757cd92b8054c", func := "loop.example/g01085/laws.FnExactRestrictInstance", spec := "fnExactRestrictInstance", unfollowed := true, recurses := true, apart := false, narrowed := true }
def FnExactRestrictInstanceUptoSaid : Prop := fnExactRestrictInstanceUptoRow.holds Try.pinned (OpenSpec.upto fnExactRestrictInstanceSpec)

/-- 'laws.FnExactGreedyValues', WHERE WHAT IT READS IS OF BULK AT MOST 1048576: true; the input reads as it did. -/
def fnExactGreedyValuesUptoRow : OpenClaim := { program := "ytjkjfjpajmjglaa", sum := "0c009ccd658b28782fabb67092156eb668d4b834fd29a442a58757cd92b8054c", func := "loop.example/g01085/laws.FnExactGreedyValues", spec := "fnExactGreedyValues", unfollowed := true, recurses := true, apart := false, narrowed := true }
def FnExactGreedyValuesUptoSaid : Prop := fnExactGreedyValuesUptoRow.holds Try.pinned (OpenSpec.upto fnExactGreedyValuesSpec)

end Rows
end Go.Proofs.Ytjkjfjpajmjglaa
