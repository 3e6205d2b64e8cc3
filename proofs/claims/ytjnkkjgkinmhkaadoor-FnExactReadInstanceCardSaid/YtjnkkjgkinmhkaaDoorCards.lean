/-
  DERIVED. GIVEN WITH THE SEED: THE CARDS: each row of YtjnkkjgkinmhkaaDoorRows.lean that lists a variable, with what it lists TIED to the program's text (the seventh form; the later family's looks); each row that meets fmt, with fmt's text TOLD by the authors' own Lean function (tested against real Go, not proved from fmt's source: count such statements apart). THE CARD IS WHAT COUNTS. Prove the row's statement (the work); the ties are given (YtjnkkjgkinmhkaaDoorTie.lean); close each card by the builder's one call (the guide's Derived/Test/ToyasCard.lean, 'card_holds'). Laid BY PROGRAM, IN A SANDBOX (cutbox-door.mjs). By AI agents, Wed Nov 11 2026. No macro, syntax, notation, axiom, sorry.
-/
import Derived.Test.YtjnkkjgkinmhkaaDoorRows
import GoSem.ClaimSeven
namespace Go.Proofs.YtjnkkjgkinmhkaaDoor
namespace Rows

/-- THE TIED CARD OF 'laws.FnExactReadSystem'. -/
def fnExactReadSystemCard : Claim7 := { stood := { row := fnExactReadSystemRow, standIns := [], harness := (true, "efb145bad806293e79bebd1be0916371495aade7f2860431ad2e9ad9fd1b39b1"), looks := true }, kinds := [], alts := [], laidByText := true, laidKinds := [.data, .data, .data, .data, .sentinel, .sentinel, .pinned], laidTests := true, laidLooks := .later }
def FnExactReadSystemCardSaid : Prop := Claim7.holds Tryd.pinned (.plain (OpenSpec.ofChange fnExactReadSystemSpec)) fnExactReadSystemCard

/-- THE TIED CARD OF 'laws.FnExactReadInstance'. -/
def fnExactReadInstanceCard : Claim7 := { stood := { row := fnExactReadInstanceRow, standIns := [], harness := (true, "efb145bad806293e79bebd1be0916371495aade7f2860431ad2e9ad9fd1b39b1"), looks := true }, kinds := [], alts := [], laidByText := true, laidKinds := [.data, .data, .data, .data, .sentinel, .sentinel, .pinned], laidTests := true, laidLooks := .later }
def FnExactReadInstanceCardSaid : Prop := Claim7.holds Tryd.pinned (.plain (OpenSpec.ofChange fnExactReadInstanceSpec)) fnExactReadInstanceCard

/-- THE SECOND FORM's CARD OF 'laws.FnExactReadSystem'. -/
def fnExactReadSystemUptoCard : Claim7 := { stood := { row := fnExactReadSystemUptoRow, standIns := [], harness := (true, "efb145bad806293e79bebd1be0916371495aade7f2860431ad2e9ad9fd1b39b1"), looks := true }, kinds := [], alts := [], laidByText := true, laidKinds := [.data, .data, .data, .data, .sentinel, .sentinel, .pinned], laidTests := true, laidLooks := .later }
def FnExactReadSystemUptoCardSaid : Prop := Claim7.holds Tryd.pinned (.plain (OpenSpec.upto fnExactReadSystemSpec)) fnExactReadSystemUptoCard

/-- THE SECOND FORM's CARD OF 'laws.FnExactReadInstance'. -/
def fnExactReadInstanceUptoCard : Claim7 := { stood := { row := fnExactReadInstanceUptoRow, standIns := [], harness := (true, "efb145bad806293e79bebd1be0916371495aade7f2860431ad2e9ad9fd1b39b1"), looks := true }, kinds := [], alts := [], laidByText := true, laidKinds := [.data, .data, .data, .data, .sentinel, .sentinel, .pinned], laidTests := true, laidLooks := .later }
def FnExactReadInstanceUptoCardSaid : Prop := Claim7.holds Tryd.pinned (.plain (OpenSpec.upto fnExactReadInstanceSpec)) fnExactReadInstanceUptoCard
end Rows
end Go.Proofs.YtjnkkjgkinmhkaaDoor
