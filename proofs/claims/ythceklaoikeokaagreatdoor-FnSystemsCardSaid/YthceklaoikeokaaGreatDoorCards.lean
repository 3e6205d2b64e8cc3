/-
  DERIVED. GIVEN WITH THE SEED: THE CARDS: each row of YthceklaoikeokaaGreatDoorRows.lean that lists a variable, with what it lists TIED to the program's text (the seventh form; the later family's looks); each row that meets fmt, with fmt's text TOLD by the authors' own Lean function (tested against real Go, not proved from fmt's source: count such statements apart). THE CARD IS WHAT COUNTS. Prove the row's statement (the work); the ties are given (YthceklaoikeokaaGreatDoorTie.lean); close each card by the builder's one call (the guide's Derived/Test/ToyasCard.lean, 'card_holds'). Laid BY PROGRAM, IN A SANDBOX (cutbox-door.mjs). By AI agents, Wed Nov 11 2026. No macro, syntax, notation, axiom, sorry.
-/
import Derived.Test.YthceklaoikeokaaGreatDoorRows
import GoSem.ClaimSeven
namespace Go.Proofs.YthceklaoikeokaaGreatDoor
namespace Rows

/-- THE TIED CARD OF 'laws.FnSystems'. -/
def fnSystemsCard : Claim7 := { stood := { row := fnSystemsRow, standIns := [], harness := (true, "bacfd940d01fbc0b07c7a0b01f0799423b5a7f72d1708ffe5e15eefb0c062ca9"), looks := true }, kinds := [], alts := [], laidByText := true, laidKinds := [.data, .data, .data, .data, .sentinel, .sentinel, .pinned], laidTests := true, laidLooks := .later }
def FnSystemsCardSaid : Prop := Claim7.holds Tryz.pinned (.plain (OpenSpec.ofChange fnSystemsSpec)) fnSystemsCard

/-- THE SECOND FORM's CARD OF 'laws.FnSystems'. -/
def fnSystemsUptoCard : Claim7 := { stood := { row := fnSystemsUptoRow, standIns := [], harness := (true, "bacfd940d01fbc0b07c7a0b01f0799423b5a7f72d1708ffe5e15eefb0c062ca9"), looks := true }, kinds := [], alts := [], laidByText := true, laidKinds := [.data, .data, .data, .data, .sentinel, .sentinel, .pinned], laidTests := true, laidLooks := .later }
def FnSystemsUptoCardSaid : Prop := Claim7.holds Tryz.pinned (.plain (OpenSpec.upto fnSystemsSpec)) fnSystemsUptoCard
end Rows
end Go.Proofs.YthceklaoikeokaaGreatDoor
