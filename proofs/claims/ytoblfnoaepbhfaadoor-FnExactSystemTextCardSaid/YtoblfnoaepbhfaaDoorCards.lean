/-
  DERIVED. GIVEN WITH THE SEED: THE CARDS: each row of YtoblfnoaepbhfaaDoorRows.lean that lists a variable, with what it lists TIED to the program's text (the seventh form; the later family's looks); each row that meets fmt, with fmt's text TOLD by the authors' own Lean function (tested against real Go, not proved from fmt's source: count such statements apart). THE CARD IS WHAT COUNTS. Prove the row's statement (the work); the ties are given (YtoblfnoaepbhfaaDoorTie.lean); close each card by the builder's one call (the guide's Derived/Test/ToyasCard.lean, 'card_holds'). Laid BY PROGRAM, IN A SANDBOX (cutbox-door.mjs). By AI agents, Wed Nov 11 2026. No macro, syntax, notation, axiom, sorry.
-/
import Derived.Test.YtoblfnoaepbhfaaDoorRows
import GoSem.ClaimSeven
namespace Go.Proofs.YtoblfnoaepbhfaaDoor
namespace Rows

/-- THE TIED CARD OF 'laws.FnExactSystemText'. -/
def fnExactSystemTextCard : Claim7 := { stood := { row := fnExactSystemTextRow, standIns := [], harness := (true, "d5dca17c016a09fa7df6d5290edd25d02b2666ae6446d613df5f8cb9d02b416a"), looks := false }, kinds := [], alts := [], laidByText := true, laidKinds := [.data, .data, .data], laidTests := true, laidLooks := .later }
def FnExactSystemTextCardSaid : Prop := Claim7.holds Tryd.pinned (.plain (OpenSpec.ofChange fnExactSystemTextSpec)) fnExactSystemTextCard

/-- THE SECOND FORM's CARD OF 'laws.FnExactSystemText'. -/
def fnExactSystemTextUptoCard : Claim7 := { stood := { row := fnExactSystemTextUptoRow, standIns := [], harness := (true, "d5dca17c016a09fa7df6d5290edd25d02b2666ae6446d613df5f8cb9d02b416a"), looks := false }, kinds := [], alts := [], laidByText := true, laidKinds := [.data, .data, .data], laidTests := true, laidLooks := .later }
def FnExactSystemTextUptoCardSaid : Prop := Claim7.holds Tryd.pinned (.plain (OpenSpec.upto fnExactSystemTextSpec)) fnExactSystemTextUptoCard
end Rows
end Go.Proofs.YtoblfnoaepbhfaaDoor
