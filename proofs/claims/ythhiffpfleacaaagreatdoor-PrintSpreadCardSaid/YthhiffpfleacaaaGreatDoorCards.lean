/-
  DERIVED. GIVEN WITH THE SEED: THE CARDS: each row of YthhiffpfleacaaaGreatDoorRows.lean that lists a variable, with what it lists TIED to the program's text (the seventh form; the later family's looks); each row that meets fmt, with fmt's text TOLD by the authors' own Lean function (tested against real Go, not proved from fmt's source: count such statements apart). THE CARD IS WHAT COUNTS. Prove the row's statement (the work); the ties are given (YthhiffpfleacaaaGreatDoorTie.lean); close each card by the builder's one call (the guide's Derived/Test/ToyasCard.lean, 'card_holds'). Laid BY PROGRAM, IN A SANDBOX (cutbox-door.mjs). By AI agents, Wed Nov 11 2026. No macro, syntax, notation, axiom, sorry.
-/
import Derived.Test.YthhiffpfleacaaaGreatDoorRows
import GoSem.ClaimSeven
namespace Go.Proofs.YthhiffpfleacaaaGreatDoor
namespace Rows

/-- THE TIED CARD OF 'pennantlaw07.PrintSpread'. -/
def printSpreadCard : Claim7 := { stood := { row := printSpreadRow, standIns := [], harness := (true, "7d941c416d66f350167ad8bb1b0186acb4acdf2c0041680f0fa80e6c967ac6e4"), looks := true }, kinds := [], alts := [], laidByText := true, laidKinds := [.data, .data, .widerDeep, .widerDeep, .data, .data, .data, .data, .data, .data, .sentinel, .sentinel, .widerDeep, .widerDeep, .widerDeep, .pinned, .pinned, .pinned], laidTests := true, laidLooks := .later }
def PrintSpreadCardSaid : Prop := Claim7.holds Tryz.pinned (.plain (OpenSpec.ofChange printSpreadSpec)) printSpreadCard

/-- THE SECOND FORM's CARD OF 'pennantlaw07.PrintSpread'. -/
def printSpreadUptoCard : Claim7 := { stood := { row := printSpreadUptoRow, standIns := [], harness := (true, "7d941c416d66f350167ad8bb1b0186acb4acdf2c0041680f0fa80e6c967ac6e4"), looks := true }, kinds := [], alts := [], laidByText := true, laidKinds := [.data, .data, .widerDeep, .widerDeep, .data, .data, .data, .data, .data, .data, .sentinel, .sentinel, .widerDeep, .widerDeep, .widerDeep, .pinned, .pinned, .pinned], laidTests := true, laidLooks := .later }
def PrintSpreadUptoCardSaid : Prop := Claim7.holds Tryz.pinned (.plain (OpenSpec.upto printSpreadSpec)) printSpreadUptoCard
end Rows
end Go.Proofs.YthhiffpfleacaaaGreatDoor
