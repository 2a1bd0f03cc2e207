/-
  DERIVED. GIVEN WITH THE SEED: THE CARDS: each row of YtdkchodgklpomaaGreatDoorRows.lean that lists a variable, with what it lists TIED to the program's text (the seventh form; the later family's looks); each row that meets fmt, with fmt's text TOLD by the authors' own Lean function (tested against real Go, not proved from fmt's source: count such statements apart). THE CARD IS WHAT COUNTS. Prove the row's statement (the work); the ties are given (YtdkchodgklpomaaGreatDoorTie.lean); close each card by the builder's one call (the guide's Derived/Test/ToyasCard.lean, 'card_holds'). Laid BY PROGRAM, IN A SANDBOX (cutbox-door.mjs). By AI agents, Wed Nov 11 2026. No macro, syntax, notation, axiom, sorry.
-/
import Derived.Test.YtdkchodgklpomaaGreatDoorRows
import GoSem.ClaimSeven
namespace Go.Proofs.YtdkchodgklpomaaGreatDoor
namespace Rows

/-- THE TIED CARD OF 'pennantlaw06.ParseParens'. -/
def parseParensCard : Claim7 := { stood := { row := parseParensRow, standIns := [], harness := (true, "4f0dfc1f908ff48b448c1f523d82cbed67c888fdffb4e66fea6a868615751529"), looks := true }, kinds := [], alts := [], laidByText := true, laidKinds := [.data, .data, .widerDeep, .widerDeep, .data, .data, .data, .data, .data, .data, .sentinel, .sentinel, .widerDeep, .widerDeep, .widerDeep, .pinned, .pinned, .pinned], laidTests := true, laidLooks := .later }
def ParseParensCardSaid : Prop := Claim7.holds Tryz.pinned (.plain (OpenSpec.ofChange parseParensSpec)) parseParensCard

/-- THE TIED CARD OF 'pennantlaw06.ParseShape'. -/
def parseShapeCard : Claim7 := { stood := { row := parseShapeRow, standIns := [], harness := (true, "4f0dfc1f908ff48b448c1f523d82cbed67c888fdffb4e66fea6a868615751529"), looks := true }, kinds := [], alts := [], laidByText := true, laidKinds := [.data, .data, .widerDeep, .widerDeep, .data, .data, .data, .data, .data, .data, .sentinel, .sentinel, .widerDeep, .widerDeep, .widerDeep, .pinned, .pinned, .pinned], laidTests := true, laidLooks := .later }
def ParseShapeCardSaid : Prop := Claim7.holds Tryz.pinned (.plain (OpenSpec.ofChange parseShapeSpec)) parseShapeCard

/-- THE TIED CARD OF 'pennantlaw06.ParseJoins'. -/
def parseJoinsCard : Claim7 := { stood := { row := parseJoinsRow, standIns := [], harness := (true, "4f0dfc1f908ff48b448c1f523d82cbed67c888fdffb4e66fea6a868615751529"), looks := true }, kinds := [], alts := [], laidByText := true, laidKinds := [.data, .data, .widerDeep, .widerDeep, .data, .data, .data, .data, .data, .data, .sentinel, .sentinel, .widerDeep, .widerDeep, .widerDeep, .pinned, .pinned, .pinned], laidTests := true, laidLooks := .later }
def ParseJoinsCardSaid : Prop := Claim7.holds Tryz.pinned (.plain (OpenSpec.ofChange parseJoinsSpec)) parseJoinsCard

/-- THE SECOND FORM's CARD OF 'pennantlaw06.ParseParens'. -/
def parseParensUptoCard : Claim7 := { stood := { row := parseParensUptoRow, standIns := [], harness := (true, "4f0dfc1f908ff48b448c1f523d82cbed67c888fdffb4e66fea6a868615751529"), looks := true }, kinds := [], alts := [], laidByText := true, laidKinds := [.data, .data, .widerDeep, .widerDeep, .data, .data, .data, .data, .data, .data, .sentinel, .sentinel, .widerDeep, .widerDeep, .widerDeep, .pinned, .pinned, .pinned], laidTests := true, laidLooks := .later }
def ParseParensUptoCardSaid : Prop := Claim7.holds Tryz.pinned (.plain (OpenSpec.upto parseParensSpec)) parseParensUptoCard

/-- THE SECOND FORM's CARD OF 'pennantlaw06.ParseShape'. -/
def parseShapeUptoCard : Claim7 := { stood := { row := parseShapeUptoRow, standIns := [], harness := (true, "4f0dfc1f908ff48b448c1f523d82cbed67c888fdffb4e66fea6a868615751529"), looks := true }, kinds := [], alts := [], laidByText := true, laidKinds := [.data, .data, .widerDeep, .widerDeep, .data, .data, .data, .data, .data, .data, .sentinel, .sentinel, .widerDeep, .widerDeep, .widerDeep, .pinned, .pinned, .pinned], laidTests := true, laidLooks := .later }
def ParseShapeUptoCardSaid : Prop := Claim7.holds Tryz.pinned (.plain (OpenSpec.upto parseShapeSpec)) parseShapeUptoCard

/-- THE SECOND FORM's CARD OF 'pennantlaw06.ParseJoins'. -/
def parseJoinsUptoCard : Claim7 := { stood := { row := parseJoinsUptoRow, standIns := [], harness := (true, "4f0dfc1f908ff48b448c1f523d82cbed67c888fdffb4e66fea6a868615751529"), looks := true }, kinds := [], alts := [], laidByText := true, laidKinds := [.data, .data, .widerDeep, .widerDeep, .data, .data, .data, .data, .data, .data, .sentinel, .sentinel, .widerDeep, .widerDeep, .widerDeep, .pinned, .pinned, .pinned], laidTests := true, laidLooks := .later }
def ParseJoinsUptoCardSaid : Prop := Claim7.holds Tryz.pinned (.plain (OpenSpec.upto parseJoinsSpec)) parseJoinsUptoCard
end Rows
end Go.Proofs.YtdkchodgklpomaaGreatDoor
