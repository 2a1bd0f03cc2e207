/-
  DERIVED. GIVEN WITH THE SEED: THE CARDS: each row of YtjdabjmjldiodaaGreatDoorRows.lean that lists a variable, with what it lists TIED to the program's text (the seventh form; the later family's looks); each row that meets fmt, with fmt's text TOLD by the authors' own Lean function (tested against real Go, not proved from fmt's source: count such statements apart). THE CARD IS WHAT COUNTS. Prove the row's statement (the work); the ties are given (YtjdabjmjldiodaaGreatDoorTie.lean); close each card by the builder's one call (the guide's Derived/Test/ToyasCard.lean, 'card_holds'). Laid BY PROGRAM, IN A SANDBOX (cutbox-door.mjs). By AI agents, Wed Nov 11 2026. No macro, syntax, notation, axiom, sorry.
-/
import Derived.Test.YtjdabjmjldiodaaGreatDoorRows
import GoSem.ClaimSeven
namespace Go.Proofs.YtjdabjmjldiodaaGreatDoor
namespace Rows

/-- THE TIED CARD OF 'pennantlaw23.BasicBack'. -/
def basicBackCard : Claim7 := { stood := { row := basicBackRow, standIns := [], harness := (true, "6da337421393a306339eb22609e1828f32f357c7e94144c52cb6dd7ec7c5930c"), looks := true }, kinds := [], alts := [], laidByText := true, laidKinds := [.data, .data, .widerDeep, .widerDeep, .data, .data, .data, .data, .data, .data, .handle, .sentinel, .sentinel, .pinned, .pinned, .pinned], laidTests := true, laidLooks := .later }
def BasicBackCardSaid : Prop := Claim7.holds Tryz.pinned (.plain (OpenSpec.ofChange basicBackSpec)) basicBackCard

/-- THE TIED CARD OF 'pennantlaw23.BasicHears'. -/
def basicHearsCard : Claim7 := { stood := { row := basicHearsRow, standIns := [], harness := (true, "6da337421393a306339eb22609e1828f32f357c7e94144c52cb6dd7ec7c5930c"), looks := true }, kinds := [], alts := [], laidByText := true, laidKinds := [.data, .data, .widerDeep, .widerDeep, .data, .data, .data, .data, .data, .data, .handle, .sentinel, .sentinel, .pinned, .pinned, .pinned], laidTests := true, laidLooks := .later }
def BasicHearsCardSaid : Prop := Claim7.holds Tryz.pinned (.plain (OpenSpec.ofChange basicHearsSpec)) basicHearsCard

/-- THE SECOND FORM's CARD OF 'pennantlaw23.BasicBack'. -/
def basicBackUptoCard : Claim7 := { stood := { row := basicBackUptoRow, standIns := [], harness := (true, "6da337421393a306339eb22609e1828f32f357c7e94144c52cb6dd7ec7c5930c"), looks := true }, kinds := [], alts := [], laidByText := true, laidKinds := [.data, .data, .widerDeep, .widerDeep, .data, .data, .data, .data, .data, .data, .handle, .sentinel, .sentinel, .pinned, .pinned, .pinned], laidTests := true, laidLooks := .later }
def BasicBackUptoCardSaid : Prop := Claim7.holds Tryz.pinned (.plain (OpenSpec.upto basicBackSpec)) basicBackUptoCard

/-- THE SECOND FORM's CARD OF 'pennantlaw23.BasicHears'. -/
def basicHearsUptoCard : Claim7 := { stood := { row := basicHearsUptoRow, standIns := [], harness := (true, "6da337421393a306339eb22609e1828f32f357c7e94144c52cb6dd7ec7c5930c"), looks := true }, kinds := [], alts := [], laidByText := true, laidKinds := [.data, .data, .widerDeep, .widerDeep, .data, .data, .data, .data, .data, .data, .handle, .sentinel, .sentinel, .pinned, .pinned, .pinned], laidTests := true, laidLooks := .later }
def BasicHearsUptoCardSaid : Prop := Claim7.holds Tryz.pinned (.plain (OpenSpec.upto basicHearsSpec)) basicHearsUptoCard
end Rows
end Go.Proofs.YtjdabjmjldiodaaGreatDoor
