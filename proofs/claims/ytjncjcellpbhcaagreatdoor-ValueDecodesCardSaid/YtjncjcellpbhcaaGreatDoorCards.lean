/-
  DERIVED. GIVEN WITH THE SEED: THE CARDS: each row of YtjncjcellpbhcaaGreatDoorRows.lean that lists a variable, with what it lists TIED to the program's text (the seventh form; the later family's looks); each row that meets fmt, with fmt's text TOLD by the authors' own Lean function (tested against real Go, not proved from fmt's source: count such statements apart). THE CARD IS WHAT COUNTS. Prove the row's statement (the work); the ties are given (YtjncjcellpbhcaaGreatDoorTie.lean); close each card by the builder's one call (the guide's Derived/Test/ToyasCard.lean, 'card_holds'). Laid BY PROGRAM, IN A SANDBOX (cutbox-door.mjs). By AI agents, Wed Nov 11 2026. No macro, syntax, notation, axiom, sorry.
-/
import Derived.Test.YtjncjcellpbhcaaGreatDoorRows
import GoSem.ClaimSeven
namespace Go.Proofs.YtjncjcellpbhcaaGreatDoor
namespace Rows

/-- THE TIED CARD OF 'diptychlaw2.ValueDecodes'. -/
def valueDecodesCard : Claim7 := { stood := { row := valueDecodesRow, standIns := [], harness := (true, "25b5b34728ccf0dcf9e300508e4ae7bd747cf157303c1920865febb309db6660"), looks := true }, kinds := [], alts := [], laidByText := true, laidKinds := [.data, .data, .data, .data, .sentinel, .sentinel, .pinned], laidTests := true, laidLooks := .later }
def ValueDecodesCardSaid : Prop := Claim7.holds Tryz.pinned (.plain (OpenSpec.ofChange valueDecodesSpec)) valueDecodesCard

/-- THE TIED CARD OF 'diptychlaw2.ValueReckons'. -/
def valueReckonsCard : Claim7 := { stood := { row := valueReckonsRow, standIns := [], harness := (true, "25b5b34728ccf0dcf9e300508e4ae7bd747cf157303c1920865febb309db6660"), looks := true }, kinds := [], alts := [], laidByText := true, laidKinds := [.data, .data, .data, .data, .sentinel, .sentinel, .pinned], laidTests := true, laidLooks := .later }
def ValueReckonsCardSaid : Prop := Claim7.holds Tryz.pinned (.plain (OpenSpec.ofChange valueReckonsSpec)) valueReckonsCard

/-- THE SECOND FORM's CARD OF 'diptychlaw2.ValueDecodes'. -/
def valueDecodesUptoCard : Claim7 := { stood := { row := valueDecodesUptoRow, standIns := [], harness := (true, "25b5b34728ccf0dcf9e300508e4ae7bd747cf157303c1920865febb309db6660"), looks := true }, kinds := [], alts := [], laidByText := true, laidKinds := [.data, .data, .data, .data, .sentinel, .sentinel, .pinned], laidTests := true, laidLooks := .later }
def ValueDecodesUptoCardSaid : Prop := Claim7.holds Tryz.pinned (.plain (OpenSpec.upto valueDecodesSpec)) valueDecodesUptoCard

/-- THE SECOND FORM's CARD OF 'diptychlaw2.ValueReckons'. -/
def valueReckonsUptoCard : Claim7 := { stood := { row := valueReckonsUptoRow, standIns := [], harness := (true, "25b5b34728ccf0dcf9e300508e4ae7bd747cf157303c1920865febb309db6660"), looks := true }, kinds := [], alts := [], laidByText := true, laidKinds := [.data, .data, .data, .data, .sentinel, .sentinel, .pinned], laidTests := true, laidLooks := .later }
def ValueReckonsUptoCardSaid : Prop := Claim7.holds Tryz.pinned (.plain (OpenSpec.upto valueReckonsSpec)) valueReckonsUptoCard
end Rows
end Go.Proofs.YtjncjcellpbhcaaGreatDoor
