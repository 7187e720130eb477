/-
  DERIVED. GIVEN WITH THE SEED: THE CARDS: each row of YtnnojhgnfmieoaaGreatDoorRows.lean that lists a variable, with what it lists TIED to the program's text (the seventh form; the later family's looks); each row that meets fmt, with fmt's text TOLD by the authors' own Lean function (tested against real Go, not proved from fmt's source: count such statements apart). THE CARD IS WHAT COUNTS. Prove the row's statement (the work); the ties are given (YtnnojhgnfmieoaaGreatDoorTie.lean); close each card by the builder's one call (the guide's Derived/Test/ToyasCard.lean, 'card_holds'). Laid BY PROGRAM, IN A SANDBOX (cutbox-door.mjs). By AI agents, Wed Nov 11 2026. No macro, syntax, notation, axiom, sorry.
-/
import Derived.Test.YtnnojhgnfmieoaaGreatDoorRows
import GoSem.ClaimSeven
namespace Go.Proofs.YtnnojhgnfmieoaaGreatDoor
namespace Rows

/-- THE TIED CARD OF 'diptychlaw1.DecimalSums'. -/
def decimalSumsCard : Claim7 := { stood := { row := decimalSumsRow, standIns := [], harness := (true, "1da0f61c37f848663900b97ec9ff617dce1cf47ffa3a4b025e3205c891dbe087"), looks := true }, kinds := [], alts := [], laidByText := true, laidKinds := [.data, .data, .data, .data, .sentinel, .sentinel, .pinned], laidTests := true, laidLooks := .later }
def DecimalSumsCardSaid : Prop := Claim7.holds Tryz.pinned (.plain (OpenSpec.ofChange decimalSumsSpec)) decimalSumsCard

/-- THE TIED CARD OF 'diptychlaw1.DecimalReckons'. -/
def decimalReckonsCard : Claim7 := { stood := { row := decimalReckonsRow, standIns := [], harness := (true, "1da0f61c37f848663900b97ec9ff617dce1cf47ffa3a4b025e3205c891dbe087"), looks := true }, kinds := [], alts := [], laidByText := true, laidKinds := [.data, .data, .data, .data, .sentinel, .sentinel, .pinned], laidTests := true, laidLooks := .later }
def DecimalReckonsCardSaid : Prop := Claim7.holds Tryz.pinned (.plain (OpenSpec.ofChange decimalReckonsSpec)) decimalReckonsCard

/-- THE TIED CARD OF 'diptychlaw1.DecimalReads'. -/
def decimalReadsCard : Claim7 := { stood := { row := decimalReadsRow, standIns := [], harness := (true, "1da0f61c37f848663900b97ec9ff617dce1cf47ffa3a4b025e3205c891dbe087"), looks := true }, kinds := [], alts := [], laidByText := true, laidKinds := [.data, .data, .data, .data, .sentinel, .sentinel, .pinned], laidTests := true, laidLooks := .later }
def DecimalReadsCardSaid : Prop := Claim7.holds Tryz.pinned (.plain (OpenSpec.ofChange decimalReadsSpec)) decimalReadsCard

/-- THE SECOND FORM's CARD OF 'diptychlaw1.DecimalSums'. -/
def decimalSumsUptoCard : Claim7 := { stood := { row := decimalSumsUptoRow, standIns := [], harness := (true, "1da0f61c37f848663900b97ec9ff617dce1cf47ffa3a4b025e3205c891dbe087"), looks := true }, kinds := [], alts := [], laidByText := true, laidKinds := [.data, .data, .data, .data, .sentinel, .sentinel, .pinned], laidTests := true, laidLooks := .later }
def DecimalSumsUptoCardSaid : Prop := Claim7.holds Tryz.pinned (.plain (OpenSpec.upto decimalSumsSpec)) decimalSumsUptoCard

/-- THE SECOND FORM's CARD OF 'diptychlaw1.DecimalReckons'. -/
def decimalReckonsUptoCard : Claim7 := { stood := { row := decimalReckonsUptoRow, standIns := [], harness := (true, "1da0f61c37f848663900b97ec9ff617dce1cf47ffa3a4b025e3205c891dbe087"), looks := true }, kinds := [], alts := [], laidByText := true, laidKinds := [.data, .data, .data, .data, .sentinel, .sentinel, .pinned], laidTests := true, laidLooks := .later }
def DecimalReckonsUptoCardSaid : Prop := Claim7.holds Tryz.pinned (.plain (OpenSpec.upto decimalReckonsSpec)) decimalReckonsUptoCard

/-- THE SECOND FORM's CARD OF 'diptychlaw1.DecimalReads'. -/
def decimalReadsUptoCard : Claim7 := { stood := { row := decimalReadsUptoRow, standIns := [], harness := (true, "1da0f61c37f848663900b97ec9ff617dce1cf47ffa3a4b025e3205c891dbe087"), looks := true }, kinds := [], alts := [], laidByText := true, laidKinds := [.data, .data, .data, .data, .sentinel, .sentinel, .pinned], laidTests := true, laidLooks := .later }
def DecimalReadsUptoCardSaid : Prop := Claim7.holds Tryz.pinned (.plain (OpenSpec.upto decimalReadsSpec)) decimalReadsUptoCard
end Rows
end Go.Proofs.YtnnojhgnfmieoaaGreatDoor
