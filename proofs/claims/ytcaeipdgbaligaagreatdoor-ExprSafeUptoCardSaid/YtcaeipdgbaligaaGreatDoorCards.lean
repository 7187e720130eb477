/-
  DERIVED. GIVEN WITH THE SEED: THE CARDS: each row of YtcaeipdgbaligaaGreatDoorRows.lean that lists a variable, with what it lists TIED to the program's text (the seventh form; the later family's looks); each row that meets fmt, with fmt's text TOLD by the authors' own Lean function (tested against real Go, not proved from fmt's source: count such statements apart). THE CARD IS WHAT COUNTS. Prove the row's statement (the work); the ties are given (YtcaeipdgbaligaaGreatDoorTie.lean); close each card by the builder's one call (the guide's Derived/Test/ToyasCard.lean, 'card_holds'). Laid BY PROGRAM, IN A SANDBOX (cutbox-door.mjs). By AI agents, Wed Nov 11 2026. No macro, syntax, notation, axiom, sorry.
-/
import Derived.Test.YtcaeipdgbaligaaGreatDoorRows
import GoSem.ClaimSeven
namespace Go.Proofs.YtcaeipdgbaligaaGreatDoor
namespace Rows

/-- THE TIED CARD OF 'diptychlaw8.ExprSafe'. -/
def exprSafeCard : Claim7 := { stood := { row := exprSafeRow, standIns := [], harness := (true, "40b39c69277e4e4ccddabf31f78117fe5137af82b223bab84a4f196d844a8185"), looks := true }, kinds := [], alts := [], laidByText := true, laidKinds := [.data, .data, .data, .data, .sentinel, .sentinel, .pinned], laidTests := true, laidLooks := .later }
def ExprSafeCardSaid : Prop := Claim7.holds Tryz.pinned (.plain (OpenSpec.ofChange exprSafeSpec)) exprSafeCard

/-- THE SECOND FORM's CARD OF 'diptychlaw8.ExprSafe'. -/
def exprSafeUptoCard : Claim7 := { stood := { row := exprSafeUptoRow, standIns := [], harness := (true, "40b39c69277e4e4ccddabf31f78117fe5137af82b223bab84a4f196d844a8185"), looks := true }, kinds := [], alts := [], laidByText := true, laidKinds := [.data, .data, .data, .data, .sentinel, .sentinel, .pinned], laidTests := true, laidLooks := .later }
def ExprSafeUptoCardSaid : Prop := Claim7.holds Tryz.pinned (.plain (OpenSpec.upto exprSafeSpec)) exprSafeUptoCard
end Rows
end Go.Proofs.YtcaeipdgbaligaaGreatDoor
