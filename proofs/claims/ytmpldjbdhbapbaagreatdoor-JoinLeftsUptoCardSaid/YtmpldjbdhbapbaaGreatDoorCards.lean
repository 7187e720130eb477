/-
  DERIVED. GIVEN WITH THE SEED: THE CARDS: each row of YtmpldjbdhbapbaaGreatDoorRows.lean that lists a variable, with what it lists TIED to the program's text (the seventh form; the later family's looks); each row that meets fmt, with fmt's text TOLD by the authors' own Lean function (tested against real Go, not proved from fmt's source: count such statements apart). THE CARD IS WHAT COUNTS. Prove the row's statement (the work); the ties are given (YtmpldjbdhbapbaaGreatDoorTie.lean); close each card by the builder's one call (the guide's Derived/Test/ToyasCard.lean, 'card_holds'). Laid BY PROGRAM, IN A SANDBOX (cutbox-door.mjs). By AI agents, Wed Nov 11 2026. No macro, syntax, notation, axiom, sorry.
-/
import Derived.Test.YtmpldjbdhbapbaaGreatDoorRows
import GoSem.ClaimSeven
namespace Go.Proofs.YtmpldjbdhbapbaaGreatDoor
namespace Rows

/-- THE TIED CARD OF 'diptychlaw13.JoinLefts'. -/
def joinLeftsCard : Claim7 := { stood := { row := joinLeftsRow, standIns := [], harness := (true, "d1eb3d4de376ea764b16a5c01bc0af4c5ee19d1118abffeeeac7242dbd67046f"), looks := true }, kinds := [], alts := [], laidByText := true, laidKinds := [.data, .data, .data, .data, .sentinel, .sentinel, .pinned], laidTests := true, laidLooks := .later }
def JoinLeftsCardSaid : Prop := Claim7.holds Tryz.pinned (.plain (OpenSpec.ofChange joinLeftsSpec)) joinLeftsCard

/-- THE SECOND FORM's CARD OF 'diptychlaw13.JoinLefts'. -/
def joinLeftsUptoCard : Claim7 := { stood := { row := joinLeftsUptoRow, standIns := [], harness := (true, "d1eb3d4de376ea764b16a5c01bc0af4c5ee19d1118abffeeeac7242dbd67046f"), looks := true }, kinds := [], alts := [], laidByText := true, laidKinds := [.data, .data, .data, .data, .sentinel, .sentinel, .pinned], laidTests := true, laidLooks := .later }
def JoinLeftsUptoCardSaid : Prop := Claim7.holds Tryz.pinned (.plain (OpenSpec.upto joinLeftsSpec)) joinLeftsUptoCard
end Rows
end Go.Proofs.YtmpldjbdhbapbaaGreatDoor
