/-
  DERIVED. GIVEN WITH THE SEED: THE CARDS: each row of YtnnojhgnfmieoaaDoorRows.lean that lists a variable, with what it lists TIED to the program's text (the seventh form; the later family's looks); each row that meets fmt, with fmt's text TOLD by the authors' own Lean function (tested against real Go, not proved from fmt's source: count such statements apart). THE CARD IS WHAT COUNTS. Prove the row's statement (the work); the ties are given (YtnnojhgnfmieoaaDoorTie.lean); close each card by the builder's one call (the guide's Derived/Test/ToyasCard.lean, 'card_holds'). Laid BY PROGRAM, IN A SANDBOX (cutbox-door.mjs). By AI agents, Wed Nov 11 2026. No macro, syntax, notation, axiom, sorry.
-/
import Derived.Test.YtnnojhgnfmieoaaDoorRows
import GoSem.ClaimSeven
namespace Go.Proofs.YtnnojhgnfmieoaaDoor
namespace Rows

/-- THE TIED CARD OF 'diptychlaw1.DecimalOrder'. -/
def decimalOrderCard : Claim7 := { stood := { row := decimalOrderRow, standIns := [], harness := (true, "c9935853e1f4fa0d47051326b00e220ec7822b2710fcf961373b95b33347e3da"), looks := true }, kinds := [], alts := [], laidByText := true, laidKinds := [.data, .data, .data, .data, .sentinel, .sentinel, .pinned], laidTests := true, laidLooks := .later }
def DecimalOrderCardSaid : Prop := Claim7.holds Tryd.pinned (.plain (OpenSpec.ofChange decimalOrderSpec)) decimalOrderCard

/-- THE TIED CARD OF 'diptychlaw1.DecimalLaws'. -/
def decimalLawsCard : Claim7 := { stood := { row := decimalLawsRow, standIns := [], harness := (true, "c9935853e1f4fa0d47051326b00e220ec7822b2710fcf961373b95b33347e3da"), looks := true }, kinds := [], alts := [], laidByText := true, laidKinds := [.data, .data, .data, .data, .sentinel, .sentinel, .pinned], laidTests := true, laidLooks := .later }
def DecimalLawsCardSaid : Prop := Claim7.holds Tryd.pinned (.plain (OpenSpec.ofChange decimalLawsSpec)) decimalLawsCard

/-- THE TIED CARD OF 'diptychlaw1.DecimalCuts'. -/
def decimalCutsCard : Claim7 := { stood := { row := decimalCutsRow, standIns := [], harness := (true, "c9935853e1f4fa0d47051326b00e220ec7822b2710fcf961373b95b33347e3da"), looks := true }, kinds := [], alts := [], laidByText := true, laidKinds := [.data, .data, .data, .data, .sentinel, .sentinel, .pinned], laidTests := true, laidLooks := .later }
def DecimalCutsCardSaid : Prop := Claim7.holds Tryd.pinned (.plain (OpenSpec.ofChange decimalCutsSpec)) decimalCutsCard

/-- THE TIED CARD OF 'diptychlaw1.DecimalEnds'. -/
def decimalEndsCard : Claim7 := { stood := { row := decimalEndsRow, standIns := [], harness := (true, "c9935853e1f4fa0d47051326b00e220ec7822b2710fcf961373b95b33347e3da"), looks := true }, kinds := [], alts := [], laidByText := true, laidKinds := [.data, .data, .data, .data, .sentinel, .sentinel, .pinned], laidTests := true, laidLooks := .later }
def DecimalEndsCardSaid : Prop := Claim7.holds Tryd.pinned (.plain (OpenSpec.ofChange decimalEndsSpec)) decimalEndsCard

/-- THE SECOND FORM's CARD OF 'diptychlaw1.DecimalOrder'. -/
def decimalOrderUptoCard : Claim7 := { stood := { row := decimalOrderUptoRow, standIns := [], harness := (true, "c9935853e1f4fa0d47051326b00e220ec7822b2710fcf961373b95b33347e3da"), looks := true }, kinds := [], alts := [], laidByText := true, laidKinds := [.data, .data, .data, .data, .sentinel, .sentinel, .pinned], laidTests := true, laidLooks := .later }
def DecimalOrderUptoCardSaid : Prop := Claim7.holds Tryd.pinned (.plain (OpenSpec.upto decimalOrderSpec)) decimalOrderUptoCard

/-- THE SECOND FORM's CARD OF 'diptychlaw1.DecimalLaws'. -/
def decimalLawsUptoCard : Claim7 := { stood := { row := decimalLawsUptoRow, standIns := [], harness := (true, "c9935853e1f4fa0d47051326b00e220ec7822b2710fcf961373b95b33347e3da"), looks := true }, kinds := [], alts := [], laidByText := true, laidKinds := [.data, .data, .data, .data, .sentinel, .sentinel, .pinned], laidTests := true, laidLooks := .later }
def DecimalLawsUptoCardSaid : Prop := Claim7.holds Tryd.pinned (.plain (OpenSpec.upto decimalLawsSpec)) decimalLawsUptoCard

/-- THE SECOND FORM's CARD OF 'diptychlaw1.DecimalCuts'. -/
def decimalCutsUptoCard : Claim7 := { stood := { row := decimalCutsUptoRow, standIns := [], harness := (true, "c9935853e1f4fa0d47051326b00e220ec7822b2710fcf961373b95b33347e3da"), looks := true }, kinds := [], alts := [], laidByText := true, laidKinds := [.data, .data, .data, .data, .sentinel, .sentinel, .pinned], laidTests := true, laidLooks := .later }
def DecimalCutsUptoCardSaid : Prop := Claim7.holds Tryd.pinned (.plain (OpenSpec.upto decimalCutsSpec)) decimalCutsUptoCard

/-- THE SECOND FORM's CARD OF 'diptychlaw1.DecimalEnds'. -/
def decimalEndsUptoCard : Claim7 := { stood := { row := decimalEndsUptoRow, standIns := [], harness := (true, "c9935853e1f4fa0d47051326b00e220ec7822b2710fcf961373b95b33347e3da"), looks := true }, kinds := [], alts := [], laidByText := true, laidKinds := [.data, .data, .data, .data, .sentinel, .sentinel, .pinned], laidTests := true, laidLooks := .later }
def DecimalEndsUptoCardSaid : Prop := Claim7.holds Tryd.pinned (.plain (OpenSpec.upto decimalEndsSpec)) decimalEndsUptoCard
end Rows
end Go.Proofs.YtnnojhgnfmieoaaDoor
