/-
  DERIVED. GIVEN WITH THE SEED: THE CARDS: each row of YthecgifgjagmaaaGreatDoorRows.lean that lists a variable, with what it lists TIED to the program's text (the seventh form; the later family's looks); each row that meets fmt, with fmt's text TOLD by the authors' own Lean function (tested against real Go, not proved from fmt's source: count such statements apart). THE CARD IS WHAT COUNTS. Prove the row's statement (the work); the ties are given (YthecgifgjagmaaaGreatDoorTie.lean); close each card by the builder's one call (the guide's Derived/Test/ToyasCard.lean, 'card_holds'). Laid BY PROGRAM, IN A SANDBOX (cutbox-door.mjs). By AI agents, Wed Nov 11 2026. No macro, syntax, notation, axiom, sorry.
-/
import Derived.Test.YthecgifgjagmaaaGreatDoorRows
import GoSem.ClaimSeven
namespace Go.Proofs.YthecgifgjagmaaaGreatDoor
namespace Rows

/-- THE TIED CARD OF 'diptychlaw3.LogicOf'. -/
def logicOfCard : Claim7 := { stood := { row := logicOfRow, standIns := [], harness := (true, "2080214037ec86daff79ab70f96052d1011728f769c3f38fed92afc55e28f25a"), looks := true }, kinds := [], alts := [], laidByText := true, laidKinds := [.data, .data, .data, .data, .sentinel, .sentinel, .pinned], laidTests := true, laidLooks := .later }
def LogicOfCardSaid : Prop := Claim7.holds Tryz.pinned (.plain (OpenSpec.ofChange logicOfSpec)) logicOfCard

/-- THE TIED CARD OF 'diptychlaw3.LogicValues'. -/
def logicValuesCard : Claim7 := { stood := { row := logicValuesRow, standIns := [], harness := (true, "2080214037ec86daff79ab70f96052d1011728f769c3f38fed92afc55e28f25a"), looks := true }, kinds := [], alts := [], laidByText := true, laidKinds := [.data, .data, .data, .data, .sentinel, .sentinel, .pinned], laidTests := true, laidLooks := .later }
def LogicValuesCardSaid : Prop := Claim7.holds Tryz.pinned (.plain (OpenSpec.ofChange logicValuesSpec)) logicValuesCard

/-- THE TIED CARD OF 'diptychlaw2.ValueEncodes'. -/
def valueEncodesCard : Claim7 := { stood := { row := valueEncodesRow, standIns := [], harness := (true, "2080214037ec86daff79ab70f96052d1011728f769c3f38fed92afc55e28f25a"), looks := true }, kinds := [], alts := [], laidByText := true, laidKinds := [.data, .data, .data, .data, .sentinel, .sentinel, .pinned], laidTests := true, laidLooks := .later }
def ValueEncodesCardSaid : Prop := Claim7.holds Tryz.pinned (.plain (OpenSpec.ofChange valueEncodesSpec)) valueEncodesCard

/-- THE TIED CARD OF 'diptychlaw2.ValueEqual'. -/
def valueEqualCard : Claim7 := { stood := { row := valueEqualRow, standIns := [], harness := (true, "2080214037ec86daff79ab70f96052d1011728f769c3f38fed92afc55e28f25a"), looks := true }, kinds := [], alts := [], laidByText := true, laidKinds := [.data, .data, .data, .data, .sentinel, .sentinel, .pinned], laidTests := true, laidLooks := .later }
def ValueEqualCardSaid : Prop := Claim7.holds Tryz.pinned (.plain (OpenSpec.ofChange valueEqualSpec)) valueEqualCard

/-- THE TIED CARD OF 'diptychlaw2.ValueDecodes'. -/
def valueDecodesCard : Claim7 := { stood := { row := valueDecodesRow, standIns := [], harness := (true, "2080214037ec86daff79ab70f96052d1011728f769c3f38fed92afc55e28f25a"), looks := true }, kinds := [], alts := [], laidByText := true, laidKinds := [.data, .data, .data, .data, .sentinel, .sentinel, .pinned], laidTests := true, laidLooks := .later }
def ValueDecodesCardSaid : Prop := Claim7.holds Tryz.pinned (.plain (OpenSpec.ofChange valueDecodesSpec)) valueDecodesCard

/-- THE TIED CARD OF 'diptychlaw2.ValueOrder'. -/
def valueOrderCard : Claim7 := { stood := { row := valueOrderRow, standIns := [], harness := (true, "2080214037ec86daff79ab70f96052d1011728f769c3f38fed92afc55e28f25a"), looks := true }, kinds := [], alts := [], laidByText := true, laidKinds := [.data, .data, .data, .data, .sentinel, .sentinel, .pinned], laidTests := true, laidLooks := .later }
def ValueOrderCardSaid : Prop := Claim7.holds Tryz.pinned (.plain (OpenSpec.ofChange valueOrderSpec)) valueOrderCard

/-- THE TIED CARD OF 'diptychlaw2.ValueReckons'. -/
def valueReckonsCard : Claim7 := { stood := { row := valueReckonsRow, standIns := [], harness := (true, "2080214037ec86daff79ab70f96052d1011728f769c3f38fed92afc55e28f25a"), looks := true }, kinds := [], alts := [], laidByText := true, laidKinds := [.data, .data, .data, .data, .sentinel, .sentinel, .pinned], laidTests := true, laidLooks := .later }
def ValueReckonsCardSaid : Prop := Claim7.holds Tryz.pinned (.plain (OpenSpec.ofChange valueReckonsSpec)) valueReckonsCard

/-- THE SECOND FORM's CARD OF 'diptychlaw3.LogicOf'. -/
def logicOfUptoCard : Claim7 := { stood := { row := logicOfUptoRow, standIns := [], harness := (true, "2080214037ec86daff79ab70f96052d1011728f769c3f38fed92afc55e28f25a"), looks := true }, kinds := [], alts := [], laidByText := true, laidKinds := [.data, .data, .data, .data, .sentinel, .sentinel, .pinned], laidTests := true, laidLooks := .later }
def LogicOfUptoCardSaid : Prop := Claim7.holds Tryz.pinned (.plain (OpenSpec.upto logicOfSpec)) logicOfUptoCard

/-- THE SECOND FORM's CARD OF 'diptychlaw3.LogicValues'. -/
def logicValuesUptoCard : Claim7 := { stood := { row := logicValuesUptoRow, standIns := [], harness := (true, "2080214037ec86daff79ab70f96052d1011728f769c3f38fed92afc55e28f25a"), looks := true }, kinds := [], alts := [], laidByText := true, laidKinds := [.data, .data, .data, .data, .sentinel, .sentinel, .pinned], laidTests := true, laidLooks := .later }
def LogicValuesUptoCardSaid : Prop := Claim7.holds Tryz.pinned (.plain (OpenSpec.upto logicValuesSpec)) logicValuesUptoCard

/-- THE SECOND FORM's CARD OF 'diptychlaw2.ValueEncodes'. -/
def valueEncodesUptoCard : Claim7 := { stood := { row := valueEncodesUptoRow, standIns := [], harness := (true, "2080214037ec86daff79ab70f96052d1011728f769c3f38fed92afc55e28f25a"), looks := true }, kinds := [], alts := [], laidByText := true, laidKinds := [.data, .data, .data, .data, .sentinel, .sentinel, .pinned], laidTests := true, laidLooks := .later }
def ValueEncodesUptoCardSaid : Prop := Claim7.holds Tryz.pinned (.plain (OpenSpec.upto valueEncodesSpec)) valueEncodesUptoCard

/-- THE SECOND FORM's CARD OF 'diptychlaw2.ValueEqual'. -/
def valueEqualUptoCard : Claim7 := { stood := { row := valueEqualUptoRow, standIns := [], harness := (true, "2080214037ec86daff79ab70f96052d1011728f769c3f38fed92afc55e28f25a"), looks := true }, kinds := [], alts := [], laidByText := true, laidKinds := [.data, .data, .data, .data, .sentinel, .sentinel, .pinned], laidTests := true, laidLooks := .later }
def ValueEqualUptoCardSaid : Prop := Claim7.holds Tryz.pinned (.plain (OpenSpec.upto valueEqualSpec)) valueEqualUptoCard

/-- THE SECOND FORM's CARD OF 'diptychlaw2.ValueDecodes'. -/
def valueDecodesUptoCard : Claim7 := { stood := { row := valueDecodesUptoRow, standIns := [], harness := (true, "2080214037ec86daff79ab70f96052d1011728f769c3f38fed92afc55e28f25a"), looks := true }, kinds := [], alts := [], laidByText := true, laidKinds := [.data, .data, .data, .data, .sentinel, .sentinel, .pinned], laidTests := true, laidLooks := .later }
def ValueDecodesUptoCardSaid : Prop := Claim7.holds Tryz.pinned (.plain (OpenSpec.upto valueDecodesSpec)) valueDecodesUptoCard

/-- THE SECOND FORM's CARD OF 'diptychlaw2.ValueOrder'. -/
def valueOrderUptoCard : Claim7 := { stood := { row := valueOrderUptoRow, standIns := [], harness := (true, "2080214037ec86daff79ab70f96052d1011728f769c3f38fed92afc55e28f25a"), looks := true }, kinds := [], alts := [], laidByText := true, laidKinds := [.data, .data, .data, .data, .sentinel, .sentinel, .pinned], laidTests := true, laidLooks := .later }
def ValueOrderUptoCardSaid : Prop := Claim7.holds Tryz.pinned (.plain (OpenSpec.upto valueOrderSpec)) valueOrderUptoCard

/-- THE SECOND FORM's CARD OF 'diptychlaw2.ValueReckons'. -/
def valueReckonsUptoCard : Claim7 := { stood := { row := valueReckonsUptoRow, standIns := [], harness := (true, "2080214037ec86daff79ab70f96052d1011728f769c3f38fed92afc55e28f25a"), looks := true }, kinds := [], alts := [], laidByText := true, laidKinds := [.data, .data, .data, .data, .sentinel, .sentinel, .pinned], laidTests := true, laidLooks := .later }
def ValueReckonsUptoCardSaid : Prop := Claim7.holds Tryz.pinned (.plain (OpenSpec.upto valueReckonsSpec)) valueReckonsUptoCard
end Rows
end Go.Proofs.YthecgifgjagmaaaGreatDoor
