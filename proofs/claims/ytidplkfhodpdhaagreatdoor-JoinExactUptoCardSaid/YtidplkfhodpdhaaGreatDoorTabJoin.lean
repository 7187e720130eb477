/- Contract of rows.Join: the walk. -/
import Derived.Test.YtidplkfhodpdhaaGreatDoorTabJd
import Derived.Test.YtidplkfhodpdhaaGreatDoorTabJoinM
import Derived.Test.YtidplkfhodpdhaaGreatDoorTabPA
import Derived.Test.YtidplkfhodpdhaaGreatDoorTabKA
namespace Go.Proofs.YtidplkfhodpdhaaGreatDoor.tab
open Go.ChangeShapes Go.WideShapes Go.ChangeAt Go.RowKit kit dec val
open hyp (RowA TextsA CellsStay stay_of_below textsV textsV_length own_row)
set_option linter.unusedVariables false
set_option linter.unusedSimpArgs false
def joinZ (A B : Tab) : Tab := if mayT A = true ∧ mayT B = true then joinT A B else ⟨[], []⟩
end Go.Proofs.YtidplkfhodpdhaaGreatDoor.tab
