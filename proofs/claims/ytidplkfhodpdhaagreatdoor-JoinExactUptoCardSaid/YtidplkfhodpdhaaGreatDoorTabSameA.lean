/- Texts TabSame, TabSame2, one behind the other. -/
import Derived.Test.YtidplkfhodpdhaaGreatDoorTabKA
namespace Go.Proofs.YtidplkfhodpdhaaGreatDoor.tab
open Go.ChangeShapes Go.WideShapes Go.ChangeAt Go.RowKit kit dec val
open hyp (RowA TextsA CellsStay stay_of_below textsV textsV_length own_row)
set_option linter.unusedVariables false
set_option linter.unusedSimpArgs false
end Go.Proofs.YtidplkfhodpdhaaGreatDoor.tab
namespace Go.Proofs.YtidplkfhodpdhaaGreatDoor.tab
open Go.ChangeShapes Go.WideShapes Go.ChangeAt Go.RowKit kit dec val
open hyp (RowA TextsA CellsStay stay_of_below textsV textsV_length own_row)
set_option linter.unusedVariables false
set_option linter.unusedSimpArgs false
theorem row_may {n : Nat} {r : List V} (h : rowB n r = true) : ∀ v ∈ r, mayV v = true := by
 unfold rowB at h
 rw [Bool.and_eq_true, List.all_eq_true] at h
 exact h.2
end Go.Proofs.YtidplkfhodpdhaaGreatDoor.tab
