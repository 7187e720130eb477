/- Texts JnLen, TabPartP, one behind the other. -/
import Derived.Test.YtidplkfhodpdhaaGreatDoorTabPA
import Derived.Test.YtidplkfhodpdhaaGreatDoorTabFkA
import Derived.Test.YtidplkfhodpdhaaGreatDoorTabUnA
namespace Go.Proofs.YtidplkfhodpdhaaGreatDoor.tab
open Go.RowKit dec val
set_option linter.unusedVariables false
set_option linter.unusedSimpArgs false
end Go.Proofs.YtidplkfhodpdhaaGreatDoor.tab
namespace Go.Proofs.YtidplkfhodpdhaaGreatDoor.tab
open Go.RowKit dec val
set_option linter.unusedVariables false
set_option linter.unusedSimpArgs false
theorem unionT_len {a b : Tab} (hl : a.vars.length + b.vars.length ≤ 64) : (unionT a b).rows.length = a.rows.length + b.rows.length := by
 have hab : (b.vars.foldl addN a.vars).length ≤ 64 := Nat.le_trans (foldN_len _ _) hl
 unfold unionT
 rw [if_pos hab]
 simp
theorem distT_len (a : Tab) : (distT a).rows.length ≤ a.rows.length := by
 rw [distK_end]
 exact distK_len a _
end Go.Proofs.YtidplkfhodpdhaaGreatDoor.tab
