/- Texts TabFits, TabKeyP, one behind the other. -/
import Derived.Test.YtidplkfhodpdhaaGreatDoorTabJnA
import Derived.Test.YtidplkfhodpdhaaGreatDoorTabNmA
import Derived.Test.YtidplkfhodpdhaaGreatDoorTabKA
import Derived.Test.YtidplkfhodpdhaaGreatDoorTabMayA
import Derived.Test.YtidplkfhodpdhaaGreatDoorTabSameA
import Derived.Test.YtidplkfhodpdhaaGreatDoorTabPA
namespace Go.Proofs.YtidplkfhodpdhaaGreatDoor.tab
open Go.ChangeShapes Go.WideShapes Go.ChangeAt Go.RowKit kit dec val
open hyp (RowA TextsA CellsStay stay_of_below textsV textsV_length own_row)
set_option linter.unusedVariables false
set_option linter.unusedSimpArgs false
end Go.Proofs.YtidplkfhodpdhaaGreatDoor.tab
namespace Go.Proofs.YtidplkfhodpdhaaGreatDoor.tab
open Go.RowKit dec val
set_option linter.unusedVariables false
set_option linter.unusedSimpArgs false
mutual
theorem encV_le9 : ∀ v, (encV v).length ≤ 9 * wtV v
 | .mk k b n t x l => by
  have hl := encL_le9 l
  rw [encV_mk, wtV, List.length_cons]
  have h1 : (txL t).length = 4 + t.size := by unfold txL; rw [List.length_append, bigL_len]; simp
  have h2 : (txL x).length = 4 + x.size := by unfold txL; rw [List.length_append, bigL_len]; simp
  split
  ·simp; omega
  split
  ·rw [bigL_len]; omega
  split
  ·rw [h1]; omega
  split
  ·rw [List.length_append, h1, h2]; omega
  split
  ·rw [List.length_append, bigL_len]; omega
  ·simp; omega
theorem encL_le9 : ∀ l, (encL l).length ≤ 9 * wtL l
 | [] => by simp [encL]
 | v :: r => by rw [encL, wtL, List.length_append]; have := encV_le9 v; have := encL_le9 r; omega
end
mutual
theorem wtV_size : ∀ v, wtV v ≤ 127 * sizeV v
 | .mk k b n t x l => by
  have := wtL_size l
  rw [wtV, sizeV]
  omega
theorem wtL_size : ∀ l, wtL l ≤ 127 * sizeL l
 | [] => by simp [wtL]
 | v :: r => by rw [wtL, sizeL]; have := wtV_size v; have := wtL_size r; omega
end
theorem sizeR_mem {r : List V} {l : List (List V)} (h : r ∈ l) : 1 + sizeL r ≤ sizeR l := by
 induction l with
 | nil => cases h
 | cons u l ih =>
  rw [sizeR]
  rcases List.mem_cons.1 h with rfl | h
  ·omega
  ·have := ih h; omega
theorem wt_light {A B : Tab} (h : lightT A B = true) : (∀ r ∈ A.rows, wtL r ≤ 381000) ∧ ∀ r ∈ B.rows, wtL r ≤ 381000 := by
 unfold lightT at h
 simp only [Bool.and_eq_true, decide_eq_true_eq] at h
 refine ⟨fun r hr => ?_, fun r hr => ?_⟩
 ·have := sizeR_mem hr; have := wtL_size r; omega
 ·have := sizeR_mem hr; have := wtL_size r; omega
theorem key_light {A : Tab} (h : ∀ r ∈ A.rows, wtL r ≤ 1100000) : KeyL A := fun r hr => by
 have := encL_le9 r
 have := h r hr
 omega
end Go.Proofs.YtidplkfhodpdhaaGreatDoor.tab
