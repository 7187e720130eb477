/- Plain: a whole number told digit by digit. -/
import Derived.Test.YthecgifgjagmaaaGreatDoorDecNum
namespace Go.Proofs.YthecgifgjagmaaaGreatDoor.dec
set_option linter.unusedVariables false
theorem dd0 (d : Nat) (h : d < 10) : Lib.decDigits d = [dg d] := by rw [Lib.decDigits, dif_pos h]; rfl
/-- One round of telling: the last digit is put ahead. -/
theorem tell_step (M : Nat) (s t : List UInt8) (h : Lib.decDigits M ++ s = t) : (M < 10 → dg (M % 10) :: s = t) ∧ (10 ≤ M → Lib.decDigits (M / 10) ++ (dg (M % 10) :: s) = t) := by
  constructor
  · intro hm
    rw [← h, dd0 M hm, Nat.mod_eq_of_lt hm]; rfl
  · intro hm
    rw [← h, Lib.decDigits.eq_1 M, dif_neg (by omega)]
    simp [dg]
end Go.Proofs.YthecgifgjagmaaaGreatDoor.dec
