/- Contracts of package logic: what Not, And, Or, Xor answer for any whole numbers (for seats without their reference). -/
import Derived.Test.YthecgifgjagmaaaGreatDoorRows
import Derived.WalkKit
import Derived.ProofKit
import Derived.OpenShut
import Derived.BigQuiet
import Derived.Deep.RegionWith
import Derived.Lib.Hide
namespace Go.Proofs.YthecgifgjagmaaaGreatDoor.logic
open Go.ChangeShapes Go.WideShapes Go.ChangeAt Go.RowKit
set_option linter.unusedVariables false

def pl (a : Int) : Int := if a = 0 ∨ a = 1 then a else 2
theorem pl_cases (a : Int) : pl a = 0 ∨ pl a = 1 ∨ pl a = 2 := by unfold pl; split <;> omega
theorem pl_lo (a : Int) : 0 ≤ pl a := by have := pl_cases a; omega
theorem pl_hi (a : Int) : pl a ≤ 2 := by have := pl_cases a; omega

theorem plain_any (a : Int) (w : World) : Calls Tryz.prog 44 #[.int .i64 a] w fun e w' => e = .returned (.int .i64 (pl a)) ∧ w' = w := by
  by_cases h0 : a = 0
  · subst h0
    go_enter Tryz.func44, Tryz.ntmps44
    go_wp2
    go_ret
    exact ⟨rfl, rfl⟩
  · by_cases h1 : a = 1
    · subst h1
      go_enter Tryz.func44, Tryz.ntmps44
      go_wp2
      go_ret
      exact ⟨rfl, rfl⟩
    · have hp : pl a = 2 := by unfold pl; rw [if_neg (by omega)]
      rw [hp]
      have g0 : (a == 0) = false := by simpa using h0
      have g1 : (a == 1) = false := by simpa using h1
      clear h0 h1 hp
      go_enter Tryz.func44, Tryz.ntmps44
      go_wp2
      go_ret
      exact ⟨rfl, rfl⟩

/-- The i-th of three. -/
def sel {α : Type} (i : Int) (x y z : α) : α := if i = 0 then x else if i = 1 then y else z
theorem ix33 (i : Int) (h0 : 0 ≤ i) (h2 : i ≤ 2) (c0 c1 c2 c3 c4 c5 c6 c7 c8 : Int) (w : World) : (Instr.index 105 (.agg #[.int .i64 c0, .int .i64 c1, .int .i64 c2, .int .i64 c3, .int .i64 c4, .int .i64 c5, .int .i64 c6, .int .i64 c7, .int .i64 c8]) (.int .i64 i)).run Tryz.prog w = .ok (.agg #[.int .i64 (sel i c0 c3 c6), .int .i64 (sel i c1 c4 c7), .int .i64 (sel i c2 c5 c8)]) w := by
  have : i = 0 ∨ i = 1 ∨ i = 2 := by omega
  rcases this with rfl | rfl | rfl <;> (show _ = _; kernel_rfl)
theorem ix32 (i : Int) (h0 : 0 ≤ i) (h2 : i ≤ 2) (k0 k1 k2 : Int) (w : World) : (Instr.index 57 (.agg #[.int .i64 k0, .int .i64 k1, .int .i64 k2]) (.int .i64 i)).run Tryz.prog w = .ok (.int .i64 (sel i k0 k1 k2)) w := by
  have : i = 0 ∨ i = 1 ∨ i = 2 := by omega
  rcases this with rfl | rfl | rfl <;> (show _ = _; kernel_rfl)

def not3 (a : Int) : Int := sel (pl a) 1 0 2
def and3 (a b : Int) : Int := sel (pl b) (sel (pl a) 0 0 0) (sel (pl a) 0 1 2) (sel (pl a) 0 2 2)
def or3 (a b : Int) : Int := sel (pl b) (sel (pl a) 0 1 2) (sel (pl a) 1 1 1) (sel (pl a) 2 1 2)
def xor3 (a b : Int) : Int := sel (pl b) (sel (pl a) 0 1 2) (sel (pl a) 1 0 2) (sel (pl a) 2 2 2)

theorem not_any (a : Int) (w : World) : Calls Tryz.prog 17 #[.int .i64 a] w fun e w' => e = .returned (.int .i64 (not3 a)) ∧ w' = w := by
  have ia := fun (w : World) c0 c1 c2 => ix32 (pl a) (pl_lo a) (pl_hi a) c0 c1 c2 w
  go_enter Tryz.func17, Tryz.ntmps17
  go_wp2_with (go_at_call 44; refine (plain_any _ _).mono ?_; rintro e w' ⟨rfl, rfl⟩)
  go_ret
  exact ⟨rfl, rfl⟩
theorem and_any (a b : Int) (w : World) : Calls Tryz.prog 40 #[.int .i64 a, .int .i64 b] w fun e w' => e = .returned (.int .i64 (and3 a b)) ∧ ∃ n, w' = w.drewN n := by
  have ia := fun (w : World) c0 c1 c2 c3 c4 c5 c6 c7 c8 => ix33 (pl a) (pl_lo a) (pl_hi a) c0 c1 c2 c3 c4 c5 c6 c7 c8 w
  have ib := fun (w : World) c0 c1 c2 => ix32 (pl b) (pl_lo b) (pl_hi b) c0 c1 c2 w
  go_enter Tryz.func40, Tryz.ntmps40
  go_wp2
  go_quiet ((go_at_call 44; exact Calls.quiet_of_same (plain_any _ _)))
  go_wp2
  go_ret
  exact ⟨rfl, _, rfl⟩
theorem or_any (a b : Int) (w : World) : Calls Tryz.prog 41 #[.int .i64 a, .int .i64 b] w fun e w' => e = .returned (.int .i64 (or3 a b)) ∧ ∃ n, w' = w.drewN n := by
  have ia := fun (w : World) c0 c1 c2 c3 c4 c5 c6 c7 c8 => ix33 (pl a) (pl_lo a) (pl_hi a) c0 c1 c2 c3 c4 c5 c6 c7 c8 w
  have ib := fun (w : World) c0 c1 c2 => ix32 (pl b) (pl_lo b) (pl_hi b) c0 c1 c2 w
  go_enter Tryz.func41, Tryz.ntmps41
  go_wp2
  go_quiet ((go_at_call 44; exact Calls.quiet_of_same (plain_any _ _)))
  go_wp2
  go_ret
  exact ⟨rfl, _, rfl⟩
theorem xor_any (a b : Int) (w : World) : Calls Tryz.prog 42 #[.int .i64 a, .int .i64 b] w fun e w' => e = .returned (.int .i64 (xor3 a b)) ∧ ∃ n, w' = w.drewN n := by
  have ia := fun (w : World) c0 c1 c2 c3 c4 c5 c6 c7 c8 => ix33 (pl a) (pl_lo a) (pl_hi a) c0 c1 c2 c3 c4 c5 c6 c7 c8 w
  have ib := fun (w : World) c0 c1 c2 => ix32 (pl b) (pl_lo b) (pl_hi b) c0 c1 c2 w
  go_enter Tryz.func42, Tryz.ntmps42
  go_wp2
  go_quiet ((go_at_call 44; exact Calls.quiet_of_same (plain_any _ _)))
  go_wp2
  go_ret
  exact ⟨rfl, _, rfl⟩
theorem wakes_any (w : World) : Calls Tryz.prog 15 #[] w fun e w' => e = .returned (.bool true) ∧ ∃ n, w' = w.drewN n := by
  have h1 : and3 0 2 = 0 := by decide
  have h2 : or3 1 2 = 1 := by decide
  have h3 : not3 1 = 0 := by decide
  have h4 : xor3 1 0 = 1 := by decide
  go_enter Tryz.func15, Tryz.ntmps15
  go_wp2_with (first | (go_at_call 17; refine (not_any _ _).mono ?_; rintro e w' ⟨rfl, rfl⟩) | (go_at_call 40; refine (and_any _ _ _).mono ?_; rintro e w' ⟨rfl, n, rfl⟩) | (go_at_call 41; refine (or_any _ _ _).mono ?_; rintro e w' ⟨rfl, n, rfl⟩) | (go_at_call 42; refine (xor_any _ _ _).mono ?_; rintro e w' ⟨rfl, n, rfl⟩))
  go_ret
  exact ⟨rfl, _, rfl⟩

end Go.Proofs.YthecgifgjagmaaaGreatDoor.logic
