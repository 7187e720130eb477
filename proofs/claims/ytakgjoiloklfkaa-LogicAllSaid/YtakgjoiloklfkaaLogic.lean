/- Contracts of package logic and of its reference: what Not, And, Or, Xor answer for any whole numbers. -/
import Derived.Test.YtakgjoiloklfkaaRows
import Derived.WalkKit
import Derived.ProofKit
import Derived.OpenShut
import Derived.BigQuiet
import Derived.Deep.RegionWith
import Derived.Lib.Hide
namespace Go.Proofs.Ytakgjoiloklfkaa.logic
open Go.ChangeShapes Go.WideShapes Go.ChangeAt Go.RowKit
set_option linter.unusedVariables false

def pl (a : Int) : Int := if a = 0 ∨ a = 1 then a else 2
theorem pl_cases (a : Int) : pl a = 0 ∨ pl a = 1 ∨ pl a = 2 := by unfold pl; split <;> omega
theorem pl_lo (a : Int) : 0 ≤ pl a := by have := pl_cases a; omega
theorem pl_hi (a : Int) : pl a ≤ 2 := by have := pl_cases a; omega

theorem plain_any (a : Int) (w : World) : Calls Try.prog 18 #[.int .i64 a] w fun e w' => e = .returned (.int .i64 (pl a)) ∧ w' = w := by
  by_cases h0 : a = 0
  · subst h0
    go_enter Try.func18, Try.ntmps18
    go_wp2
    go_ret
    exact ⟨rfl, rfl⟩
  · by_cases h1 : a = 1
    · subst h1
      go_enter Try.func18, Try.ntmps18
      go_wp2
      go_ret
      exact ⟨rfl, rfl⟩
    · have hp : pl a = 2 := by unfold pl; rw [if_neg (by omega)]
      rw [hp]
      have g0 : (a == 0) = false := by simpa using h0
      have g1 : (a == 1) = false := by simpa using h1
      clear h0 h1 hp
      go_enter Try.func18, Try.ntmps18
      go_wp2
      go_ret
      exact ⟨rfl, rfl⟩

/-- The i-th of three. -/
def sel {α : Type} (i : Int) (x y z : α) : α := if i = 0 then x else if i = 1 then y else z
theorem ix33 (i : Int) (h0 : 0 ≤ i) (h2 : i ≤ 2) (c0 c1 c2 c3 c4 c5 c6 c7 c8 : Int) (w : World) : (Instr.index 33 (.agg #[.int .i64 c0, .int .i64 c1, .int .i64 c2, .int .i64 c3, .int .i64 c4, .int .i64 c5, .int .i64 c6, .int .i64 c7, .int .i64 c8]) (.int .i64 i)).run Try.prog w = .ok (.agg #[.int .i64 (sel i c0 c3 c6), .int .i64 (sel i c1 c4 c7), .int .i64 (sel i c2 c5 c8)]) w := by
  have : i = 0 ∨ i = 1 ∨ i = 2 := by omega
  rcases this with rfl | rfl | rfl <;> (show _ = _; kernel_rfl)
theorem ix32 (i : Int) (h0 : 0 ≤ i) (h2 : i ≤ 2) (k0 k1 k2 : Int) (w : World) : (Instr.index 32 (.agg #[.int .i64 k0, .int .i64 k1, .int .i64 k2]) (.int .i64 i)).run Try.prog w = .ok (.int .i64 (sel i k0 k1 k2)) w := by
  have : i = 0 ∨ i = 1 ∨ i = 2 := by omega
  rcases this with rfl | rfl | rfl <;> (show _ = _; kernel_rfl)

def not3 (a : Int) : Int := sel (pl a) 1 0 2
def and3 (a b : Int) : Int := sel (pl b) (sel (pl a) 0 0 0) (sel (pl a) 0 1 2) (sel (pl a) 0 2 2)
def or3 (a b : Int) : Int := sel (pl b) (sel (pl a) 0 1 2) (sel (pl a) 1 1 1) (sel (pl a) 2 1 2)
def xor3 (a b : Int) : Int := sel (pl b) (sel (pl a) 0 1 2) (sel (pl a) 1 0 2) (sel (pl a) 2 2 2)

theorem not_any (a : Int) (w : World) : Calls Try.prog 6 #[.int .i64 a] w fun e w' => e = .returned (.int .i64 (not3 a)) ∧ w' = w := by
  have ia := fun (w : World) c0 c1 c2 => ix32 (pl a) (pl_lo a) (pl_hi a) c0 c1 c2 w
  go_enter Try.func6, Try.ntmps6
  go_wp2_with (go_at_call 18; refine (plain_any _ _).mono ?_; rintro e w' ⟨rfl, rfl⟩)
  go_ret
  exact ⟨rfl, rfl⟩
theorem and_any (a b : Int) (w : World) : Calls Try.prog 8 #[.int .i64 a, .int .i64 b] w fun e w' => e = .returned (.int .i64 (and3 a b)) ∧ ∃ n, w' = w.drewN n := by
  have ia := fun (w : World) c0 c1 c2 c3 c4 c5 c6 c7 c8 => ix33 (pl a) (pl_lo a) (pl_hi a) c0 c1 c2 c3 c4 c5 c6 c7 c8 w
  have ib := fun (w : World) c0 c1 c2 => ix32 (pl b) (pl_lo b) (pl_hi b) c0 c1 c2 w
  go_enter Try.func8, Try.ntmps8
  go_wp2
  go_quiet ((go_at_call 18; exact Calls.quiet_of_same (plain_any _ _)))
  go_wp2
  go_ret
  exact ⟨rfl, _, rfl⟩
theorem or_any (a b : Int) (w : World) : Calls Try.prog 10 #[.int .i64 a, .int .i64 b] w fun e w' => e = .returned (.int .i64 (or3 a b)) ∧ ∃ n, w' = w.drewN n := by
  have ia := fun (w : World) c0 c1 c2 c3 c4 c5 c6 c7 c8 => ix33 (pl a) (pl_lo a) (pl_hi a) c0 c1 c2 c3 c4 c5 c6 c7 c8 w
  have ib := fun (w : World) c0 c1 c2 => ix32 (pl b) (pl_lo b) (pl_hi b) c0 c1 c2 w
  go_enter Try.func10, Try.ntmps10
  go_wp2
  go_quiet ((go_at_call 18; exact Calls.quiet_of_same (plain_any _ _)))
  go_wp2
  go_ret
  exact ⟨rfl, _, rfl⟩
theorem xor_any (a b : Int) (w : World) : Calls Try.prog 12 #[.int .i64 a, .int .i64 b] w fun e w' => e = .returned (.int .i64 (xor3 a b)) ∧ ∃ n, w' = w.drewN n := by
  have ia := fun (w : World) c0 c1 c2 c3 c4 c5 c6 c7 c8 => ix33 (pl a) (pl_lo a) (pl_hi a) c0 c1 c2 c3 c4 c5 c6 c7 c8 w
  have ib := fun (w : World) c0 c1 c2 => ix32 (pl b) (pl_lo b) (pl_hi b) c0 c1 c2 w
  go_enter Try.func12, Try.ntmps12
  go_wp2
  go_quiet ((go_at_call 18; exact Calls.quiet_of_same (plain_any _ _)))
  go_wp2
  go_ret
  exact ⟨rfl, _, rfl⟩
/-! ### The reference -/
theorem norm_any (a : Int) (w : World) : Calls Try.prog 19 #[.int .i64 a] w fun e w' => e = .returned (.int .i64 (pl a)) ∧ w' = w := by
  by_cases h0 : a = 0
  · subst h0
    go_enter Try.func19, Try.ntmps19
    go_wp2
    go_ret
    exact ⟨rfl, rfl⟩
  · by_cases h1 : a = 1
    · subst h1
      go_enter Try.func19, Try.ntmps19
      go_wp2
      go_ret
      exact ⟨rfl, rfl⟩
    · have hp : pl a = 2 := by unfold pl; rw [if_neg (by omega)]
      rw [hp]
      have g0 : (a == 0) = false := by simpa using h0
      have g1 : (a == 1) = false := by simpa using h1
      clear h0 h1 hp
      go_enter Try.func19, Try.ntmps19
      go_wp2
      go_ret
      exact ⟨rfl, rfl⟩
theorem norm_at (a k : Int) (h : pl a = k) (w : World) : Calls Try.prog 19 #[.int .i64 a] w fun e w' => e = .returned (.int .i64 k) ∧ w' = w := by
  subst h; exact norm_any a w
theorem rnot_any (a : Int) (w : World) : Calls Try.prog 7 #[.int .i64 a] w fun e w' => e = .returned (.int .i64 (not3 a)) ∧ w' = w := by
  have ha := norm_any a
  unfold not3
  rcases pl_cases a with h | h | h
  all_goals
    rw [h] at ha ⊢
    have ha := Lib.hid ha; clear h
    go_enter Try.func7, Try.ntmps7
    go_wp2_with (go_at_call 19; refine (ha.out _).mono ?_; rintro e w' ⟨rfl, rfl⟩)
    go_ret
    exact ⟨rfl, rfl⟩
theorem rand_any (a b : Int) (w : World) : Calls Try.prog 9 #[.int .i64 a, .int .i64 b] w fun e w' => e = .returned (.int .i64 (and3 a b)) ∧ w' = w := by
  have ha := norm_any a
  have hb := norm_any b
  unfold and3
  rcases pl_cases a with h | h | h <;> rcases pl_cases b with k | k | k
  all_goals
    rw [h] at ha ⊢; rw [k] at hb ⊢
    replace ha := Lib.hid ha
    replace hb := Lib.hid hb
    clear h k
    go_enter Try.func9, Try.ntmps9
    go_wp2_with (go_at_call 19; first | (go_at_call_of 19 a; refine (ha.out _).mono ?_; rintro e w' ⟨rfl, rfl⟩) | (go_at_call_of 19 b; refine (hb.out _).mono ?_; rintro e w' ⟨rfl, rfl⟩))
    go_ret
    exact ⟨rfl, rfl⟩
theorem ror_eq (a b : Int) : not3 (and3 (not3 a) (not3 b)) = or3 a b := by
  unfold or3 not3 and3
  rcases pl_cases a with h | h | h <;> rcases pl_cases b with k | k | k <;> rw [h, k] <;> decide
theorem ror_any (a b : Int) (w : World) : Calls Try.prog 11 #[.int .i64 a, .int .i64 b] w fun e w' => e = .returned (.int .i64 (or3 a b)) ∧ w' = w := by
  rw [← ror_eq]
  go_enter Try.func11, Try.ntmps11
  go_wp2_with fail
  refine (rnot_any _ _).mono ?_; rintro e w' ⟨rfl, rfl⟩
  go_wp2_with fail
  refine (rnot_any _ _).mono ?_; rintro e w' ⟨rfl, rfl⟩
  go_wp2_with fail
  refine (rand_any _ _ _).mono ?_; rintro e w' ⟨rfl, rfl⟩
  go_wp2_with fail
  refine (rnot_any _ _).mono ?_; rintro e w' ⟨rfl, rfl⟩
  go_wp2
  go_ret
  exact ⟨rfl, rfl⟩
theorem pl_is (a : Int) : pl a = 0 → a = 0 := by unfold pl; split <;> omega
theorem pl_is1 (a : Int) : pl a = 1 → a = 1 := by unfold pl; split <;> omega
theorem rxor_any (a b : Int) (w : World) : Calls Try.prog 13 #[.int .i64 a, .int .i64 b] w fun e w' => e = .returned (.int .i64 (xor3 a b)) ∧ w' = w := by
  have ha := norm_any a
  have hb := norm_any b
  have hab : (pl a ≠ 2 ∧ pl b ≠ 2) → a = pl a ∧ b = pl b := by
    intro ⟨h1, h2⟩; unfold pl at *; split at h1 <;> split at h2 <;> simp_all
  unfold xor3
  rcases pl_cases a with h | h | h <;> rcases pl_cases b with k | k | k
  all_goals
    rw [h] at ha hab ⊢; rw [k] at hb hab ⊢
    replace ha := Lib.hid ha
    replace hb := Lib.hid hb
    clear h k
    first | (simp at hab; obtain ⟨rfl, rfl⟩ := hab) | clear hab | skip
    go_enter Try.func13, Try.ntmps13
    go_wp2_with (go_at_call 19; first | (go_at_call_of 19 a; refine (ha.out _).mono ?_; rintro e w' ⟨rfl, rfl⟩) | (go_at_call_of 19 b; refine (hb.out _).mono ?_; rintro e w' ⟨rfl, rfl⟩) | (refine (norm_any _ _).mono ?_; rintro e w' ⟨rfl, rfl⟩))
    go_ret
    exact ⟨rfl, rfl⟩
end Go.Proofs.Ytakgjoiloklfkaa.logic
