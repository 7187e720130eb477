/- Contract of part. -/
import Derived.Test.YthecgifgjagmaaaGreatDoorValMem
namespace Go.Proofs.YthecgifgjagmaaaGreatDoor.val
open Go.ChangeShapes Go.WideShapes Go.ChangeAt Go.RowKit kit
set_option linter.unusedVariables false
set_option linter.unusedSimpArgs false
/-- What part tells. -/
def partV (k : Int) (b : Bool) (n : Int) (t x : ByteArray) (s : Value) : Value :=
  if k = 0 then .iface 120 (.agg #[]) else if k = 1 then .iface 79 (.bool b) else if k = 2 then .iface 73 (.int .i64 n) else if k = 3 then .iface 74 (.string t)
  else if k = 4 ∨ k = 8 ∨ k = 9 then .iface 110 (.string t) else if k = 5 then .iface 75 s else if k = 6 ∨ k = 7 then .iface 77 (.int .i64 n)
  else if k = 10 then .iface 112 (.agg #[.string t, .string x]) else .iface 122 (.int .i64 k)
/-- The kinds. -/
theorem kinds (k : Int) : k = 0 ∨ k = 1 ∨ k = 2 ∨ k = 3 ∨ k = 4 ∨ k = 5 ∨ k = 6 ∨ k = 7 ∨ k = 8 ∨ k = 9 ∨ k = 10 ∨ (k ≠ 0 ∧ k ≠ 1 ∧ k ≠ 2 ∧ k ≠ 3 ∧ k ≠ 4 ∧ k ≠ 5 ∧ k ≠ 6 ∧ k ≠ 7 ∧ k ≠ 8 ∧ k ≠ 9 ∧ k ≠ 10) := by omega
set_option maxRecDepth 100000 in
set_option maxHeartbeats 1000000 in
theorem part_any (k : Int) (b : Bool) (n : Int) (t x : ByteArray) (s : Value) (w : World) : Calls Tryz.prog 59 #[agg6 k b n t x s] w fun e w' => e = .returned (partV k b n t x s) ∧ Below w.heap.size w w' := by
  unfold agg6
  have hb : Below w.heap.size w (w.alloc (.cells #[.int .i64 k, .bool b, .int .i64 n, .string t, .string x, s] 26)) := (Below.refl _ _).alloc (Nat.le_refl _) _
  replace hb := Lib.hid hb
  rcases kinds k with rfl | rfl | rfl | rfl | rfl | rfl | rfl | rfl | rfl | rfl | rfl | ⟨h0, h1, h2, h3, h4, h5, h6, h7, h8, h9, h10⟩
  iterate 11
    · go_enter Tryz.func59, Tryz.ntmps59
      go_wp2
      go_ret
      exact ⟨rfl, hb.out⟩
  · have hp : partV k b n t x s = .iface 122 (.int .i64 k) := by
      unfold partV
      rw [if_neg h0, if_neg h1, if_neg h2, if_neg h3, if_neg (by omega), if_neg h5, if_neg (by omega), if_neg h10]
    rw [hp]
    have q0 : (k == 0) = false := by simpa using h0
    have q1 : (k == 1) = false := by simpa using h1
    have q2 : (k == 2) = false := by simpa using h2
    have q3 : (k == 3) = false := by simpa using h3
    have q4 : (k == 4) = false := by simpa using h4
    have q5 : (k == 5) = false := by simpa using h5
    have q6 : (k == 6) = false := by simpa using h6
    have q7 : (k == 7) = false := by simpa using h7
    have q8 : (k == 8) = false := by simpa using h8
    have q9 : (k == 9) = false := by simpa using h9
    have q10 : (k == 10) = false := by simpa using h10
    clear hp h0 h1 h2 h3 h4 h5 h6 h7 h8 h9 h10
    go_enter Tryz.func59, Tryz.ntmps59
    go_wp2
    go_ret
    exact ⟨rfl, hb.out⟩
end Go.Proofs.YthecgifgjagmaaaGreatDoor.val
