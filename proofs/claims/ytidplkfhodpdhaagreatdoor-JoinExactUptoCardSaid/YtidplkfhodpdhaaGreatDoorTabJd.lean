/- Contract of (rows.both).joined: the walk. -/
import Derived.Test.YtidplkfhodpdhaaGreatDoorTabJmA
import Derived.Test.YtidplkfhodpdhaaGreatDoorVSame
namespace Go.Proofs.YtidplkfhodpdhaaGreatDoor.tab
open Go.ChangeShapes Go.WideShapes Go.ChangeAt Go.RowKit kit dec val
open hyp (RowA TextsA CellsStay stay_of_below textsV own_row)
set_option linter.unusedVariables false
set_option linter.unusedSimpArgs false
theorem at_getE (A B : List ByteArray) (k : Nat) (h : k < (numsN (atN A B)).length) (hk : k < B.length) : (numsN (atN A B))[k] = .int .i64 (((B.foldl addN A).idxOf B[k] : Nat) : Int) := by simp [numsN, atN]
theorem JO.free {w0 w : World} {N g : Nat} {l : List V} (h : JO w0 w N g l) (i : Nat) : w.frozen? ⟨g, i, none⟩ = false := by
 obtain ⟨cs, h1, -⟩ := h
 exact h1.free i
def JdP (w : World) (N n : Nat) (A B : List ByteArray) (r s : List V) (e : Ending) (w' : World) : Prop :=
 Below w.heap.size w w' ∧ (compat A B r s = true → ∃ a c, e = .returned (.tuple #[.slice a n c, .bool (shared A B r s), .bool true]) ∧ LA w' N (.slice a n c) (joinR A B r s)) ∧ (compat A B r s = false → e = .returned (.tuple #[.slice none 0 0, .bool false, .bool false]))
theorem step_pack {A B : List ByteArray} {r s : List V} {n : Nat} (hA : A.Nodup) (hB : B.Nodup) (hl : s.length = B.length) (hr : rowB A.length r = true) (hn : (B.foldl addN A).length = n) {k : Nat} (h : k < B.length) :
 ∃ i, (B.foldl addN A).idxOf B[k] = i ∧ i < n ∧ (i < A.length ↔ B[k] ∈ A) ∧ (∃ hi : i < (outK A B r s k).length, (outK A B r s k)[i] = cellF A r B[k]) ∧ outK A B r s (k + 1) = (outK A B r s k).set i (orN (cellF A r B[k]) (s[k]'(by omega))) :=
 ⟨_, rfl, by rw [← hn]; exact step_at h, step_in h, ⟨by rw [outK_length]; exact step_at h, step_get hA hB hr h⟩, step_out hA hB hl hr h⟩
end Go.Proofs.YtidplkfhodpdhaaGreatDoor.tab
