/- Plain: what bytes are read as. -/
import Derived.Test.YtjncjcellpbhcaaGreatDoorVArithA
namespace Go.Proofs.YtjncjcellpbhcaaGreatDoor.val
open Go.ChangeShapes Go.WideShapes Go.ChangeAt Go.RowKit kit dec
set_option linter.unusedVariables false
set_option linter.unusedSimpArgs false
/-- A number of bytes, the highest first. -/
def beN (l : List UInt8) : Nat := l.foldl (fun v c => v * 256 + c.toNat) 0
def takeB (n : Nat) (L : List UInt8) : Option (List UInt8 × List UInt8) := if n ≤ L.length then some (L.take n, L.drop n) else none
/-- A text: four bytes that tell how many, and these. -/
def txtD (L : List UInt8) : Option (ByteArray × List UInt8) :=
  (takeB 4 L).bind fun p => if beN p.1 ≤ 1048576 then (takeB (beN p.1) p.2).bind fun q => some (tx q.1, q.2) else none
/-- So many values, one behind the other. -/
def listD (f : List UInt8 → Option (V × List UInt8)) : Nat → List UInt8 → Option (List V × List UInt8)
  | 0, L => some ([], L)
  | n + 1, L => (listD f n L).bind fun p => (f p.2).bind fun q => some (p.1 ++ [q.1], q.2)
/-- A value behind its kind. -/
def bodyD (f : List UInt8 → Option (V × List UInt8)) (k : Nat) (r : List UInt8) : Option (V × List UInt8) :=
  if k = 0 then some (.mk 0 false 0 ByteArray.empty ByteArray.empty [], r)
  else if k = 1 then (takeB 1 r).bind fun p => if beN p.1 ≤ 1 then some (.mk 1 (decide (beN p.1 = 1)) 0 ByteArray.empty ByteArray.empty [], p.2) else none
  else if k = 2 ∨ k = 6 ∨ k = 7 then (takeB 8 r).bind fun p => some (.mk k false (IntKind.i64.wrap (beN p.1)) ByteArray.empty ByteArray.empty [], p.2)
  else if k = 3 ∨ k = 4 ∨ k = 8 ∨ k = 9 then (txtD r).bind fun p => some (.mk k false 0 p.1 ByteArray.empty [], p.2)
  else if k = 10 then (txtD r).bind fun p => (txtD p.2).bind fun q => some (.mk 10 false 0 p.1 q.1 [], q.2)
  else if k = 5 then (takeB 4 r).bind fun p => if beN p.1 ≤ 4096 then (listD f (beN p.1) p.2).bind fun q => some (.mk 5 false 0 ByteArray.empty ByteArray.empty q.1, q.2) else none
  else none
/-- A value, so many lists deep at most. -/
def valD : Nat → List UInt8 → Option (V × List UInt8)
  | 0, _ => none
  | m + 1, L => (takeB 1 L).bind fun p => bodyD (valD m) (beN p.1) p.2
/-- The value of bytes, or the refusal. -/
def decodeV (L : List UInt8) : V × Int := match valD 61 L with
  | some (v, []) => if mayV v then (v, 0) else (zV, 6)
  | _ => (zV, 6)
theorem decodeV_some {L : List UInt8} {v : V} (h : valD 61 L = some (v, [])) : decodeV L = if mayV v then (v, 0) else (zV, 6) := by unfold decodeV; rw [h]
theorem decodeV_more {L : List UInt8} {v : V} {c : UInt8} {r : List UInt8} (h : valD 61 L = some (v, c :: r)) : decodeV L = (zV, 6) := by unfold decodeV; rw [h]
theorem decodeV_none {L : List UInt8} (h : valD 61 L = none) : decodeV L = (zV, 6) := by unfold decodeV; rw [h]
end Go.Proofs.YtjncjcellpbhcaaGreatDoor.val
