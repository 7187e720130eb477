/- Plain: which values may be. -/
import Derived.Test.YtjpondgobogkeaaGreatDoorValMem
import Derived.Test.YtjpondgobogkeaaGreatDoorDecA
namespace Go.Proofs.YtjpondgobogkeaaGreatDoor.val
open Go.RowKit dec
set_option linter.unusedVariables false
def letterC (c : Nat) : Bool := decide ((97 ≤ c ∧ c ≤ 122) ∨ (65 ≤ c ∧ c ≤ 90) ∨ c = 95)
/-- May a name have this at that place? -/
def nameC (i c : Nat) : Bool := letterC c || (decide (i ≠ 0) && decide (48 ≤ c ∧ c ≤ 57))
def nameB (s : ByteArray) : Bool := decide (1 ≤ s.size ∧ s.size ≤ 64 ∧ ∀ i (h : i < s.size), nameC i s[i].toNat = true)
def iriC (c : Nat) : Bool := decide (32 < c ∧ c ≠ 60 ∧ c ≠ 62)
def iriB (s : ByteArray) : Bool := decide (1 ≤ s.size ∧ s.size ≤ 1048576 ∧ ∀ i (h : i < s.size), iriC s[i].toNat = true)
def emp (s : ByteArray) : Bool := decide (s.size = 0)
/-- May a value be, of what is asked of a list's? -/
def chkW (f : List V → Bool) : V → Bool
  | .mk k b n t x l =>
    if k = 0 then !b && decide (n = 0) && emp t && emp x && decide (l.length = 0)
    else if k = 1 then decide (n = 0) && emp t && emp x && decide (l.length = 0)
    else if k = 2 then !b && emp t && emp x && decide (l.length = 0)
    else if k = 3 then !b && decide (n = 0) && emp x && decide (l.length = 0) && chk t.data.toList
    else if k = 4 then !b && decide (n = 0) && emp x && decide (l.length = 0) && decide (t.size ≤ 1048576)
    else if k = 5 then !b && decide (n = 0) && emp t && emp x && decide (l.length ≤ 4096) && f l
    else if k = 6 ∨ k = 7 then !b && decide (0 ≤ n) && emp t && emp x && decide (l.length = 0)
    else if k = 8 then !b && decide (n = 0) && emp x && decide (l.length = 0) && iriB t
    else if k = 9 then !b && decide (n = 0) && emp x && decide (l.length = 0) && nameB t
    else if k = 10 then !b && decide (n = 0) && decide (l.length = 0) && decide (t.size ≤ 1048576) && iriB x
    else false
/-- May a value be, so many lists deep? -/
def chkV : Nat → V → Bool
  | 0 => chkW (fun _ => false)
  | d + 1 => chkW (fun l => l.all (chkV d))
end Go.Proofs.YtjpondgobogkeaaGreatDoor.val
