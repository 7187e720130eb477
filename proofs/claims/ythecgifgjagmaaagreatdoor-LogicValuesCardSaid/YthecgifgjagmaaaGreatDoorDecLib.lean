/- The library's functions that decimal calls, in the words of my walks; what the program's variables hold. -/
import Derived.Test.YthecgifgjagmaaaGreatDoorKit
import Derived.Test.YthecgifgjagmaaaGreatDoorDecNum
import Derived.Test.YthecgifgjagmaaaGreatDoorShelf
namespace Go.Proofs.YthecgifgjagmaaaGreatDoor.dec
open Go.ChangeShapes Go.WideShapes Go.ChangeAt Go.RowKit kit
set_option linter.unusedVariables false

/-- The text of a row of bytes. -/
def tx (l : List UInt8) : ByteArray := ⟨l.toArray⟩
@[simp] theorem tx_list (l : List UInt8) : (tx l).data.toList = l := rfl
@[simp] theorem tx_size (l : List UInt8) : (tx l).size = l.length := rfl
theorem tx_of (s : ByteArray) : tx s.data.toList = s := rfl
theorem ba_ext {a b : ByteArray} (h : a.data.toList = b.data.toList) : a = b := by
  cases a; cases b; simp only [ByteArray.mk.injEq]; exact Array.toList_inj.1 h

/-- What the walks ask of the package variables of the library. -/
structure Env (w : World) : Prop where
  max : ∃ m, w.cell? ⟨1, 0, none⟩ = some (.int .i64 m)
  pow : Lib.TabIs Tryz.prog w "internal/strconv.uint64pow10" .u64 Lib.pow10Tab
  syn : ∃ tp p, w.var? Tryz.prog "strconv.ErrSyntax" = some #[.iface tp p]
  rng : ∃ tp p, w.var? Tryz.prog "strconv.ErrRange" = some #[.iface tp p]
  size : 8 ≤ w.heap.size
end Go.Proofs.YthecgifgjagmaaaGreatDoor.dec
