/- Bytes put one after the other into a row of one's own. -/
import Derived.Test.YthecgifgjagmaaaGreatDoorRefCmp
namespace Go.Proofs.YthecgifgjagmaaaGreatDoor.dec
open Go.ChangeShapes Go.WideShapes Go.ChangeAt Go.RowKit kit
set_option linter.unusedVariables false
def bytesV (l : List UInt8) : List Value := l.map fun b => .int .u8 (b.toNat : Int)
/-- The world W1 holds what W held below B, and v is a row of its own that reads as l. -/
structure BW (W : World) (B : Nat) (v : Value) (l : List UInt8) (W1 : World) : Prop where
  below : Below B W W1
  own : W1.ownsRow B 5 1 v l.length (bytesV l)
theorem BW.start (W : World) : BW W W.heap.size (.slice none 0 0) [] W := ⟨Below.refl _ _, World.ownsRow_nil _ _ _ _⟩
theorem BW.step {W W1 w' : World} {B : Nat} {v v' : Value} {l : List UInt8} (h : BW W B v l W1) (hB : B ≤ W1.heap.size) (o : Obj) (x : UInt8)
    (h1 : w'.ownsRow B 5 1 v' (l.length + 1) (bytesV l ++ [.int .u8 (x.toNat : Int)])) (h2 : (W1.alloc o).grownBy w' v.ownBlock) : BW W B v' (l ++ [x]) w' := by
  refine ⟨(h.below.alloc hB _).grown h2 (by rw [World.size_alloc]; omega) (fun k hk => (h.own.lt k hk).1), ?_⟩
  rw [List.length_append]
  simpa [bytesV] using h1
theorem BW.cells {W W1 : World} {B g n cap : Nat} {l : List UInt8} (h : BW W B (.slice (some ⟨g, 0, none⟩) n cap) l W1) : ∀ j (hj : j < l.length), W1.cell? ((⟨g, 0, none⟩ : Addr).add j) = some (.int .u8 (l[j].toNat : Int)) := fun j hj =>
  h.own.cells rfl j _ (by simp [bytesV, List.getElem?_eq_getElem hj])
end Go.Proofs.YthecgifgjagmaaaGreatDoor.dec
