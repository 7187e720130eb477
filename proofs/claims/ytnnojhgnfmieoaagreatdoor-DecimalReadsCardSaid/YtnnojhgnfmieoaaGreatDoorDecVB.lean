/- The law's box, and short and Check in its words (for the seat without DecimalOrder). -/
import Derived.Test.YtnnojhgnfmieoaaGreatDoorDecLaw
import Derived.IntWalk
import Derived.Deep.DeepCutAuto
namespace Go.Proofs.YtnnojhgnfmieoaaGreatDoor.dec
open Go.ChangeShapes Go.WideShapes Go.ChangeAt Go.RowKit kit
set_option linter.unusedVariables false
/-- The world behind the law's box. -/
def VB (W : World) (sL sN : Value) : World := W.alloc (.cells #[sL, sN] 25)
theorem VB.lw {W : World} (hE : Env W) (sL sN : Value) : LW (VB W sL sN) (VB W sL sN) := ⟨Below.refl _ _, hE.below ((Below.refl _ _).alloc (Nat.le_refl _) _)⟩
theorem LW.box {W w : World} {sL sN : Value} (h : LW (VB W sL sN) w) : w.cell? ⟨W.heap.size, 0, none⟩ = some sL ∧ w.cell? ⟨W.heap.size, 1, none⟩ = some sN := by
  have hb : Blk (VB W sL sN) W.heap.size #[sL, sN] 25 := Blk.new _ _ _
  have hs : W.heap.size < (VB W sL sN).heap.size := by unfold VB; simp
  exact ⟨(h.cell (p := ⟨W.heap.size, 0, none⟩) hs).trans (hb.cell 0 rfl), (h.cell (p := ⟨W.heap.size, 1, none⟩) hs).trans (hb.cell 1 rfl)⟩
theorem LW.old {W w : World} {sL sN : Value} (h : LW (VB W sL sN) w) {p : Addr} (hp : p.block < W.heap.size) : w.cell? p = W.cell? p := by
  have h1 : p.block < (VB W sL sN).heap.size := by unfold VB; simp; omega
  rw [h.cell h1]
  exact Below.cell (B := W.heap.size) ((Below.refl _ _).alloc (Nat.le_refl _) _) hp
theorem LW.below {W w : World} {sL sN : Value} (h : LW (VB W sL sN) w) : Below W.heap.size W w :=
  ((Below.refl _ _).alloc (Nat.le_refl _) _).trans (h.1.mono (by unfold VB; simp))
section
variable {V w : World}
theorem chk_at (s : ByteArray) {r : Bool} (hr : chk s.data.toList = r) (h : LW V w) : Calls Tryz.prog 26 #[.string s] w fun e w' => e = .returned (.bool r) ∧ LW V w' := hr ▸ chk_l s h
theorem short_at (s : ByteArray) {r : Bool} (hr : sh s = r) (w : World) : Calls Tryz.prog 7 #[.string s] w fun e w' => e = .returned (.bool r) ∧ w' = w := hr ▸ short_call s w
end
end Go.Proofs.YtnnojhgnfmieoaaGreatDoor.dec
