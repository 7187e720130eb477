/- What walks of values share: an environment that stays; truth. -/
import Derived.Test.YtjpondgobogkeaaGreatDoorValChk
namespace Go.Proofs.YtjpondgobogkeaaGreatDoor.val
open Go.ChangeShapes Go.WideShapes Go.ChangeAt Go.RowKit kit dec
set_option linter.unusedVariables false
set_option linter.unusedSimpArgs false
/-- A world of a walk: nothing of V has turned. -/
def EW (V w : World) : Prop := Below V.heap.size V w ∧ Env V
theorem EW.env {V w : World} (h : EW V w) : Env w := h.2.below h.1
theorem EW.step {V w w' : World} (h : EW V w) (hb : Below w.heap.size w w') : EW V w' := ⟨h.1.trans (hb.mono h.1.size), h.2⟩
theorem EW.start {V : World} (h : Env V) : EW V V := ⟨Below.refl _ _, h⟩
theorem EW.drewN {V w : World} (h : EW V w) (n : Nat) : EW V (w.drewN n) := h.step (Below_drewN n (Below.refl _ _))
theorem EW.alloc {V w : World} (h : EW V w) (o : Obj) : EW V (w.alloc o) := h.step ((Below.refl _ _).alloc (Nat.le_refl _) _)
set_option maxRecDepth 100000 in
theorem truth_any (b : Bool) (w : World) : Calls Tryz.prog 98 #[.bool b] w fun e w' => e = .returned (.int .i64 (if b then 1 else 0)) ∧ w' = w := by
  cases b
  · go_enter Tryz.func98, Tryz.ntmps98
    go_wp2
    go_ret
    exact ⟨rfl, rfl⟩
  · go_enter Tryz.func98, Tryz.ntmps98
    go_wp2
    go_ret
    exact ⟨rfl, rfl⟩
end Go.Proofs.YtjpondgobogkeaaGreatDoor.val
