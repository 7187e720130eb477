/- What those ask of the library's variables that reckon: it stays. -/
import Derived.Test.YtidplkfhodpdhaaGreatDoorDecA
namespace Go.Proofs.YtidplkfhodpdhaaGreatDoor.dec
open Go.ChangeShapes Go.WideShapes Go.ChangeAt Go.RowKit kit
set_option linter.unusedVariables false
structure EnvD (w : World) : Prop where
 env : Env w
 size : 8 ≤ w.heap.size
 pow : Lib.TabIs Tryz.prog w "internal/strconv.uint64pow10" .u64 Lib.pow10Tab
 syn : ∃ tp p, w.var? Tryz.prog "strconv.ErrSyntax" = some #[.iface tp p]
 rng : ∃ tp p, w.var? Tryz.prog "strconv.ErrRange" = some #[.iface tp p]
theorem EnvD.drewN {w : World} (h : EnvD w) (n : Nat) : EnvD (w.drewN n) := ⟨h.env.drewN n, h.size, h.pow, h.syn, h.rng⟩
theorem EnvD.below {w w' : World} (h : EnvD w) (hb : Below w.heap.size w w') : EnvD w' := by
 have h8 := h.size
 have hb8 : Below 8 w w' := hb.mono h8
 have key : ∀ name, name ∈ ["internal/strconv.uint64pow10", "strconv.ErrSyntax", "strconv.ErrRange"] → w'.var? Tryz.prog name = w.var? Tryz.prog name := by
  intro name hn
  refine var?_below hb8 (fun g hg => ?_)
  simp only [List.mem_cons, List.mem_nil_iff, or_false] at hn
  rcases hn with rfl | rfl | rfl
  ·have : Tryz.prog.globalNamed "internal/strconv.uint64pow10" = some 0 := by kernel_rfl
   rw [this] at hg; cases hg; decide
  ·have : Tryz.prog.globalNamed "strconv.ErrSyntax" = some 2 := by kernel_rfl
   rw [this] at hg; cases hg; decide
  ·have : Tryz.prog.globalNamed "strconv.ErrRange" = some 3 := by kernel_rfl
   rw [this] at hg; cases hg; decide
 refine ⟨h.env.below hb, Nat.le_trans h8 hb.size, ?_, ?_, ?_⟩
 ·unfold Lib.TabIs; rw [key _ (by simp)]; exact h.pow
 ·rw [key _ (by simp)]; exact h.syn
 ·rw [key _ (by simp)]; exact h.rng
end Go.Proofs.YtidplkfhodpdhaaGreatDoor.dec
