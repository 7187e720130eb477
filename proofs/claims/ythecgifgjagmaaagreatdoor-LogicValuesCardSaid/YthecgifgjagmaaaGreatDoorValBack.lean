/- Contracts of logic's Back and Of at truth values. -/
import Derived.Test.YthecgifgjagmaaaGreatDoorValEqual
namespace Go.Proofs.YthecgifgjagmaaaGreatDoor.val
open Go.ChangeShapes Go.WideShapes Go.ChangeAt Go.RowKit kit dec
set_option linter.unusedVariables false
set_option linter.unusedSimpArgs false
theorem ltruth_any (b : Bool) (w : World) : Calls Tryz.prog 33 #[.bool b] w fun e w' => e = .returned (.int .i64 (if b then 1 else 0)) ∧ w' = w := by
  cases b
  · go_enter Tryz.func33, Tryz.ntmps33
    go_wp2
    go_ret
    exact ⟨rfl, rfl⟩
  · go_enter Tryz.func33, Tryz.ntmps33
    go_wp2
    go_ret
    exact ⟨rfl, rfl⟩
/-- A truth value as a value: its kind, its bool. -/
def bkK (r : Int) : Int := if r = 2 then 0 else 1
def bkB (r : Int) : Bool := decide (r = 1)
def bkV (r : Int) : Value := agg6 (bkK r) (bkB r) 0 ⟨#[]⟩ ⟨#[]⟩ (.slice none 0 0)
theorem may_back (r : Int) (hr : r = 0 ∨ r = 1 ∨ r = 2) : mayV (.mk (bkK r) (bkB r) 0 ⟨#[]⟩ ⟨#[]⟩ []) = true := by
  rcases hr with rfl | rfl | rfl <;> rfl
theorem la_nil (w : World) (N : Nat) : LA w N (.slice none 0 0) [] := .mk none 0 [] (Nat.zero_le _) (fun j hj => by simp at hj)
set_option maxRecDepth 100000 in
set_option maxHeartbeats 1000000 in
theorem of_back (r : Int) (hr : r = 0 ∨ r = 1 ∨ r = 2) (w : World) (hE : Env w) : Calls Tryz.prog 10 #[.int .i64 0, bkV r] w fun e w' => e = .returned (.tuple #[.int .i64 r, .int .i64 0]) ∧ Below w.heap.size w w' := by
  have hal : Below w.heap.size w (w.alloc (.cells #[.int .i64 (bkK r), .bool (bkB r), .int .i64 0, .string ⟨#[]⟩, .string ⟨#[]⟩, .slice none 0 0] 26)) := (Below.refl _ _).alloc (Nat.le_refl _) _
  have hbk : Blk (w.alloc (.cells #[.int .i64 (bkK r), .bool (bkB r), .int .i64 0, .string ⟨#[]⟩, .string ⟨#[]⟩, .slice none 0 0] 26)) w.heap.size #[.int .i64 (bkK r), .bool (bkB r), .int .i64 0, .string ⟨#[]⟩, .string ⟨#[]⟩, .slice none 0 0] 26 := Blk.new _ _ _
  have hck := check_any 0 (by decide) _ (hE.below hal) (bkK r) (bkB r) 0 ⟨#[]⟩ ⟨#[]⟩ (.slice none 0 0) [] (la_nil _ 0) (Nat.le_refl _) (Nat.le_refl _)
  rw [may_back r hr] at hck
  unfold bkV agg6
  unfold agg6 at hck
  rcases hr with rfl | rfl | rfl
  · rw [show bkK 0 = 1 from rfl, show bkB 0 = false from rfl] at *
    replace hck := Lib.hid hck
    go_enter Tryz.func10, Tryz.ntmps10
    go_wp2_with fail
    refine hck.out.mono ?_
    rintro e w2 ⟨rfl, hb2⟩
    have h3 := hbk.keep (Keep.ofBelow hb2) (by simp)
    have x0 := h3.cell 0 rfl
    have x1 := h3.cell 1 rfl
    have hbe := Lib.hid (hal.trans (hb2.mono hal.size))
    clear h3 hb2 hck hbk hal
    go_wp2_with (go_at_call 33; refine (ltruth_any _ _).mono ?_; rintro e w9 ⟨rfl, hw9⟩; rw [hw9]; clear hw9)
    go_ret2
    exact ⟨rfl, hbe.out⟩
  · rw [show bkK 1 = 1 from rfl, show bkB 1 = true from rfl] at *
    replace hck := Lib.hid hck
    go_enter Tryz.func10, Tryz.ntmps10
    go_wp2_with fail
    refine hck.out.mono ?_
    rintro e w2 ⟨rfl, hb2⟩
    have h3 := hbk.keep (Keep.ofBelow hb2) (by simp)
    have x0 := h3.cell 0 rfl
    have x1 := h3.cell 1 rfl
    have hbe := Lib.hid (hal.trans (hb2.mono hal.size))
    clear h3 hb2 hck hbk hal
    go_wp2_with (go_at_call 33; refine (ltruth_any _ _).mono ?_; rintro e w9 ⟨rfl, hw9⟩; rw [hw9]; clear hw9)
    go_ret2
    exact ⟨rfl, hbe.out⟩
  · rw [show bkK 2 = 0 from rfl, show bkB 2 = false from rfl] at *
    replace hck := Lib.hid hck
    go_enter Tryz.func10, Tryz.ntmps10
    go_wp2_with fail
    refine hck.out.mono ?_
    rintro e w2 ⟨rfl, hb2⟩
    have h3 := hbk.keep (Keep.ofBelow hb2) (by simp)
    have x0 := h3.cell 0 rfl
    have x1 := h3.cell 1 rfl
    have hbe := Lib.hid (hal.trans (hb2.mono hal.size))
    clear h3 hb2 hck hbk hal
    go_wp2_with (go_at_call 33; refine (ltruth_any _ _).mono ?_; rintro e w9 ⟨rfl, hw9⟩; rw [hw9]; clear hw9)
    go_ret2
    exact ⟨rfl, hbe.out⟩
theorem infoV : (Tryz.prog.info? 26).map (·.size) = some 6 := by kernel_rfl
set_option maxRecDepth 100000 in
set_option maxHeartbeats 1000000 in
theorem back_any (r : Int) (hr : r = 0 ∨ r = 1 ∨ r = 2) (w : World) : Calls Tryz.prog 12 #[.int .i64 r] w fun e w' => e = .returned (.tuple #[bkV r, .int .i64 0]) ∧ Below w.heap.size w w' := by
  rcases hr with rfl | rfl | rfl
  · go_enter Tryz.func12, Tryz.ntmps12
    go_wp2
    exact bodyPost_ret (v := .tuple #[.agg #[.int .i64 1, .bool false, .int .i64 0, .string ⟨#[]⟩, .string ⟨#[]⟩, .slice none 0 0], .int .i64 0]) (res2 rfl _ _ w.heap.size 26 _ (0, 0) _ _ rfl rfl (Blk.eq (Blk.new w #[.int .i64 1, .bool false, .int .i64 0, .string ⟨#[]⟩, .string ⟨#[]⟩, .slice none 0 0] 26)) Tryz.underlying26 rfl infoV) rfl ⟨rfl, (Below.refl _ _).alloc (Nat.le_refl _) _⟩
  · go_enter Tryz.func12, Tryz.ntmps12
    go_wp2
    exact bodyPost_ret (v := .tuple #[.agg #[.int .i64 1, .bool true, .int .i64 0, .string ⟨#[]⟩, .string ⟨#[]⟩, .slice none 0 0], .int .i64 0]) (res2 rfl _ _ w.heap.size 26 _ (0, 0) _ _ rfl rfl (Blk.eq (Blk.new w #[.int .i64 1, .bool true, .int .i64 0, .string ⟨#[]⟩, .string ⟨#[]⟩, .slice none 0 0] 26)) Tryz.underlying26 rfl infoV) rfl ⟨rfl, (Below.refl _ _).alloc (Nat.le_refl _) _⟩
  · go_enter Tryz.func12, Tryz.ntmps12
    go_wp2
    exact bodyPost_ret (v := .tuple #[.agg #[.int .i64 0, .bool false, .int .i64 0, .string ⟨#[]⟩, .string ⟨#[]⟩, .slice none 0 0], .int .i64 0]) (res2 rfl _ _ w.heap.size 26 _ (0, 0) _ _ rfl rfl (Blk.eq (Blk.new w #[.int .i64 0, .bool false, .int .i64 0, .string ⟨#[]⟩, .string ⟨#[]⟩, .slice none 0 0] 26)) Tryz.underlying26 rfl infoV) rfl ⟨rfl, (Below.refl _ _).alloc (Nat.le_refl _) _⟩
end Go.Proofs.YthecgifgjagmaaaGreatDoor.val
