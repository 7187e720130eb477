/- Contracts of what compares numbers: that they answer. -/
import Derived.Test.YtjncjcellpbhcaaGreatDoorValChk
import Derived.Test.YtjncjcellpbhcaaGreatDoorDecC
import Derived.Test.YtjncjcellpbhcaaGreatDoorDecCmp
namespace Go.Proofs.YtjncjcellpbhcaaGreatDoor.val
open Go.ChangeShapes Go.WideShapes Go.ChangeAt Go.RowKit kit dec
set_option linter.unusedVariables false
set_option linter.unusedSimpArgs false
/-- A world of a walk: nothing of V has turned. -/
def EW (V w : World) : Prop := Below V.heap.size V w ∧ Env V
theorem EW.env {V w : World} (h : EW V w) : Env w := h.2.below h.1
theorem EW.step {V w w' : World} (h : EW V w) (hb : Below w.heap.size w w') : EW V w' := ⟨h.1.trans (hb.mono h.1.size), h.2⟩
theorem EW.start {V : World} (h : Env V) : EW V V := ⟨Below.refl _ _, h⟩
theorem EW.drewN {V w : World} (h : EW V w) (n : Nat) : EW V (w.drewN n) := h.step (Below_drewN n (Below.refl _ _))
theorem EW.alloc {V w : World} (h : EW V w) (o : Obj) : EW V (w.alloc o) := h.step ((Below.refl _ _).alloc (Nat.le_refl _) _)
set_option maxRecDepth 100000 in
theorem truth_any (b : Bool) (w : World) : Calls Tryz.prog 80 #[.bool b] w fun e w' => e = .returned (.int .i64 (if b then 1 else 0)) ∧ w' = w := by
  cases b
  · go_enter Tryz.func80, Tryz.ntmps80
    go_wp2
    go_ret
    exact ⟨rfl, rfl⟩
  · go_enter Tryz.func80, Tryz.ntmps80
    go_wp2
    go_ret
    exact ⟨rfl, rfl⟩
theorem nan_any (a : Int) (w : World) : Calls Tryz.prog 131 #[.int .i64 a] w fun e w' => e = .returned (.bool false) ∧ w' = w := by
  go_enter Tryz.func131, Tryz.ntmps131
  go_wp2
  go_ret
  exact ⟨ret_bool (by simp), rfl⟩
set_option maxRecDepth 100000 in
theorem cmp64_any (a b : Int) (w : World) : Calls Tryz.prog 110 #[.int .i64 a, .int .i64 b] w fun e w' => e = .returned (.int .i64 (cmpI a b)) ∧ w' = w := by
  by_cases h : a < b
  · have hc : cmpI a b = -1 := by unfold cmpI; rw [if_neg (by omega), if_pos h]
    rw [hc]
    clear hc
    go_enter Tryz.func110, Tryz.ntmps110
    go_wp2_with (go_at_call 131; refine (nan_any _ _).mono ?_; rintro e w' ⟨rfl, rfl⟩)
    go_ret
    exact ⟨rfl, rfl⟩
  · by_cases h2 : b < a
    · have hc : cmpI a b = 1 := by unfold cmpI; rw [if_neg (by omega), if_neg h]
      rw [hc]
      clear hc
      go_enter Tryz.func110, Tryz.ntmps110
      go_wp2_with (go_at_call 131; refine (nan_any _ _).mono ?_; rintro e w' ⟨rfl, rfl⟩)
      go_ret
      exact ⟨rfl, rfl⟩
    · have hc : cmpI a b = 0 := by unfold cmpI; rw [if_pos (by omega)]
      rw [hc]
      clear hc
      go_enter Tryz.func110, Tryz.ntmps110
      go_wp2_with (go_at_call 131; refine (nan_any _ _).mono ?_; rintro e w' ⟨rfl, rfl⟩)
      go_ret
      exact ⟨rfl, rfl⟩
set_option maxRecDepth 100000 in
theorem number_any (k : Int) (b : Bool) (n : Int) (t x : ByteArray) (s : Value) (w : World) : Calls Tryz.prog 28 #[agg6 k b n t x s] w fun e w' => e = .returned (.bool (decide (k = 2 ∨ k = 3))) ∧ Below w.heap.size w w' := by
  have hb : Below w.heap.size w (w.alloc (.cells #[.int .i64 k, .bool b, .int .i64 n, .string t, .string x, s] 26)) := (Below.refl _ _).alloc (Nat.le_refl _) _
  unfold agg6
  by_cases h2 : k = 2
  · subst h2
    go_enter Tryz.func28, Tryz.ntmps28
    go_wp2
    go_ret
    exact ⟨rfl, hb⟩
  · by_cases h3 : k = 3
    · subst h3
      go_enter Tryz.func28, Tryz.ntmps28
      go_wp2
      go_ret
      exact ⟨rfl, hb⟩
    · have q2 : (k == 2) = false := by simpa using h2
      have q3 : (k == 3) = false := by simpa using h3
      rw [decide_eq_false (by omega)]
      clear h2 h3
      go_enter Tryz.func28, Tryz.ntmps28
      go_wp2
      go_ret
      exact ⟨rfl, hb⟩
set_option maxRecDepth 100000 in
theorem exact_any (k : Int) (b : Bool) (n : Int) (hn : In64 n) (t x : ByteArray) (s : Value) (w : World) (hE : Env w) : Calls Tryz.prog 31 #[agg6 k b n t x s] w fun e w' => ∃ u, e = .returned (.string u) ∧ Below w.heap.size w w' := by
  have hb : Below w.heap.size w (w.alloc (.cells #[.int .i64 k, .bool b, .int .i64 n, .string t, .string x, s] 26)) := (Below.refl _ _).alloc (Nat.le_refl _) _
  have hof := ofInt_call n (w.alloc (.cells #[.int .i64 k, .bool b, .int .i64 n, .string t, .string x, s] 26)) (hE.below hb) hn.1 hn.2
  have hck := chk_any t (w.alloc (.cells #[.int .i64 k, .bool b, .int .i64 n, .string t, .string x, s] 26)) (hE.below hb)
  have hbk : Blk (w.alloc (.cells #[.int .i64 k, .bool b, .int .i64 n, .string t, .string x, s] 26)) w.heap.size #[.int .i64 k, .bool b, .int .i64 n, .string t, .string x, s] 26 := Blk.new _ _ _
  generalize canon (n * E20) = R at *
  generalize chk t.data.toList = c at *
  replace hof := Lib.hid hof
  replace hck := Lib.hid hck
  unfold agg6
  by_cases h2 : k = 2
  · subst h2
    go_enter Tryz.func31, Tryz.ntmps31
    go_wp2_with fail
    refine hof.out.mono ?_
    rintro e w2 ⟨rfl, hb2⟩
    go_wp2
    go_ret
    exact ⟨_, rfl, hb.trans (hb2.mono hb.size)⟩
  · have q2 : (k == 2) = false := by simpa using h2
    clear h2 hof
    cases c
    · go_enter Tryz.func31, Tryz.ntmps31
      go_wp2_with fail
      refine hck.out.mono ?_
      rintro e w2 ⟨rfl, hb2⟩
      go_wp2
      go_ret
      exact ⟨_, rfl, hb.trans (hb2.mono hb.size)⟩
    · go_enter Tryz.func31, Tryz.ntmps31
      go_wp2_with fail
      refine hck.out.mono ?_
      rintro e w2 ⟨rfl, hb2⟩
      have c3 : w2.cell? ⟨w.heap.size, 3, none⟩ = some (.string t) := (hbk.keep (Keep.ofBelow hb2) (by simp)).cell 3 rfl
      go_wp2
      go_ret
      exact ⟨_, rfl, hb.trans (hb2.mono hb.size)⟩
end Go.Proofs.YtjncjcellpbhcaaGreatDoor.val
