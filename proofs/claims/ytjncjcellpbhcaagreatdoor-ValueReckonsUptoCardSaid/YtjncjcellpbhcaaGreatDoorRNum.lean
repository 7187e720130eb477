/- Contracts of the reference's Dec, Truth: a number as a decimal. -/
import Derived.Test.YtjncjcellpbhcaaGreatDoorRMayA
import Derived.Test.YtjncjcellpbhcaaGreatDoorVNum
import Derived.Test.YtjncjcellpbhcaaGreatDoorRefReadA
import Derived.Test.YtjncjcellpbhcaaGreatDoorRefIntA
namespace Go.Proofs.YtjncjcellpbhcaaGreatDoor.val
open Go.ChangeShapes Go.WideShapes Go.ChangeAt Go.RowKit kit dec
set_option linter.unusedVariables false
set_option linter.unusedSimpArgs false
set_option maxRecDepth 100000 in
theorem rdec_call (k : Int) (b : Bool) (n : Int) (hn : In64 n) (t x : ByteArray) (s : Value) (w : World) (ht : t.size ≤ 1048576) : Calls Tryz.prog 36 #[agg6 k b n t x s] w fun e w' => ∃ u : ByteArray, e = .returned (.string u) ∧ (chk u.data.toList = true ∧ zof u.data.toList = numV k n t) ∧ Below w.heap.size w w' := by
  have hb : Below w.heap.size w (w.alloc (.cells #[.int .i64 k, .bool b, .int .i64 n, .string t, .string x, s] 26)) := (Below.refl _ _).alloc (Nat.le_refl _) _
  have hof := rofInt_any n (w.alloc (.cells #[.int .i64 k, .bool b, .int .i64 n, .string t, .string x, s] 26)) hn.1 hn.2
  have hck := rcheck_big t (w.alloc (.cells #[.int .i64 k, .bool b, .int .i64 n, .string t, .string x, s] 26)) ht
  have hbk : Blk (w.alloc (.cells #[.int .i64 k, .bool b, .int .i64 n, .string t, .string x, s] 26)) w.heap.size #[.int .i64 k, .bool b, .int .i64 n, .string t, .string x, s] 26 := Blk.new _ _ _
  have h1 : chk (tx (canon (n * E20))).data.toList = true ∧ zof (tx (canon (n * E20))).data.toList = n * E20 := ⟨chk_canon _ (ofInt_small n hn.1 hn.2), zof_canon _ (ofInt_small n hn.1 hn.2)⟩
  have h0 : chk [48, 46, 48] = true ∧ zof [48, 46, 48] = 0 := by
    rw [show ([48, 46, 48] : List UInt8) = canon 0 by kernel_rfl]
    exact ⟨chk_canon 0 (by unfold small top; decide), zof_canon 0 (by unfold small top; decide)⟩
  have h3 : ∀ c, chk t.data.toList = c → (c = true → chk t.data.toList = true ∧ zof t.data.toList = (if chk t.data.toList then zof t.data.toList else 0)) ∧ (c = false → (0 : Int) = (if chk t.data.toList then zof t.data.toList else 0)) := fun c hc => ⟨fun h => by rw [hc, h]; exact ⟨rfl, rfl⟩, fun h => by rw [hc, h]; rfl⟩
  unfold numV
  generalize canon (n * E20) = R at *
  obtain ⟨c, hc⟩ : ∃ c, chk t.data.toList = c := ⟨_, rfl⟩
  have h4 := h3 c hc
  rw [hc] at hck
  replace h0 := Lib.hid h0
  replace h1 := Lib.hid h1
  replace h4 := Lib.hid h4
  clear h3 hc
  replace hof := Lib.hid hof
  replace hck := Lib.hid hck
  unfold agg6
  by_cases h2 : k = 2
  · subst h2
    go_enter Tryz.func36, Tryz.ntmps36
    go_wp2_with fail
    refine hof.out.mono ?_
    rintro e w2 ⟨rfl, hb2⟩
    go_wp2
    go_ret
    exact ⟨_, rfl, h1.out, hb.trans (hb2.mono hb.size)⟩
  · have q2 : (k == 2) = false := by simpa using h2
    rw [if_neg h2]
    clear h2 hof h1
    generalize (if chk t.data.toList = true then zof t.data.toList else 0) = Z at *
    cases c
    · go_enter Tryz.func36, Tryz.ntmps36
      go_wp2_with fail
      refine hck.out.mono ?_
      rintro e w2 ⟨rfl, hb2⟩
      go_wp2
      go_ret
      exact ⟨_, rfl, ⟨h0.out.1, h0.out.2.trans (h4.out.2 (by simp))⟩, hb.trans (hb2.mono hb.size)⟩
    · go_enter Tryz.func36, Tryz.ntmps36
      go_wp2_with fail
      refine hck.out.mono ?_
      rintro e w2 ⟨rfl, hb2⟩
      have c3 : w2.cell? ⟨w.heap.size, 3, none⟩ = some (.string t) := (hbk.keep (Keep.ofBelow hb2) (by simp)).cell 3 rfl
      go_wp2
      go_ret
      exact ⟨_, rfl, h4.out.1 (by simp), hb.trans (hb2.mono hb.size)⟩
theorem chk_sz (t : ByteArray) (h : chk t.data.toList = true) : t.size ≤ 62 := by
  unfold chk at h
  rw [Bool.and_eq_true, decide_eq_true_iff] at h
  have := h.1
  simpa using this
theorem zero_chk : chk [48, 46, 48] = true ∧ zof [48, 46, 48] = 0 := by
  rw [show ([48, 46, 48] : List UInt8) = canon 0 by kernel_rfl]
  exact ⟨chk_canon 0 (by unfold small top; decide), zof_canon 0 (by unfold small top; decide)⟩
end Go.Proofs.YtjncjcellpbhcaaGreatDoor.val
