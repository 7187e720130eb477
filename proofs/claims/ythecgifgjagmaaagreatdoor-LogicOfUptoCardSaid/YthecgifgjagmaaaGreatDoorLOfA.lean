/- Texts LOf, LOf2, one behind the other. -/
import Derived.Test.YthecgifgjagmaaaGreatDoorRNum
/- Contracts of logic's Of and of the reference's: what a value says as a condition. -/
namespace Go.Proofs.YthecgifgjagmaaaGreatDoor.val
open Go.ChangeShapes Go.WideShapes Go.ChangeAt Go.RowKit kit dec
set_option linter.unusedVariables false
set_option linter.unusedSimpArgs false
/-- The truth that Of tells, and its refusal. -/
def ofT (s may : Bool) (k : Int) (b : Bool) (n : Int) (t : ByteArray) : Int :=
  if may = false then (if s then 2 else 0) else if k = 1 then b2i b else if s = false then (if k = 0 then 2 else 0)
  else if k = 4 then b2i (!t.toList.isEmpty) else if isNum k then b2i (cmpI (numV k n t) 0 != 0) else 2
def ofE (s may : Bool) (k : Int) : Int :=
  if may = false then 1 else if k = 1 then 0 else if s = false then (if k = 0 then 0 else 4) else if k = 4 then 0 else if isNum k then 0 else if k = 0 then 5 else 4
theorem may_kinds {k : Int} {b : Bool} {n : Int} {t x : ByteArray} {l : List V} (h : mayV (.mk k b n t x l) = true) : (0 ≤ k ∧ k ≤ 10) ∧ (k = 3 → chk t.data.toList = true) := by
  unfold mayV at h
  obtain ⟨f, hf, _⟩ := chkV_W 60
  rw [hf] at h
  have := chkW_facts h
  exact ⟨this.2.2.2.2.2.2.2, this.2.2.2.2.2.1⟩
theorem cmp_int0 (n : Int) (t : ByteArray) : (cmpI (numV 2 n t) 0 != 0) = (n != 0) := by
  have h := cmp_e20 n 0 t ⟨#[]⟩
  have h0 : numV 2 0 ⟨#[]⟩ = 0 := by unfold numV; rw [if_pos rfl, Int.zero_mul]
  rw [h0] at h
  rw [h]
  by_cases e : n = 0
  · subst e; rw [cmpI_self]
  · rw [bne_iff_ne.2 e]
    exact bne_iff_ne.2 fun h => e ((cmpI_zero _ _).1 h)
set_option maxRecDepth 100000 in
set_option maxHeartbeats 8000000 in
theorem of_call (N : Nat) (hN : N ≤ 9223372036854775807) (lang : Int) (w : World) (hE : Env w) (k : Int) (b : Bool) (n : Int) (hn : In64 n) (t x : ByteArray) (s : Value) (l : List V) (ha : LA w N s l) (ht : t.size ≤ N) (hx : x.size ≤ N) :
    Calls Tryz.prog 10 #[.int .i64 lang, agg6 k b n t x s] w fun e w' => e = .returned (.tuple #[.int .i64 (ofT (decide (lang = 1)) (mayV (.mk k b n t x l)) k b n t), .int .i64 (ofE (decide (lang = 1)) (mayV (.mk k b n t x l)) k)]) ∧ Below w.heap.size w w' := by
  have hal : Below w.heap.size w (w.alloc (.cells #[.int .i64 k, .bool b, .int .i64 n, .string t, .string x, s] 26)) := (Below.refl _ _).alloc (Nat.le_refl _) _
  have hblk := Blk.new w #[.int .i64 k, .bool b, .int .i64 n, .string t, .string x, s] 26
  have hck := check_any N hN _ (hE.below hal) k b n t x s l (ha.stay hal) ht hx
  have hmk := fun h => may_kinds (k := k) (b := b) (n := n) (t := t) (x := x) (l := l) h
  generalize mayV (.mk k b n t x l) = p at *
  have hcm := fun (W : World) (h : Env W) => cmp_call t ⟨#[48, 46, 48]⟩ W h
  have hcz : chk t.data.toList = true → cmpR t.data.toList [48, 46, 48] = cmpI (numV 3 n t) 0 := fun h => by
    unfold cmpR numV
    rw [h, zero_chk.1, zero_chk.2]
    rfl
  have hci := cmp_int0 n t
  obtain ⟨T, hT⟩ : ∃ T : Value, (.tuple #[.int .i64 (ofT (decide (lang = 1)) p k b n t), .int .i64 (ofE (decide (lang = 1)) p k)]) = T := ⟨_, rfl⟩
  rw [hT]
  replace hT := Lib.hid hT
  unfold agg6 at hck ⊢
  replace hck := Lib.hid hck
  replace hmk := Lib.hid hmk
  replace hcz := Lib.hid hcz
  replace hci := Lib.hid hci
  have hEb := Lib.hid hE
  clear ha hE
  by_cases hl : lang = 1
  · subst hl
    go_enter Tryz.func10, Tryz.ntmps10
    go_wp2_with fail
    refine (hck.out).mono ?_
    rintro e w3 ⟨rfl, hb3⟩
    have hbe := Lib.hid (hal.trans (hb3.mono hal.size))
    have hblk3 := hblk.keep (Keep.ofBelow hb3) (by simp)
    clear hck hb3 hblk hal
    have x0 := hblk3.cell 0 rfl
    have x1 := hblk3.cell 1 rfl
    have x2c := hblk3.cell 2 rfl
    have x3 := hblk3.cell 3 rfl
    have x4 := hblk3.cell 4 rfl
    have x5 := hblk3.cell 5 rfl
    clear hblk3
    cases p
    case false =>
      go_wp2_with (first | (go_at_call 33; refine (ltruth_b _ _).mono ?_; rintro e w9 ⟨rfl, hw9⟩; rw [hw9]; clear hw9) | (go_at_call 36; refine (rtruth_b _ _).mono ?_; rintro e w9 ⟨rfl, hw9⟩; rw [hw9]; clear hw9))
      go_ret2
      exact ⟨ret_val (by rw [← hT.out]; simp [ofT, ofE, isNum]), hbe.out⟩
    have hk10 := Lib.hid (hmk.out (by simp)).1
    have hk3 := Lib.hid (hmk.out (by simp)).2
    have henv := Lib.hid (hEb.out.below hbe.out)
    clear hmk
    rcases kinds k with rfl | rfl | rfl | rfl | rfl | rfl | rfl | rfl | rfl | rfl | rfl | ⟨h0, h1, h2, h3, h4, h5, h6, h7, h8, h9, h10⟩
    · go_wp2_with (first | (go_at_call 33; refine (ltruth_b _ _).mono ?_; rintro e w9 ⟨rfl, hw9⟩; rw [hw9]; clear hw9) | (go_at_call 36; refine (rtruth_b _ _).mono ?_; rintro e w9 ⟨rfl, hw9⟩; rw [hw9]; clear hw9))
      go_ret2
      exact ⟨ret_val (by rw [← hT.out]; simp [ofT, ofE, isNum]), hbe.out⟩
    · go_wp2_with (first | (go_at_call 33; refine (ltruth_b _ _).mono ?_; rintro e w9 ⟨rfl, hw9⟩; rw [hw9]; clear hw9) | (go_at_call 36; refine (rtruth_b _ _).mono ?_; rintro e w9 ⟨rfl, hw9⟩; rw [hw9]; clear hw9))
      go_ret2
      exact ⟨ret_val (by rw [← hT.out]; simp [ofT, ofE, isNum]), hbe.out⟩
    · have hT2 : Hid (.tuple #[.int .i64 (b2i (n != 0)), .int .i64 0] = T) := Lib.hid (by rw [← hT.out, ← hci.out]; simp [ofT, ofE, isNum])
      clear hT hci
      go_wp2_with (go_at_call 33; refine (ltruth_b _ _).mono ?_; rintro e w9 ⟨rfl, hw9⟩; rw [hw9]; clear hw9)
      go_ret2
      exact ⟨ret_val hT2.out, hbe.out⟩
    · have hT2 : Hid (.tuple #[.int .i64 (b2i (cmpI (numV 3 n t) 0 != 0)), .int .i64 0] = T) := Lib.hid (by rw [← hT.out]; simp [ofT, ofE, isNum])
      have hcmp := hcm _ henv.out
      rw [hcz.out (hk3.out (by simp))] at hcmp
      generalize cmpI (numV 3 n t) 0 = Q at *
      replace hcmp := Lib.hid hcmp
      clear hT hcm hcz
      go_wp2_with fail
      refine (hcmp.out).mono ?_
      rintro e w4 ⟨rfl, hb4⟩
      have hbe4 := Lib.hid (hbe.out.trans (hb4.mono hbe.out.size))
      clear hbe hb4 henv hcmp
      go_wp2_with (go_at_call 33; refine (ltruth_b _ _).mono ?_; rintro e w9 ⟨rfl, hw9⟩; rw [hw9]; clear hw9)
      go_ret2
      exact ⟨ret_val hT2.out, hbe4.out⟩
    · go_wp2_with (first | (go_at_call 33; refine (ltruth_b _ _).mono ?_; rintro e w9 ⟨rfl, hw9⟩; rw [hw9]; clear hw9) | (go_at_call 36; refine (rtruth_b _ _).mono ?_; rintro e w9 ⟨rfl, hw9⟩; rw [hw9]; clear hw9))
      go_ret2
      exact ⟨ret_val (by rw [← hT.out]; simp [ofT, ofE, isNum]), hbe.out⟩
    · go_wp2_with (first | (go_at_call 33; refine (ltruth_b _ _).mono ?_; rintro e w9 ⟨rfl, hw9⟩; rw [hw9]; clear hw9) | (go_at_call 36; refine (rtruth_b _ _).mono ?_; rintro e w9 ⟨rfl, hw9⟩; rw [hw9]; clear hw9))
      go_ret2
      exact ⟨ret_val (by rw [← hT.out]; simp [ofT, ofE, isNum]), hbe.out⟩
    · go_wp2_with (first | (go_at_call 33; refine (ltruth_b _ _).mono ?_; rintro e w9 ⟨rfl, hw9⟩; rw [hw9]; clear hw9) | (go_at_call 36; refine (rtruth_b _ _).mono ?_; rintro e w9 ⟨rfl, hw9⟩; rw [hw9]; clear hw9))
      go_ret2
      exact ⟨ret_val (by rw [← hT.out]; simp [ofT, ofE, isNum]), hbe.out⟩
    · go_wp2_with (first | (go_at_call 33; refine (ltruth_b _ _).mono ?_; rintro e w9 ⟨rfl, hw9⟩; rw [hw9]; clear hw9) | (go_at_call 36; refine (rtruth_b _ _).mono ?_; rintro e w9 ⟨rfl, hw9⟩; rw [hw9]; clear hw9))
      go_ret2
      exact ⟨ret_val (by rw [← hT.out]; simp [ofT, ofE, isNum]), hbe.out⟩
    · go_wp2_with (first | (go_at_call 33; refine (ltruth_b _ _).mono ?_; rintro e w9 ⟨rfl, hw9⟩; rw [hw9]; clear hw9) | (go_at_call 36; refine (rtruth_b _ _).mono ?_; rintro e w9 ⟨rfl, hw9⟩; rw [hw9]; clear hw9))
      go_ret2
      exact ⟨ret_val (by rw [← hT.out]; simp [ofT, ofE, isNum]), hbe.out⟩
    · go_wp2_with (first | (go_at_call 33; refine (ltruth_b _ _).mono ?_; rintro e w9 ⟨rfl, hw9⟩; rw [hw9]; clear hw9) | (go_at_call 36; refine (rtruth_b _ _).mono ?_; rintro e w9 ⟨rfl, hw9⟩; rw [hw9]; clear hw9))
      go_ret2
      exact ⟨ret_val (by rw [← hT.out]; simp [ofT, ofE, isNum]), hbe.out⟩
    · go_wp2_with (first | (go_at_call 33; refine (ltruth_b _ _).mono ?_; rintro e w9 ⟨rfl, hw9⟩; rw [hw9]; clear hw9) | (go_at_call 36; refine (rtruth_b _ _).mono ?_; rintro e w9 ⟨rfl, hw9⟩; rw [hw9]; clear hw9))
      go_ret2
      exact ⟨ret_val (by rw [← hT.out]; simp [ofT, ofE, isNum]), hbe.out⟩
    · exact absurd hk10.out (by omega)
  · have hlb : (lang != 1) = true := bne_iff_ne.2 hl
    rw [decide_eq_false hl] at hT
    clear hl
    go_enter Tryz.func10, Tryz.ntmps10
    go_wp2_with fail
    refine (hck.out).mono ?_
    rintro e w3 ⟨rfl, hb3⟩
    have hbe := Lib.hid (hal.trans (hb3.mono hal.size))
    have hblk3 := hblk.keep (Keep.ofBelow hb3) (by simp)
    clear hck hb3 hblk hal
    have x0 := hblk3.cell 0 rfl
    have x1 := hblk3.cell 1 rfl
    have x2c := hblk3.cell 2 rfl
    have x3 := hblk3.cell 3 rfl
    have x4 := hblk3.cell 4 rfl
    have x5 := hblk3.cell 5 rfl
    clear hblk3
    cases p
    case false =>
      go_wp2_with (first | (go_at_call 33; refine (ltruth_b _ _).mono ?_; rintro e w9 ⟨rfl, hw9⟩; rw [hw9]; clear hw9) | (go_at_call 36; refine (rtruth_b _ _).mono ?_; rintro e w9 ⟨rfl, hw9⟩; rw [hw9]; clear hw9))
      go_ret2
      exact ⟨ret_val (by rw [← hT.out]; simp [ofT, ofE, isNum]), hbe.out⟩
    have hk10 := Lib.hid (hmk.out (by simp)).1
    clear hmk hci hcz hcm
    rcases kinds k with rfl | rfl | rfl | rfl | rfl | rfl | rfl | rfl | rfl | rfl | rfl | ⟨h0, h1, h2, h3, h4, h5, h6, h7, h8, h9, h10⟩
    · go_wp2_with (first | (go_at_call 33; refine (ltruth_b _ _).mono ?_; rintro e w9 ⟨rfl, hw9⟩; rw [hw9]; clear hw9) | (go_at_call 36; refine (rtruth_b _ _).mono ?_; rintro e w9 ⟨rfl, hw9⟩; rw [hw9]; clear hw9))
      go_ret2
      exact ⟨ret_val (by rw [← hT.out]; simp [ofT, ofE, isNum]), hbe.out⟩
    · go_wp2_with (first | (go_at_call 33; refine (ltruth_b _ _).mono ?_; rintro e w9 ⟨rfl, hw9⟩; rw [hw9]; clear hw9) | (go_at_call 36; refine (rtruth_b _ _).mono ?_; rintro e w9 ⟨rfl, hw9⟩; rw [hw9]; clear hw9))
      go_ret2
      exact ⟨ret_val (by rw [← hT.out]; simp [ofT, ofE, isNum]), hbe.out⟩
    · go_wp2_with (first | (go_at_call 33; refine (ltruth_b _ _).mono ?_; rintro e w9 ⟨rfl, hw9⟩; rw [hw9]; clear hw9) | (go_at_call 36; refine (rtruth_b _ _).mono ?_; rintro e w9 ⟨rfl, hw9⟩; rw [hw9]; clear hw9))
      go_ret2
      exact ⟨ret_val (by rw [← hT.out]; simp [ofT, ofE, isNum]), hbe.out⟩
    · go_wp2_with (first | (go_at_call 33; refine (ltruth_b _ _).mono ?_; rintro e w9 ⟨rfl, hw9⟩; rw [hw9]; clear hw9) | (go_at_call 36; refine (rtruth_b _ _).mono ?_; rintro e w9 ⟨rfl, hw9⟩; rw [hw9]; clear hw9))
      go_ret2
      exact ⟨ret_val (by rw [← hT.out]; simp [ofT, ofE, isNum]), hbe.out⟩
    · go_wp2_with (first | (go_at_call 33; refine (ltruth_b _ _).mono ?_; rintro e w9 ⟨rfl, hw9⟩; rw [hw9]; clear hw9) | (go_at_call 36; refine (rtruth_b _ _).mono ?_; rintro e w9 ⟨rfl, hw9⟩; rw [hw9]; clear hw9))
      go_ret2
      exact ⟨ret_val (by rw [← hT.out]; simp [ofT, ofE, isNum]), hbe.out⟩
    · go_wp2_with (first | (go_at_call 33; refine (ltruth_b _ _).mono ?_; rintro e w9 ⟨rfl, hw9⟩; rw [hw9]; clear hw9) | (go_at_call 36; refine (rtruth_b _ _).mono ?_; rintro e w9 ⟨rfl, hw9⟩; rw [hw9]; clear hw9))
      go_ret2
      exact ⟨ret_val (by rw [← hT.out]; simp [ofT, ofE, isNum]), hbe.out⟩
    · go_wp2_with (first | (go_at_call 33; refine (ltruth_b _ _).mono ?_; rintro e w9 ⟨rfl, hw9⟩; rw [hw9]; clear hw9) | (go_at_call 36; refine (rtruth_b _ _).mono ?_; rintro e w9 ⟨rfl, hw9⟩; rw [hw9]; clear hw9))
      go_ret2
      exact ⟨ret_val (by rw [← hT.out]; simp [ofT, ofE, isNum]), hbe.out⟩
    · go_wp2_with (first | (go_at_call 33; refine (ltruth_b _ _).mono ?_; rintro e w9 ⟨rfl, hw9⟩; rw [hw9]; clear hw9) | (go_at_call 36; refine (rtruth_b _ _).mono ?_; rintro e w9 ⟨rfl, hw9⟩; rw [hw9]; clear hw9))
      go_ret2
      exact ⟨ret_val (by rw [← hT.out]; simp [ofT, ofE, isNum]), hbe.out⟩
    · go_wp2_with (first | (go_at_call 33; refine (ltruth_b _ _).mono ?_; rintro e w9 ⟨rfl, hw9⟩; rw [hw9]; clear hw9) | (go_at_call 36; refine (rtruth_b _ _).mono ?_; rintro e w9 ⟨rfl, hw9⟩; rw [hw9]; clear hw9))
      go_ret2
      exact ⟨ret_val (by rw [← hT.out]; simp [ofT, ofE, isNum]), hbe.out⟩
    · go_wp2_with (first | (go_at_call 33; refine (ltruth_b _ _).mono ?_; rintro e w9 ⟨rfl, hw9⟩; rw [hw9]; clear hw9) | (go_at_call 36; refine (rtruth_b _ _).mono ?_; rintro e w9 ⟨rfl, hw9⟩; rw [hw9]; clear hw9))
      go_ret2
      exact ⟨ret_val (by rw [← hT.out]; simp [ofT, ofE, isNum]), hbe.out⟩
    · go_wp2_with (first | (go_at_call 33; refine (ltruth_b _ _).mono ?_; rintro e w9 ⟨rfl, hw9⟩; rw [hw9]; clear hw9) | (go_at_call 36; refine (rtruth_b _ _).mono ?_; rintro e w9 ⟨rfl, hw9⟩; rw [hw9]; clear hw9))
      go_ret2
      exact ⟨ret_val (by rw [← hT.out]; simp [ofT, ofE, isNum]), hbe.out⟩
    · exact absurd hk10.out (by omega)
end Go.Proofs.YthecgifgjagmaaaGreatDoor.val

/- Contracts of the reference's Of, and of Back, both: what a value says as a condition, a truth value as a value. -/
namespace Go.Proofs.YthecgifgjagmaaaGreatDoor.val
open Go.ChangeShapes Go.WideShapes Go.ChangeAt Go.RowKit kit dec
set_option linter.unusedVariables false
set_option linter.unusedSimpArgs false
set_option maxRecDepth 100000 in
set_option maxHeartbeats 8000000 in
theorem rof_call (N : Nat) (hN : N ≤ 1048576) (lang : Int) (w : World) (k : Int) (b : Bool) (n : Int) (hn : In64 n) (t x : ByteArray) (s : Value) (l : List V) (ha : LA w N s l) (ht : t.size ≤ N) (hx : x.size ≤ N) :
    Calls Tryz.prog 11 #[.int .i64 lang, agg6 k b n t x s] w fun e w' => e = .returned (.tuple #[.int .i64 (ofT (decide (lang = 1)) (mayV (.mk k b n t x l)) k b n t), .int .i64 (ofE (decide (lang = 1)) (mayV (.mk k b n t x l)) k)]) ∧ Below w.heap.size w w' := by
  have hal : Below w.heap.size w (w.alloc (.cells #[.int .i64 k, .bool b, .int .i64 n, .string t, .string x, s] 26)) := (Below.refl _ _).alloc (Nat.le_refl _) _
  have hblk := Blk.new w #[.int .i64 k, .bool b, .int .i64 n, .string t, .string x, s] 26
  have hck := rMay_call N hN _ k b n t x s l (ha.stay hal) ht hx
  have hmk := fun h => may_kinds (k := k) (b := b) (n := n) (t := t) (x := x) (l := l) h
  generalize mayV (.mk k b n t x l) = p at *
  have hdec : ∀ W, Below w.heap.size w W → Calls Tryz.prog 38 #[agg6 k b n t x s] W fun e w' => ∃ u : ByteArray, e = .returned (.string u) ∧ (chk u.data.toList = true ∧ zof u.data.toList = numV k n t) ∧ Below W.heap.size W w' := fun W _ => rdec_call k b n hn t x s W (by omega)
  obtain ⟨T, hT⟩ : ∃ T : Value, (.tuple #[.int .i64 (ofT (decide (lang = 1)) p k b n t), .int .i64 (ofE (decide (lang = 1)) p k)]) = T := ⟨_, rfl⟩
  rw [hT]
  replace hT := Lib.hid hT
  unfold agg6 at hck hdec ⊢
  replace hck := Lib.hid hck
  replace hmk := Lib.hid hmk
  replace hdec := Lib.hid hdec
  clear ha
  by_cases hl : lang = 1
  · subst hl
    go_enter Tryz.func11, Tryz.ntmps11
    go_wp2_with fail
    refine (hck.out).mono ?_
    rintro e w3 ⟨rfl, hb3⟩
    have hbe := Lib.hid (hal.trans (hb3.mono hal.size))
    have hblk3 := hblk.keep (Keep.ofBelow hb3) (by simp)
    clear hck hb3 hblk hal
    have x0 := hblk3.cell 0 rfl
    have x1 := hblk3.cell 1 rfl
    have x2c := hblk3.cell 2 rfl
    have x3 := hblk3.cell 3 rfl
    have x4 := hblk3.cell 4 rfl
    have x5 := hblk3.cell 5 rfl
    clear hblk3
    cases p
    case false =>
      go_wp2_with (first | (go_at_call 33; refine (ltruth_b _ _).mono ?_; rintro e w9 ⟨rfl, hw9⟩; rw [hw9]; clear hw9) | (go_at_call 36; refine (rtruth_b _ _).mono ?_; rintro e w9 ⟨rfl, hw9⟩; rw [hw9]; clear hw9))
      go_ret2
      exact ⟨ret_val (by rw [← hT.out]; simp [ofT, ofE, isNum]), hbe.out⟩
    have hk10 := Lib.hid (hmk.out (by simp)).1
    have hk3 := Lib.hid (hmk.out (by simp)).2
    clear hmk
    rcases kinds k with rfl | rfl | rfl | rfl | rfl | rfl | rfl | rfl | rfl | rfl | rfl | ⟨h0, h1, h2, h3, h4, h5, h6, h7, h8, h9, h10⟩
    · go_wp2_with (first | (go_at_call 33; refine (ltruth_b _ _).mono ?_; rintro e w9 ⟨rfl, hw9⟩; rw [hw9]; clear hw9) | (go_at_call 36; refine (rtruth_b _ _).mono ?_; rintro e w9 ⟨rfl, hw9⟩; rw [hw9]; clear hw9))
      go_ret2
      exact ⟨ret_val (by rw [← hT.out]; simp [ofT, ofE, isNum]), hbe.out⟩
    · go_wp2_with (first | (go_at_call 33; refine (ltruth_b _ _).mono ?_; rintro e w9 ⟨rfl, hw9⟩; rw [hw9]; clear hw9) | (go_at_call 36; refine (rtruth_b _ _).mono ?_; rintro e w9 ⟨rfl, hw9⟩; rw [hw9]; clear hw9))
      go_ret2
      exact ⟨ret_val (by rw [← hT.out]; simp [ofT, ofE, isNum]), hbe.out⟩
    · have hT2 : Hid (.tuple #[.int .i64 (b2i (cmpI (numV 2 n t) 0 != 0)), .int .i64 0] = T) := Lib.hid (by rw [← hT.out]; simp [ofT, ofE, isNum])
      clear hT
      go_wp2_with fail
      refine (hdec.out _ hbe.out).mono ?_
      rintro e w4 ⟨u, rfl, hu, hb4⟩
      have hus := chk_sz u hu.1
      have hcmp := refcmp_call u ⟨#[48, 46, 48]⟩ w4 (by omega) (by decide)
      have hcv : cmpR u.data.toList [48, 46, 48] = cmpI (numV 2 n t) 0 := by
        unfold cmpR
        rw [hu.1, zero_chk.1, zero_chk.2, hu.2]
        rfl
      rw [hcv] at hcmp
      generalize cmpI (numV 2 n t) 0 = Q at *
      replace hcmp := Lib.hid hcmp
      have hbe4 := Lib.hid (hbe.out.trans (hb4.mono hbe.out.size))
      clear hbe hb4 hu hus hcv hdec
      go_wp2_with fail
      refine (hcmp.out).mono ?_
      rintro e w5 ⟨rfl, hb5⟩
      have hbe5 := Lib.hid (hbe4.out.trans (hb5.mono hbe4.out.size))
      clear hbe4 hb5 hcmp
      go_wp2_with (go_at_call 36; refine (rtruth_b _ _).mono ?_; rintro e w9 ⟨rfl, hw9⟩; rw [hw9]; clear hw9)
      go_ret2
      exact ⟨ret_val hT2.out, hbe5.out⟩
    · have hT2 : Hid (.tuple #[.int .i64 (b2i (cmpI (numV 3 n t) 0 != 0)), .int .i64 0] = T) := Lib.hid (by rw [← hT.out]; simp [ofT, ofE, isNum])
      clear hT
      go_wp2_with fail
      refine (hdec.out _ hbe.out).mono ?_
      rintro e w4 ⟨u, rfl, hu, hb4⟩
      have hus := chk_sz u hu.1
      have hcmp := refcmp_call u ⟨#[48, 46, 48]⟩ w4 (by omega) (by decide)
      have hcv : cmpR u.data.toList [48, 46, 48] = cmpI (numV 3 n t) 0 := by
        unfold cmpR
        rw [hu.1, zero_chk.1, zero_chk.2, hu.2]
        rfl
      rw [hcv] at hcmp
      generalize cmpI (numV 3 n t) 0 = Q at *
      replace hcmp := Lib.hid hcmp
      have hbe4 := Lib.hid (hbe.out.trans (hb4.mono hbe.out.size))
      clear hbe hb4 hu hus hcv hdec
      go_wp2_with fail
      refine (hcmp.out).mono ?_
      rintro e w5 ⟨rfl, hb5⟩
      have hbe5 := Lib.hid (hbe4.out.trans (hb5.mono hbe4.out.size))
      clear hbe4 hb5 hcmp
      go_wp2_with (go_at_call 36; refine (rtruth_b _ _).mono ?_; rintro e w9 ⟨rfl, hw9⟩; rw [hw9]; clear hw9)
      go_ret2
      exact ⟨ret_val hT2.out, hbe5.out⟩
    · go_wp2_with (first | (go_at_call 33; refine (ltruth_b _ _).mono ?_; rintro e w9 ⟨rfl, hw9⟩; rw [hw9]; clear hw9) | (go_at_call 36; refine (rtruth_b _ _).mono ?_; rintro e w9 ⟨rfl, hw9⟩; rw [hw9]; clear hw9))
      go_ret2
      exact ⟨ret_val (by rw [← hT.out]; simp [ofT, ofE, isNum]), hbe.out⟩
    · go_wp2_with (first | (go_at_call 33; refine (ltruth_b _ _).mono ?_; rintro e w9 ⟨rfl, hw9⟩; rw [hw9]; clear hw9) | (go_at_call 36; refine (rtruth_b _ _).mono ?_; rintro e w9 ⟨rfl, hw9⟩; rw [hw9]; clear hw9))
      go_ret2
      exact ⟨ret_val (by rw [← hT.out]; simp [ofT, ofE, isNum]), hbe.out⟩
    · go_wp2_with (first | (go_at_call 33; refine (ltruth_b _ _).mono ?_; rintro e w9 ⟨rfl, hw9⟩; rw [hw9]; clear hw9) | (go_at_call 36; refine (rtruth_b _ _).mono ?_; rintro e w9 ⟨rfl, hw9⟩; rw [hw9]; clear hw9))
      go_ret2
      exact ⟨ret_val (by rw [← hT.out]; simp [ofT, ofE, isNum]), hbe.out⟩
    · go_wp2_with (first | (go_at_call 33; refine (ltruth_b _ _).mono ?_; rintro e w9 ⟨rfl, hw9⟩; rw [hw9]; clear hw9) | (go_at_call 36; refine (rtruth_b _ _).mono ?_; rintro e w9 ⟨rfl, hw9⟩; rw [hw9]; clear hw9))
      go_ret2
      exact ⟨ret_val (by rw [← hT.out]; simp [ofT, ofE, isNum]), hbe.out⟩
    · go_wp2_with (first | (go_at_call 33; refine (ltruth_b _ _).mono ?_; rintro e w9 ⟨rfl, hw9⟩; rw [hw9]; clear hw9) | (go_at_call 36; refine (rtruth_b _ _).mono ?_; rintro e w9 ⟨rfl, hw9⟩; rw [hw9]; clear hw9))
      go_ret2
      exact ⟨ret_val (by rw [← hT.out]; simp [ofT, ofE, isNum]), hbe.out⟩
    · go_wp2_with (first | (go_at_call 33; refine (ltruth_b _ _).mono ?_; rintro e w9 ⟨rfl, hw9⟩; rw [hw9]; clear hw9) | (go_at_call 36; refine (rtruth_b _ _).mono ?_; rintro e w9 ⟨rfl, hw9⟩; rw [hw9]; clear hw9))
      go_ret2
      exact ⟨ret_val (by rw [← hT.out]; simp [ofT, ofE, isNum]), hbe.out⟩
    · go_wp2_with (first | (go_at_call 33; refine (ltruth_b _ _).mono ?_; rintro e w9 ⟨rfl, hw9⟩; rw [hw9]; clear hw9) | (go_at_call 36; refine (rtruth_b _ _).mono ?_; rintro e w9 ⟨rfl, hw9⟩; rw [hw9]; clear hw9))
      go_ret2
      exact ⟨ret_val (by rw [← hT.out]; simp [ofT, ofE, isNum]), hbe.out⟩
    · exact absurd hk10.out (by omega)
  · have hlb : (lang != 1) = true := bne_iff_ne.2 hl
    have hlb2 : (lang == 1) = false := beq_eq_false_iff_ne.2 hl
    rw [decide_eq_false hl] at hT
    clear hl
    go_enter Tryz.func11, Tryz.ntmps11
    go_wp2_with fail
    refine (hck.out).mono ?_
    rintro e w3 ⟨rfl, hb3⟩
    have hbe := Lib.hid (hal.trans (hb3.mono hal.size))
    have hblk3 := hblk.keep (Keep.ofBelow hb3) (by simp)
    clear hck hb3 hblk hal
    have x0 := hblk3.cell 0 rfl
    have x1 := hblk3.cell 1 rfl
    have x2c := hblk3.cell 2 rfl
    have x3 := hblk3.cell 3 rfl
    have x4 := hblk3.cell 4 rfl
    have x5 := hblk3.cell 5 rfl
    clear hblk3
    cases p
    case false =>
      go_wp2_with (first | (go_at_call 33; refine (ltruth_b _ _).mono ?_; rintro e w9 ⟨rfl, hw9⟩; rw [hw9]; clear hw9) | (go_at_call 36; refine (rtruth_b _ _).mono ?_; rintro e w9 ⟨rfl, hw9⟩; rw [hw9]; clear hw9))
      go_ret2
      exact ⟨ret_val (by rw [← hT.out]; simp [ofT, ofE, isNum]), hbe.out⟩
    have hk10 := Lib.hid (hmk.out (by simp)).1
    clear hmk hdec
    rcases kinds k with rfl | rfl | rfl | rfl | rfl | rfl | rfl | rfl | rfl | rfl | rfl | ⟨h0, h1, h2, h3, h4, h5, h6, h7, h8, h9, h10⟩
    · go_wp2_with (first | (go_at_call 33; refine (ltruth_b _ _).mono ?_; rintro e w9 ⟨rfl, hw9⟩; rw [hw9]; clear hw9) | (go_at_call 36; refine (rtruth_b _ _).mono ?_; rintro e w9 ⟨rfl, hw9⟩; rw [hw9]; clear hw9))
      go_ret2
      exact ⟨ret_val (by rw [← hT.out]; simp [ofT, ofE, isNum]), hbe.out⟩
    · go_wp2_with (first | (go_at_call 33; refine (ltruth_b _ _).mono ?_; rintro e w9 ⟨rfl, hw9⟩; rw [hw9]; clear hw9) | (go_at_call 36; refine (rtruth_b _ _).mono ?_; rintro e w9 ⟨rfl, hw9⟩; rw [hw9]; clear hw9))
      go_ret2
      exact ⟨ret_val (by rw [← hT.out]; simp [ofT, ofE, isNum]), hbe.out⟩
    · go_wp2_with (first | (go_at_call 33; refine (ltruth_b _ _).mono ?_; rintro e w9 ⟨rfl, hw9⟩; rw [hw9]; clear hw9) | (go_at_call 36; refine (rtruth_b _ _).mono ?_; rintro e w9 ⟨rfl, hw9⟩; rw [hw9]; clear hw9))
      go_ret2
      exact ⟨ret_val (by rw [← hT.out]; simp [ofT, ofE, isNum]), hbe.out⟩
    · go_wp2_with (first | (go_at_call 33; refine (ltruth_b _ _).mono ?_; rintro e w9 ⟨rfl, hw9⟩; rw [hw9]; clear hw9) | (go_at_call 36; refine (rtruth_b _ _).mono ?_; rintro e w9 ⟨rfl, hw9⟩; rw [hw9]; clear hw9))
      go_ret2
      exact ⟨ret_val (by rw [← hT.out]; simp [ofT, ofE, isNum]), hbe.out⟩
    · go_wp2_with (first | (go_at_call 33; refine (ltruth_b _ _).mono ?_; rintro e w9 ⟨rfl, hw9⟩; rw [hw9]; clear hw9) | (go_at_call 36; refine (rtruth_b _ _).mono ?_; rintro e w9 ⟨rfl, hw9⟩; rw [hw9]; clear hw9))
      go_ret2
      exact ⟨ret_val (by rw [← hT.out]; simp [ofT, ofE, isNum]), hbe.out⟩
    · go_wp2_with (first | (go_at_call 33; refine (ltruth_b _ _).mono ?_; rintro e w9 ⟨rfl, hw9⟩; rw [hw9]; clear hw9) | (go_at_call 36; refine (rtruth_b _ _).mono ?_; rintro e w9 ⟨rfl, hw9⟩; rw [hw9]; clear hw9))
      go_ret2
      exact ⟨ret_val (by rw [← hT.out]; simp [ofT, ofE, isNum]), hbe.out⟩
    · go_wp2_with (first | (go_at_call 33; refine (ltruth_b _ _).mono ?_; rintro e w9 ⟨rfl, hw9⟩; rw [hw9]; clear hw9) | (go_at_call 36; refine (rtruth_b _ _).mono ?_; rintro e w9 ⟨rfl, hw9⟩; rw [hw9]; clear hw9))
      go_ret2
      exact ⟨ret_val (by rw [← hT.out]; simp [ofT, ofE, isNum]), hbe.out⟩
    · go_wp2_with (first | (go_at_call 33; refine (ltruth_b _ _).mono ?_; rintro e w9 ⟨rfl, hw9⟩; rw [hw9]; clear hw9) | (go_at_call 36; refine (rtruth_b _ _).mono ?_; rintro e w9 ⟨rfl, hw9⟩; rw [hw9]; clear hw9))
      go_ret2
      exact ⟨ret_val (by rw [← hT.out]; simp [ofT, ofE, isNum]), hbe.out⟩
    · go_wp2_with (first | (go_at_call 33; refine (ltruth_b _ _).mono ?_; rintro e w9 ⟨rfl, hw9⟩; rw [hw9]; clear hw9) | (go_at_call 36; refine (rtruth_b _ _).mono ?_; rintro e w9 ⟨rfl, hw9⟩; rw [hw9]; clear hw9))
      go_ret2
      exact ⟨ret_val (by rw [← hT.out]; simp [ofT, ofE, isNum]), hbe.out⟩
    · go_wp2_with (first | (go_at_call 33; refine (ltruth_b _ _).mono ?_; rintro e w9 ⟨rfl, hw9⟩; rw [hw9]; clear hw9) | (go_at_call 36; refine (rtruth_b _ _).mono ?_; rintro e w9 ⟨rfl, hw9⟩; rw [hw9]; clear hw9))
      go_ret2
      exact ⟨ret_val (by rw [← hT.out]; simp [ofT, ofE, isNum]), hbe.out⟩
    · go_wp2_with (first | (go_at_call 33; refine (ltruth_b _ _).mono ?_; rintro e w9 ⟨rfl, hw9⟩; rw [hw9]; clear hw9) | (go_at_call 36; refine (rtruth_b _ _).mono ?_; rintro e w9 ⟨rfl, hw9⟩; rw [hw9]; clear hw9))
      go_ret2
      exact ⟨ret_val (by rw [← hT.out]; simp [ofT, ofE, isNum]), hbe.out⟩
    · exact absurd hk10.out (by omega)
/-- A truth value as a value: its kind, its bool, the refusal. -/
def bkK (r : Int) : Int := if r = 0 ∨ r = 1 then 1 else 0
def bkB (r : Int) : Bool := decide (r = 1)
def bkE (r : Int) : Int := if r = 0 ∨ r = 1 ∨ r = 2 then 0 else 1
def bkV (r : Int) : Value := agg6 (bkK r) (bkB r) 0 ⟨#[]⟩ ⟨#[]⟩ (.slice none 0 0)
theorem infoV : (Tryz.prog.info? 26).map (·.size) = some 6 := by kernel_rfl
set_option maxRecDepth 100000 in
set_option maxHeartbeats 1000000 in
theorem back_call (r : Int) (w : World) : Calls Tryz.prog 12 #[.int .i64 r] w fun e w' => e = .returned (.tuple #[bkV r, .int .i64 (bkE r)]) ∧ Below w.heap.size w w' := by
  by_cases h0 : r = 0
  · subst h0
    go_enter Tryz.func12, Tryz.ntmps12
    go_wp2
    exact bodyPost_ret (v := .tuple #[.agg #[.int .i64 1, .bool false, .int .i64 0, .string ⟨#[]⟩, .string ⟨#[]⟩, .slice none 0 0], .int .i64 0]) (res2 rfl _ _ w.heap.size 26 _ (0, 0) _ _ rfl rfl (Blk.eq (Blk.new w #[.int .i64 1, .bool false, .int .i64 0, .string ⟨#[]⟩, .string ⟨#[]⟩, .slice none 0 0] 26)) Tryz.underlying26 rfl infoV) rfl ⟨rfl, (Below.refl _ _).alloc (Nat.le_refl _) _⟩
  by_cases h1 : r = 1
  · subst h1
    go_enter Tryz.func12, Tryz.ntmps12
    go_wp2
    exact bodyPost_ret (v := .tuple #[.agg #[.int .i64 1, .bool true, .int .i64 0, .string ⟨#[]⟩, .string ⟨#[]⟩, .slice none 0 0], .int .i64 0]) (res2 rfl _ _ w.heap.size 26 _ (0, 0) _ _ rfl rfl (Blk.eq (Blk.new w #[.int .i64 1, .bool true, .int .i64 0, .string ⟨#[]⟩, .string ⟨#[]⟩, .slice none 0 0] 26)) Tryz.underlying26 rfl infoV) rfl ⟨rfl, (Below.refl _ _).alloc (Nat.le_refl _) _⟩
  by_cases h2 : r = 2
  · subst h2
    go_enter Tryz.func12, Tryz.ntmps12
    go_wp2
    exact bodyPost_ret (v := .tuple #[.agg #[.int .i64 0, .bool false, .int .i64 0, .string ⟨#[]⟩, .string ⟨#[]⟩, .slice none 0 0], .int .i64 0]) (res2 rfl _ _ w.heap.size 26 _ (0, 0) _ _ rfl rfl (Blk.eq (Blk.new w #[.int .i64 0, .bool false, .int .i64 0, .string ⟨#[]⟩, .string ⟨#[]⟩, .slice none 0 0] 26)) Tryz.underlying26 rfl infoV) rfl ⟨rfl, (Below.refl _ _).alloc (Nat.le_refl _) _⟩
  have q0 : (r == 0) = false := beq_eq_false_iff_ne.2 h0
  have q1 : (r == 1) = false := beq_eq_false_iff_ne.2 h1
  have q2 : (r == 2) = false := beq_eq_false_iff_ne.2 h2
  have e1 : bkV r = agg6 0 false 0 ⟨#[]⟩ ⟨#[]⟩ (.slice none 0 0) := by unfold bkV bkK bkB; rw [if_neg (by omega), decide_eq_false h1]
  have e2 : bkE r = 1 := by unfold bkE; rw [if_neg (by omega)]
  rw [e1, e2]
  clear h0 h1 h2 e1 e2
  go_enter Tryz.func12, Tryz.ntmps12
  go_wp2
  exact bodyPost_ret (v := .tuple #[.agg #[.int .i64 0, .bool false, .int .i64 0, .string ⟨#[]⟩, .string ⟨#[]⟩, .slice none 0 0], .int .i64 1]) (res2 rfl _ _ w.heap.size 26 _ (0, 0) _ _ rfl rfl (Blk.eq (Blk.new w #[.int .i64 0, .bool false, .int .i64 0, .string ⟨#[]⟩, .string ⟨#[]⟩, .slice none 0 0] 26)) Tryz.underlying26 rfl infoV) rfl ⟨rfl, (Below.refl _ _).alloc (Nat.le_refl _) _⟩
set_option maxRecDepth 100000 in
set_option maxHeartbeats 1000000 in
theorem rback_call (r : Int) (w : World) : Calls Tryz.prog 13 #[.int .i64 r] w fun e w' => e = .returned (.tuple #[bkV r, .int .i64 (bkE r)]) ∧ Below w.heap.size w w' := by
  by_cases h0 : r = 0
  · subst h0
    go_enter Tryz.func13, Tryz.ntmps13
    go_wp2
    exact bodyPost_ret (v := .tuple #[.agg #[.int .i64 1, .bool false, .int .i64 0, .string ⟨#[]⟩, .string ⟨#[]⟩, .slice none 0 0], .int .i64 0]) (res2 rfl _ _ w.heap.size 26 _ (0, 0) _ _ rfl rfl (Blk.eq (Blk.new w #[.int .i64 1, .bool false, .int .i64 0, .string ⟨#[]⟩, .string ⟨#[]⟩, .slice none 0 0] 26)) Tryz.underlying26 rfl infoV) rfl ⟨rfl, (Below.refl _ _).alloc (Nat.le_refl _) _⟩
  by_cases h1 : r = 1
  · subst h1
    go_enter Tryz.func13, Tryz.ntmps13
    go_wp2
    exact bodyPost_ret (v := .tuple #[.agg #[.int .i64 1, .bool true, .int .i64 0, .string ⟨#[]⟩, .string ⟨#[]⟩, .slice none 0 0], .int .i64 0]) (res2 rfl _ _ w.heap.size 26 _ (0, 0) _ _ rfl rfl (Blk.eq (Blk.new w #[.int .i64 1, .bool true, .int .i64 0, .string ⟨#[]⟩, .string ⟨#[]⟩, .slice none 0 0] 26)) Tryz.underlying26 rfl infoV) rfl ⟨rfl, (Below.refl _ _).alloc (Nat.le_refl _) _⟩
  by_cases h2 : r = 2
  · subst h2
    go_enter Tryz.func13, Tryz.ntmps13
    go_wp2
    exact bodyPost_ret (v := .tuple #[.agg #[.int .i64 0, .bool false, .int .i64 0, .string ⟨#[]⟩, .string ⟨#[]⟩, .slice none 0 0], .int .i64 0]) (res2 rfl _ _ w.heap.size 26 _ (0, 0) _ _ rfl rfl (Blk.eq (Blk.new w #[.int .i64 0, .bool false, .int .i64 0, .string ⟨#[]⟩, .string ⟨#[]⟩, .slice none 0 0] 26)) Tryz.underlying26 rfl infoV) rfl ⟨rfl, (Below.refl _ _).alloc (Nat.le_refl _) _⟩
  have q0 : (r == 0) = false := beq_eq_false_iff_ne.2 h0
  have q1 : (r == 1) = false := beq_eq_false_iff_ne.2 h1
  have q2 : (r == 2) = false := beq_eq_false_iff_ne.2 h2
  have e1 : bkV r = agg6 0 false 0 ⟨#[]⟩ ⟨#[]⟩ (.slice none 0 0) := by unfold bkV bkK bkB; rw [if_neg (by omega), decide_eq_false h1]
  have e2 : bkE r = 1 := by unfold bkE; rw [if_neg (by omega)]
  rw [e1, e2]
  clear h0 h1 h2 e1 e2
  go_enter Tryz.func13, Tryz.ntmps13
  go_wp2
  exact bodyPost_ret (v := .tuple #[.agg #[.int .i64 0, .bool false, .int .i64 0, .string ⟨#[]⟩, .string ⟨#[]⟩, .slice none 0 0], .int .i64 1]) (res2 rfl _ _ w.heap.size 26 _ (0, 0) _ _ rfl rfl (Blk.eq (Blk.new w #[.int .i64 0, .bool false, .int .i64 0, .string ⟨#[]⟩, .string ⟨#[]⟩, .slice none 0 0] 26)) Tryz.underlying26 rfl infoV) rfl ⟨rfl, (Below.refl _ _).alloc (Nat.le_refl _) _⟩
end Go.Proofs.YthecgifgjagmaaaGreatDoor.val
