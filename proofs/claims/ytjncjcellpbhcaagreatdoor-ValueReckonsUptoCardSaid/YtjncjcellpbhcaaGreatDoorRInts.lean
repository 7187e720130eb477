/- Contracts of the reference's ints, twoInts: what an operation makes of two whole numbers, by decimals. -/
import Derived.Test.YtjncjcellpbhcaaGreatDoorVInts
import Derived.Test.YtjncjcellpbhcaaGreatDoorRefIntA
import Derived.Test.YtjncjcellpbhcaaGreatDoorRefIntA
namespace Go.Proofs.YtjncjcellpbhcaaGreatDoor.val
open Go.ChangeShapes Go.WideShapes Go.ChangeAt Go.RowKit kit dec
set_option linter.unusedVariables false
set_option linter.unusedSimpArgs false
theorem canon_size (n : Int) (h : In64 n) : (tx (canon (n * E20))).size ≤ 50000 := by
  rw [tx_size]
  have := canon_len (n * E20) (ofInt_small n h.1 h.2)
  omega
theorem canon_size' (z : Int) (h : small z) : (tx (canon z)).size ≤ 50000 := by
  rw [tx_size]
  have := canon_len z h
  omega
/-- The reference's sum, difference or product of two whole numbers as decimals. -/
theorem refop_call (op a b : Int) (ha : In64 a) (hb : In64 b) :
    (op = 17 → ∀ w, Calls Tryz.prog 35 #[.string (tx (canon (a * E20))), .string (tx (canon (b * E20)))] w fun e w' => e = .returned (rv (canon (opI op a b * E20), 0)) ∧ Below w.heap.size w w') ∧
    (op = 18 → ∀ w, Calls Tryz.prog 37 #[.string (tx (canon (a * E20))), .string (tx (canon (b * E20)))] w fun e w' => e = .returned (rv (canon (opI op a b * E20), 0)) ∧ Below w.heap.size w w') ∧
    (¬ op = 17 → ¬ op = 18 → ∀ w, Calls Tryz.prog 38 #[.string (tx (canon (a * E20))), .string (tx (canon (b * E20)))] w fun e w' => e = .returned (rv (canon (opI op a b * E20), 0)) ∧ Below w.heap.size w w') := by
  have h := (decI_eq op a b ha hb).1
  rw [← h]
  unfold decI
  refine ⟨fun h1 w => ?_, fun h1 w => ?_, fun h1 h2 w => ?_⟩
  · rw [if_pos h1]
    have := refadd_call (tx (canon (a * E20))) (tx (canon (b * E20))) w (canon_size a ha) (canon_size b hb)
    rw [tx_list, tx_list] at this
    exact this
  · rw [if_neg (by omega), if_pos h1]
    have := refsub_call (tx (canon (a * E20))) (tx (canon (b * E20))) w (canon_size a ha) (canon_size b hb)
    rw [tx_list, tx_list] at this
    exact this
  · rw [if_neg h1, if_neg h2]
    have := refmul_call (tx (canon (a * E20))) (tx (canon (b * E20))) w (canon_size a ha) (canon_size b hb)
    rw [tx_list, tx_list] at this
    exact this
theorem reftoI_call (z : Int) (hz : small (z * E20)) (w : World) : Calls Tryz.prog 101 #[.string (tx (canon (z * E20)))] w fun e w' => e = .returned (.tuple #[.int .i64 (if -9223372036854775808 ≤ z ∧ z ≤ 9223372036854775807 then z else 0), .bool (decide (-9223372036854775808 ≤ z ∧ z ≤ 9223372036854775807))]) ∧ Below w.heap.size w w' := by
  have h := rtoInt_any (tx (canon (z * E20))) w (canon_size' _ hz)
  rw [tx_list, toIR_z z hz] at h
  by_cases h1 : -9223372036854775808 ≤ z ∧ z ≤ 9223372036854775807
  · rw [if_pos h1] at h
    rw [if_pos h1, decide_eq_true h1]
    exact h
  · rw [if_neg h1] at h
    rw [if_neg h1, decide_eq_false h1]
    exact h
set_option maxRecDepth 100000 in
set_option maxHeartbeats 4000000 in
theorem rints_call (op a b : Int) (w : World) (ha : In64 a) (hb : In64 b) : Calls Tryz.prog 64 #[.int .i64 op, .int .i64 a, .int .i64 b] w fun e w' => e = .returned (tupR (inV (opI op a b))) ∧ Below w.heap.size w w' := by
  have hbl : Hid (Below w.heap.size w (w.alloc (.cells #[.int .i64 0, .bool false, .int .i64 0, .string ByteArray.empty, .string ByteArray.empty, .slice none 0 0] 26))) := Lib.hid ((Below.refl _ _).alloc (Nat.le_refl _) _)
  have hq := Lib.hid (Blk.new w #[.int .i64 0, .bool false, .int .i64 0, .string ByteArray.empty, .string ByteArray.empty, .slice none 0 0] 26)
  have hx := fun w => rofInt_any a w ha.1 ha.2
  have hy := fun w => rofInt_any b w hb.1 hb.2
  obtain ⟨hadd, hsub, hmul⟩ := refop_call op a b ha hb
  have htoi := reftoI_call (opI op a b) (decI_eq op a b ha hb).2
  generalize opI op a b = z at *
  generalize tx (canon (a * E20)) = X at *
  generalize tx (canon (b * E20)) = Y at *
  unfold rv at hadd hsub hmul
  dsimp only at hadd hsub hmul
  generalize tx (canon (z * E20)) = Z at *
  replace hx := Lib.hid hx
  replace hy := Lib.hid hy
  replace hadd := Lib.hid hadd
  replace hsub := Lib.hid hsub
  replace hmul := Lib.hid hmul
  clear ha hb
  by_cases h : -9223372036854775808 ≤ z ∧ z ≤ 9223372036854775807
  · rw [inV_yes h]
    simp only [if_pos h, decide_eq_true h] at htoi
    replace htoi := Lib.hid htoi
    clear h
    by_cases h17 : op = 17
    · subst h17
      replace hadd := Lib.hid (hadd.out rfl)
      clear hsub hmul
      go_enter Tryz.func64, Tryz.ntmps64
      go_wp2_with fail
      refine (hx.out _).mono ?_
      rintro e w1 ⟨rfl, hb⟩
      have hq' := Lib.hid (hq.out.keep (Keep.ofBelow hb) (by simp))
      have hbl' := Lib.hid (hbl.out.trans (hb.mono hbl.out.size))
      clear hq hbl hb
      have hq := hq'
      have hbl := hbl'
      clear hq' hbl'
      go_wp2_with fail
      refine (hy.out _).mono ?_
      rintro e w2 ⟨rfl, hb⟩
      have hq' := Lib.hid (hq.out.keep (Keep.ofBelow hb) (by simp))
      have hbl' := Lib.hid (hbl.out.trans (hb.mono hbl.out.size))
      clear hq hbl hb
      have hq := hq'
      have hbl := hbl'
      clear hq' hbl'
      go_wp2_with fail
      refine (hadd.out _).mono ?_
      rintro e w3 ⟨rfl, hb⟩
      have hq' := Lib.hid (hq.out.keep (Keep.ofBelow hb) (by simp))
      have hbl' := Lib.hid (hbl.out.trans (hb.mono hbl.out.size))
      clear hq hbl hb
      have hq := hq'
      have hbl := hbl'
      clear hq' hbl'
      clear hx hy
      go_wp2_with fail
      refine (htoi.out _).mono ?_
      rintro e w4 ⟨rfl, hb⟩
      have hq' := Lib.hid (hq.out.keep (Keep.ofBelow hb) (by simp))
      have hbl' := Lib.hid (hbl.out.trans (hb.mono hbl.out.size))
      clear hq hbl hb
      have hq := hq'
      have hbl := hbl'
      clear hq' hbl'
      clear htoi
      have x0 := hq.out.cell 0 rfl
      have x1 := hq.out.cell 1 rfl
      have x2 := hq.out.cell 2 rfl
      have x3 := hq.out.cell 3 rfl
      have x4 := hq.out.cell 4 rfl
      have x5 := hq.out.cell 5 rfl
      have f0 := hq.out.free
      go_wp2
      have hf := Blk.set6 hq.out (.int .i64 2) (.bool false) (.int .i64 z) (.string ByteArray.empty) (.string ByteArray.empty) (.slice none 0 0)
      exact bodyPost_ret (v := tupR (.mk 2 false z ByteArray.empty ByteArray.empty [], 0)) (res2 rfl _ _ w.heap.size 26 _ (0, 0) _ _ rfl rfl hf.eq Tryz.underlying26 rfl infoV6) rfl ⟨rfl, Below.set6 hbl.out (Nat.le_refl _) _ _ _ _ _ _⟩
    by_cases h18 : op = 18
    · subst h18
      replace hsub := Lib.hid (hsub.out rfl)
      clear hadd hmul
      go_enter Tryz.func64, Tryz.ntmps64
      go_wp2_with fail
      refine (hx.out _).mono ?_
      rintro e w1 ⟨rfl, hb⟩
      have hq' := Lib.hid (hq.out.keep (Keep.ofBelow hb) (by simp))
      have hbl' := Lib.hid (hbl.out.trans (hb.mono hbl.out.size))
      clear hq hbl hb
      have hq := hq'
      have hbl := hbl'
      clear hq' hbl'
      go_wp2_with fail
      refine (hy.out _).mono ?_
      rintro e w2 ⟨rfl, hb⟩
      have hq' := Lib.hid (hq.out.keep (Keep.ofBelow hb) (by simp))
      have hbl' := Lib.hid (hbl.out.trans (hb.mono hbl.out.size))
      clear hq hbl hb
      have hq := hq'
      have hbl := hbl'
      clear hq' hbl'
      go_wp2_with fail
      refine (hsub.out _).mono ?_
      rintro e w3 ⟨rfl, hb⟩
      have hq' := Lib.hid (hq.out.keep (Keep.ofBelow hb) (by simp))
      have hbl' := Lib.hid (hbl.out.trans (hb.mono hbl.out.size))
      clear hq hbl hb
      have hq := hq'
      have hbl := hbl'
      clear hq' hbl'
      clear hx hy
      go_wp2_with fail
      refine (htoi.out _).mono ?_
      rintro e w4 ⟨rfl, hb⟩
      have hq' := Lib.hid (hq.out.keep (Keep.ofBelow hb) (by simp))
      have hbl' := Lib.hid (hbl.out.trans (hb.mono hbl.out.size))
      clear hq hbl hb
      have hq := hq'
      have hbl := hbl'
      clear hq' hbl'
      clear htoi
      have x0 := hq.out.cell 0 rfl
      have x1 := hq.out.cell 1 rfl
      have x2 := hq.out.cell 2 rfl
      have x3 := hq.out.cell 3 rfl
      have x4 := hq.out.cell 4 rfl
      have x5 := hq.out.cell 5 rfl
      have f0 := hq.out.free
      go_wp2
      have hf := Blk.set6 hq.out (.int .i64 2) (.bool false) (.int .i64 z) (.string ByteArray.empty) (.string ByteArray.empty) (.slice none 0 0)
      exact bodyPost_ret (v := tupR (.mk 2 false z ByteArray.empty ByteArray.empty [], 0)) (res2 rfl _ _ w.heap.size 26 _ (0, 0) _ _ rfl rfl hf.eq Tryz.underlying26 rfl infoV6) rfl ⟨rfl, Below.set6 hbl.out (Nat.le_refl _) _ _ _ _ _ _⟩
    have hm2 := Lib.hid (hmul.out h17 h18)
    have q17 : (op == 17) = false := beq_eq_false_iff_ne.2 h17
    have q18 : (op == 18) = false := beq_eq_false_iff_ne.2 h18
    clear hadd hsub hmul h17 h18
    go_enter Tryz.func64, Tryz.ntmps64
    go_wp2_with fail
    refine (hx.out _).mono ?_
    rintro e w1 ⟨rfl, hb⟩
    have hq' := Lib.hid (hq.out.keep (Keep.ofBelow hb) (by simp))
    have hbl' := Lib.hid (hbl.out.trans (hb.mono hbl.out.size))
    clear hq hbl hb
    have hq := hq'
    have hbl := hbl'
    clear hq' hbl'
    go_wp2_with fail
    refine (hy.out _).mono ?_
    rintro e w2 ⟨rfl, hb⟩
    have hq' := Lib.hid (hq.out.keep (Keep.ofBelow hb) (by simp))
    have hbl' := Lib.hid (hbl.out.trans (hb.mono hbl.out.size))
    clear hq hbl hb
    have hq := hq'
    have hbl := hbl'
    clear hq' hbl'
    go_wp2_with fail
    refine (hm2.out _).mono ?_
    rintro e w3 ⟨rfl, hb⟩
    have hq' := Lib.hid (hq.out.keep (Keep.ofBelow hb) (by simp))
    have hbl' := Lib.hid (hbl.out.trans (hb.mono hbl.out.size))
    clear hq hbl hb
    have hq := hq'
    have hbl := hbl'
    clear hq' hbl'
    clear hx hy
    go_wp2_with fail
    refine (htoi.out _).mono ?_
    rintro e w4 ⟨rfl, hb⟩
    have hq' := Lib.hid (hq.out.keep (Keep.ofBelow hb) (by simp))
    have hbl' := Lib.hid (hbl.out.trans (hb.mono hbl.out.size))
    clear hq hbl hb
    have hq := hq'
    have hbl := hbl'
    clear hq' hbl'
    clear htoi
    have x0 := hq.out.cell 0 rfl
    have x1 := hq.out.cell 1 rfl
    have x2 := hq.out.cell 2 rfl
    have x3 := hq.out.cell 3 rfl
    have x4 := hq.out.cell 4 rfl
    have x5 := hq.out.cell 5 rfl
    have f0 := hq.out.free
    go_wp2
    have hf := Blk.set6 hq.out (.int .i64 2) (.bool false) (.int .i64 z) (.string ByteArray.empty) (.string ByteArray.empty) (.slice none 0 0)
    exact bodyPost_ret (v := tupR (.mk 2 false z ByteArray.empty ByteArray.empty [], 0)) (res2 rfl _ _ w.heap.size 26 _ (0, 0) _ _ rfl rfl hf.eq Tryz.underlying26 rfl infoV6) rfl ⟨rfl, Below.set6 hbl.out (Nat.le_refl _) _ _ _ _ _ _⟩
  · rw [inV_no h]
    simp only [if_neg h, decide_eq_false h] at htoi
    replace htoi := Lib.hid htoi
    clear h
    by_cases h17 : op = 17
    · subst h17
      replace hadd := Lib.hid (hadd.out rfl)
      clear hsub hmul
      go_enter Tryz.func64, Tryz.ntmps64
      go_wp2_with fail
      refine (hx.out _).mono ?_
      rintro e w1 ⟨rfl, hb⟩
      have hq' := Lib.hid (hq.out.keep (Keep.ofBelow hb) (by simp))
      have hbl' := Lib.hid (hbl.out.trans (hb.mono hbl.out.size))
      clear hq hbl hb
      have hq := hq'
      have hbl := hbl'
      clear hq' hbl'
      go_wp2_with fail
      refine (hy.out _).mono ?_
      rintro e w2 ⟨rfl, hb⟩
      have hq' := Lib.hid (hq.out.keep (Keep.ofBelow hb) (by simp))
      have hbl' := Lib.hid (hbl.out.trans (hb.mono hbl.out.size))
      clear hq hbl hb
      have hq := hq'
      have hbl := hbl'
      clear hq' hbl'
      go_wp2_with fail
      refine (hadd.out _).mono ?_
      rintro e w3 ⟨rfl, hb⟩
      have hq' := Lib.hid (hq.out.keep (Keep.ofBelow hb) (by simp))
      have hbl' := Lib.hid (hbl.out.trans (hb.mono hbl.out.size))
      clear hq hbl hb
      have hq := hq'
      have hbl := hbl'
      clear hq' hbl'
      clear hx hy
      go_wp2_with fail
      refine (htoi.out _).mono ?_
      rintro e w4 ⟨rfl, hb⟩
      have hq' := Lib.hid (hq.out.keep (Keep.ofBelow hb) (by simp))
      have hbl' := Lib.hid (hbl.out.trans (hb.mono hbl.out.size))
      clear hq hbl hb
      have hq := hq'
      have hbl := hbl'
      clear hq' hbl'
      clear htoi
      have x0 := hq.out.cell 0 rfl
      have x1 := hq.out.cell 1 rfl
      have x2 := hq.out.cell 2 rfl
      have x3 := hq.out.cell 3 rfl
      have x4 := hq.out.cell 4 rfl
      have x5 := hq.out.cell 5 rfl
      have f0 := hq.out.free
      go_wp2
      have hf := Blk.set6 hq.out (.int .i64 0) (.bool false) (.int .i64 0) (.string ByteArray.empty) (.string ByteArray.empty) (.slice none 0 0)
      exact bodyPost_ret (v := tupR (zV, 2)) (res2 rfl _ _ w.heap.size 26 _ (0, 0) _ _ rfl rfl hf.eq Tryz.underlying26 rfl infoV6) rfl ⟨rfl, Below.set6 hbl.out (Nat.le_refl _) _ _ _ _ _ _⟩
    by_cases h18 : op = 18
    · subst h18
      replace hsub := Lib.hid (hsub.out rfl)
      clear hadd hmul
      go_enter Tryz.func64, Tryz.ntmps64
      go_wp2_with fail
      refine (hx.out _).mono ?_
      rintro e w1 ⟨rfl, hb⟩
      have hq' := Lib.hid (hq.out.keep (Keep.ofBelow hb) (by simp))
      have hbl' := Lib.hid (hbl.out.trans (hb.mono hbl.out.size))
      clear hq hbl hb
      have hq := hq'
      have hbl := hbl'
      clear hq' hbl'
      go_wp2_with fail
      refine (hy.out _).mono ?_
      rintro e w2 ⟨rfl, hb⟩
      have hq' := Lib.hid (hq.out.keep (Keep.ofBelow hb) (by simp))
      have hbl' := Lib.hid (hbl.out.trans (hb.mono hbl.out.size))
      clear hq hbl hb
      have hq := hq'
      have hbl := hbl'
      clear hq' hbl'
      go_wp2_with fail
      refine (hsub.out _).mono ?_
      rintro e w3 ⟨rfl, hb⟩
      have hq' := Lib.hid (hq.out.keep (Keep.ofBelow hb) (by simp))
      have hbl' := Lib.hid (hbl.out.trans (hb.mono hbl.out.size))
      clear hq hbl hb
      have hq := hq'
      have hbl := hbl'
      clear hq' hbl'
      clear hx hy
      go_wp2_with fail
      refine (htoi.out _).mono ?_
      rintro e w4 ⟨rfl, hb⟩
      have hq' := Lib.hid (hq.out.keep (Keep.ofBelow hb) (by simp))
      have hbl' := Lib.hid (hbl.out.trans (hb.mono hbl.out.size))
      clear hq hbl hb
      have hq := hq'
      have hbl := hbl'
      clear hq' hbl'
      clear htoi
      have x0 := hq.out.cell 0 rfl
      have x1 := hq.out.cell 1 rfl
      have x2 := hq.out.cell 2 rfl
      have x3 := hq.out.cell 3 rfl
      have x4 := hq.out.cell 4 rfl
      have x5 := hq.out.cell 5 rfl
      have f0 := hq.out.free
      go_wp2
      have hf := Blk.set6 hq.out (.int .i64 0) (.bool false) (.int .i64 0) (.string ByteArray.empty) (.string ByteArray.empty) (.slice none 0 0)
      exact bodyPost_ret (v := tupR (zV, 2)) (res2 rfl _ _ w.heap.size 26 _ (0, 0) _ _ rfl rfl hf.eq Tryz.underlying26 rfl infoV6) rfl ⟨rfl, Below.set6 hbl.out (Nat.le_refl _) _ _ _ _ _ _⟩
    have hm2 := Lib.hid (hmul.out h17 h18)
    have q17 : (op == 17) = false := beq_eq_false_iff_ne.2 h17
    have q18 : (op == 18) = false := beq_eq_false_iff_ne.2 h18
    clear hadd hsub hmul h17 h18
    go_enter Tryz.func64, Tryz.ntmps64
    go_wp2_with fail
    refine (hx.out _).mono ?_
    rintro e w1 ⟨rfl, hb⟩
    have hq' := Lib.hid (hq.out.keep (Keep.ofBelow hb) (by simp))
    have hbl' := Lib.hid (hbl.out.trans (hb.mono hbl.out.size))
    clear hq hbl hb
    have hq := hq'
    have hbl := hbl'
    clear hq' hbl'
    go_wp2_with fail
    refine (hy.out _).mono ?_
    rintro e w2 ⟨rfl, hb⟩
    have hq' := Lib.hid (hq.out.keep (Keep.ofBelow hb) (by simp))
    have hbl' := Lib.hid (hbl.out.trans (hb.mono hbl.out.size))
    clear hq hbl hb
    have hq := hq'
    have hbl := hbl'
    clear hq' hbl'
    go_wp2_with fail
    refine (hm2.out _).mono ?_
    rintro e w3 ⟨rfl, hb⟩
    have hq' := Lib.hid (hq.out.keep (Keep.ofBelow hb) (by simp))
    have hbl' := Lib.hid (hbl.out.trans (hb.mono hbl.out.size))
    clear hq hbl hb
    have hq := hq'
    have hbl := hbl'
    clear hq' hbl'
    clear hx hy
    go_wp2_with fail
    refine (htoi.out _).mono ?_
    rintro e w4 ⟨rfl, hb⟩
    have hq' := Lib.hid (hq.out.keep (Keep.ofBelow hb) (by simp))
    have hbl' := Lib.hid (hbl.out.trans (hb.mono hbl.out.size))
    clear hq hbl hb
    have hq := hq'
    have hbl := hbl'
    clear hq' hbl'
    clear htoi
    have x0 := hq.out.cell 0 rfl
    have x1 := hq.out.cell 1 rfl
    have x2 := hq.out.cell 2 rfl
    have x3 := hq.out.cell 3 rfl
    have x4 := hq.out.cell 4 rfl
    have x5 := hq.out.cell 5 rfl
    have f0 := hq.out.free
    go_wp2
    have hf := Blk.set6 hq.out (.int .i64 0) (.bool false) (.int .i64 0) (.string ByteArray.empty) (.string ByteArray.empty) (.slice none 0 0)
    exact bodyPost_ret (v := tupR (zV, 2)) (res2 rfl _ _ w.heap.size 26 _ (0, 0) _ _ rfl rfl hf.eq Tryz.underlying26 rfl infoV6) rfl ⟨rfl, Below.set6 hbl.out (Nat.le_refl _) _ _ _ _ _ _⟩
set_option maxRecDepth 100000 in
set_option maxHeartbeats 8000000 in
theorem twoInts_call (lang op a b : Int) (w : World) (ha : In64 a) (hb : In64 b) (hop1 : 17 ≤ op) (hop2 : op ≤ 21) : Calls Tryz.prog 33 #[.int .i64 lang, .int .i64 op, .int .i64 a, .int .i64 b] w fun e w' => e = .returned (tupR (intsV (decide (lang = 1)) op a b)) ∧ Below w.heap.size w w' := by
  have hbl : Hid (Below w.heap.size w (w.alloc (.cells #[.int .i64 0, .bool false, .int .i64 0, .string ByteArray.empty, .string ByteArray.empty, .slice none 0 0] 26))) := Lib.hid ((Below.refl _ _).alloc (Nat.le_refl _) _)
  have hq := Lib.hid (Blk.new w #[.int .i64 0, .bool false, .int .i64 0, .string ByteArray.empty, .string ByteArray.empty, .slice none 0 0] 26)
  have hbl2 : Hid (∀ cs : Array Value, Below w.heap.size w (w.alloc (.cells cs 26))) := Lib.hid fun cs => (Below.refl _ _).alloc (Nat.le_refl _) _
  have hri := fun op w => rints_call op a b w ha hb
  have hr0 := fun w => rints_call 18 0 a w (by unfold In64; omega) ha
  have hkd := intsV_kids (decide (lang = 1)) op a b
  obtain ⟨R, hR⟩ : ∃ R, intsV (decide (lang = 1)) op a b = R := ⟨_, rfl⟩
  rw [hR] at hkd ⊢
  unfold intsV at hR
  by_cases h3 : ¬ op = 20 ∧ ¬ op = 21
  · have hR2 : inV (opI op a b) = R := by
      rw [← hR]
      unfold opI
      by_cases h17 : op = 17
      · rw [if_pos h17, if_pos h17]
      by_cases h18 : op = 18
      · rw [if_neg h17, if_pos h18, if_neg h17, if_pos h18]
      rw [if_neg h17, if_neg h18, if_neg h17, if_neg h18, if_pos (by omega)]
    have h := hri op
    rw [hR2] at h
    obtain ⟨⟨kr, br, nr, tr, xr, lr⟩, er⟩ := R
    obtain rfl : lr = [] := hkd
    unfold tupR val6 agg6 at h
    replace h := Lib.hid h
    have q20 : (op != 20) = true := bne_iff_ne.2 h3.1
    have q21 : (op != 21) = true := bne_iff_ne.2 h3.2
    clear hri hr0 hR hR2 h3 ha hb
    go_enter Tryz.func33, Tryz.ntmps33
    go_wp2_with fail
    refine (h.out _).mono ?_
    rintro e w1 ⟨rfl, hb⟩
    have hq' := Lib.hid (hq.out.keep (Keep.ofBelow hb) (by simp))
    have hbl' := Lib.hid (hbl.out.trans (hb.mono hbl.out.size))
    clear hq hbl hb
    have hq := hq'
    have hbl := hbl'
    clear hq' hbl'
    have x0 := hq.out.cell 0 rfl
    have x1 := hq.out.cell 1 rfl
    have x2 := hq.out.cell 2 rfl
    have x3 := hq.out.cell 3 rfl
    have x4 := hq.out.cell 4 rfl
    have x5 := hq.out.cell 5 rfl
    have f0 := hq.out.free
    go_wp2
    have hf := Blk.set6 hq.out (.int .i64 kr) (.bool br) (.int .i64 nr) (.string tr) (.string xr) (.slice none 0 0)
    exact bodyPost_ret (v := tupR (.mk kr br nr tr xr [], er)) (res2 rfl _ _ w.heap.size 26 _ (0, 0) _ _ rfl rfl hf.eq Tryz.underlying26 rfl infoV6) rfl ⟨rfl, Below.set6 hbl.out (Nat.le_refl _) _ _ _ _ _ _⟩
  have h17 : ¬ op = 17 := by omega
  have h18 : ¬ op = 18 := by omega
  have h19 : ¬ op = 19 := by omega
  rw [if_neg h17, if_neg h18, if_neg h19] at hR
  clear hri
  clear h17 h18 h19
  have h20 : op = 20 ∨ op = 21 := by omega
  clear h3 hop1 hop2
  by_cases h0 : b = 0
  · subst h0
    rw [if_pos rfl] at hR
    subst hR
    clear hr0 ha hb hkd
    rcases h20 with rfl | rfl
    · go_enter Tryz.func33, Tryz.ntmps33
      go_wp2
      exact bodyPost_ret (v := tupR (zV, 3)) (res2 rfl _ _ w.heap.size 26 _ (0, 0) _ _ rfl rfl hq.out.eq Tryz.underlying26 rfl infoV6) rfl ⟨rfl, hbl.out⟩
    · go_enter Tryz.func33, Tryz.ntmps33
      go_wp2
      exact bodyPost_ret (v := tupR (zV, 3)) (res2 rfl _ _ w.heap.size 26 _ (0, 0) _ _ rfl rfl hq.out.eq Tryz.underlying26 rfl infoV6) rfl ⟨rfl, hbl.out⟩
  have q0 : (b == 0) = false := beq_eq_false_iff_ne.2 h0
  rw [if_neg h0] at hR
  rcases h20 with rfl | rfl
  · rw [if_neg (by decide)] at hR
    by_cases hl : lang = 1
    · subst hl
      rw [if_pos (by simp)] at hR
      have hx := fun w => rofInt_any a w ha.1 ha.2
      have hy := fun w => rofInt_any b w hb.1 hb.2
      have hdv := fun w => refdiv_call (tx (canon (a * E20))) (tx (canon (b * E20))) w (canon_size a ha) (canon_size b hb)
      simp only [tx_list] at hdv
      have hwh := fun w => rwhole_call (divT (canon (a * E20)) (canon (b * E20))) w
      rw [wholeR_V, hR] at hwh
      generalize divT (canon (a * E20)) (canon (b * E20)) = D at *
      generalize tx (canon (a * E20)) = X at *
      generalize tx (canon (b * E20)) = Y at *
      unfold rv at hdv
      generalize tx D.1 = D1 at *
      obtain ⟨D0, D2⟩ := D
      dsimp only at hdv hwh
      obtain ⟨⟨kr, br, nr, tr, xr, lr⟩, er⟩ := R
      obtain rfl : lr = [] := hkd
      unfold tupR val6 agg6 at hwh
      replace hx := Lib.hid hx
      replace hy := Lib.hid hy
      replace hdv := Lib.hid hdv
      replace hwh := Lib.hid hwh
      clear hr0 ha hb hR h0
      go_enter Tryz.func33, Tryz.ntmps33
      go_wp2_with fail
      refine (hx.out _).mono ?_
      rintro e w1 ⟨rfl, hb⟩
      have hq' := Lib.hid (hq.out.keep (Keep.ofBelow hb) (by simp))
      have hbl' := Lib.hid (hbl.out.trans (hb.mono hbl.out.size))
      clear hq hbl hb
      have hq := hq'
      have hbl := hbl'
      clear hq' hbl'
      go_wp2_with fail
      refine (hy.out _).mono ?_
      rintro e w2 ⟨rfl, hb⟩
      have hq' := Lib.hid (hq.out.keep (Keep.ofBelow hb) (by simp))
      have hbl' := Lib.hid (hbl.out.trans (hb.mono hbl.out.size))
      clear hq hbl hb
      have hq := hq'
      have hbl := hbl'
      clear hq' hbl'
      go_wp2_with fail
      refine (hdv.out _).mono ?_
      rintro e w3 ⟨rfl, hb⟩
      have hq' := Lib.hid (hq.out.keep (Keep.ofBelow hb) (by simp))
      have hbl' := Lib.hid (hbl.out.trans (hb.mono hbl.out.size))
      clear hq hbl hb
      have hq := hq'
      have hbl := hbl'
      clear hq' hbl'
      go_wp2_with fail
      refine (hwh.out _).mono ?_
      rintro e w4 ⟨rfl, hb⟩
      have hq' := Lib.hid (hq.out.keep (Keep.ofBelow hb) (by simp))
      have hbl' := Lib.hid (hbl.out.trans (hb.mono hbl.out.size))
      clear hq hbl hb
      have hq := hq'
      have hbl := hbl'
      clear hq' hbl'
      have x0 := hq.out.cell 0 rfl
      have x1 := hq.out.cell 1 rfl
      have x2 := hq.out.cell 2 rfl
      have x3 := hq.out.cell 3 rfl
      have x4 := hq.out.cell 4 rfl
      have x5 := hq.out.cell 5 rfl
      have f0 := hq.out.free
      go_wp2
      have hf := Blk.set6 hq.out (.int .i64 kr) (.bool br) (.int .i64 nr) (.string tr) (.string xr) (.slice none 0 0)
      exact bodyPost_ret (v := tupR (.mk kr br nr tr xr [], er)) (res2 rfl _ _ w.heap.size 26 _ (0, 0) _ _ rfl rfl hf.eq Tryz.underlying26 rfl infoV6) rfl ⟨rfl, Below.set6 hbl.out (Nat.le_refl _) _ _ _ _ _ _⟩
    · rw [if_neg (by simpa using hl)] at hR
      have hlb : (lang == 1) = false := beq_eq_false_iff_ne.2 hl
      by_cases hm1 : b = -1
      · subst hm1
        have e5 : a.tdiv (-1) = 0 - a := by rw [Int.tdiv_neg, Int.tdiv_one]; omega
        rw [e5] at hR
        rw [show opI 18 0 a = 0 - a from rfl, hR] at hr0
        obtain ⟨⟨kr, br, nr, tr, xr, lr⟩, er⟩ := R
        obtain rfl : lr = [] := hkd
        unfold tupR val6 agg6 at hr0
        replace hr0 := Lib.hid hr0
        clear ha hb hR h0 e5 hl
        go_enter Tryz.func33, Tryz.ntmps33
        go_wp2_with fail
        refine (hr0.out _).mono ?_
        rintro e w1 ⟨rfl, hb⟩
        have hq' := Lib.hid (hq.out.keep (Keep.ofBelow hb) (by simp))
        have hbl' := Lib.hid (hbl.out.trans (hb.mono hbl.out.size))
        clear hq hbl hb
        have hq := hq'
        have hbl := hbl'
        clear hq' hbl'
        have x0 := hq.out.cell 0 rfl
        have x1 := hq.out.cell 1 rfl
        have x2 := hq.out.cell 2 rfl
        have x3 := hq.out.cell 3 rfl
        have x4 := hq.out.cell 4 rfl
        have x5 := hq.out.cell 5 rfl
        have f0 := hq.out.free
        go_wp2
        have hf := Blk.set6 hq.out (.int .i64 kr) (.bool br) (.int .i64 nr) (.string tr) (.string xr) (.slice none 0 0)
        exact bodyPost_ret (v := tupR (.mk kr br nr tr xr [], er)) (res2 rfl _ _ w.heap.size 26 _ (0, 0) _ _ rfl rfl hf.eq Tryz.underlying26 rfl infoV6) rfl ⟨rfl, Below.set6 hbl.out (Nat.le_refl _) _ _ _ _ _ _⟩
      · have qm : (b == -1) = false := beq_eq_false_iff_ne.2 hm1
        have h := tdiv_in a b ha h0 (fun e => hm1 e.1)
        rw [inV_yes h] at hR
        subst hR
        have e1 := IntWalk.i64_in _ h
        rw [IntWalk.i64_left] at e1
        clear hr0 ha hb hl hm1 h hkd
        go_enter Tryz.func33, Tryz.ntmps33
        go_wp2
        exact bodyPost_ret (v := tupR (.mk 2 false (a.tdiv b) ByteArray.empty ByteArray.empty [], 0)) (res2 rfl _ _ w.heap.size 26 _ (0, 0) _ _ rfl rfl (Blk.new w _ _).eq Tryz.underlying26 rfl infoV6) rfl ⟨rfl, hbl2.out _⟩
  · rw [if_pos rfl] at hR
    have h := tmod_in a b ha h0
    by_cases hm1 : b = -1
    · subst hm1
      have e5 : a.tmod (-1) = 0 := by rw [Int.tmod_neg]; exact Int.tmod_one a
      rw [e5, inV_yes (by decide)] at hR
      subst hR
      clear hr0 ha hb h0 hkd h e5
      go_enter Tryz.func33, Tryz.ntmps33
      go_wp2
      exact bodyPost_ret (v := tupR (.mk 2 false 0 ByteArray.empty ByteArray.empty [], 0)) (res2 rfl _ _ w.heap.size 26 _ (0, 0) _ _ rfl rfl (Blk.new w _ _).eq Tryz.underlying26 rfl infoV6) rfl ⟨rfl, hbl2.out _⟩
    · have qm : (b == -1) = false := beq_eq_false_iff_ne.2 hm1
      rw [inV_yes h] at hR
      subst hR
      clear hr0 ha hb hm1 h hkd
      go_enter Tryz.func33, Tryz.ntmps33
      go_wp2
      exact bodyPost_ret (v := tupR (.mk 2 false (a.tmod b) ByteArray.empty ByteArray.empty [], 0)) (res2 rfl _ _ w.heap.size 26 _ (0, 0) _ _ rfl rfl (Blk.new w _ _).eq Tryz.underlying26 rfl infoV6) rfl ⟨rfl, hbl2.out _⟩
end Go.Proofs.YtjncjcellpbhcaaGreatDoor.val
