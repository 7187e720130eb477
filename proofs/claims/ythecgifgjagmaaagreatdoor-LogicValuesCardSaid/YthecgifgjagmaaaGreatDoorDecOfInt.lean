/- Contract of decimal.OfInt. -/
import Derived.Test.YthecgifgjagmaaaGreatDoorDecAdd
import Derived.ShutString
namespace Go.Proofs.YthecgifgjagmaaaGreatDoor.dec
open Go.ChangeShapes Go.WideShapes Go.ChangeAt Go.RowKit kit
set_option linter.unusedVariables false
set_option linter.unusedSimpArgs false
/-- A whole number's decimal. -/
theorem itoa_canon (n : Int) : Lib.itoa n ++ [46, 48] = canon (n * E20) := by
  have hd : ∀ k : Nat, Lib.decDigits k = orZero (digs k) := by
    intro k
    unfold orZero
    by_cases h : k = 0
    · subst h; rw [if_pos (by rfl), Lib.decDigits]; rfl
    · rw [if_neg (fun e => h (digs_nil.1 e))]; unfold digs; rw [if_neg h]
  have hp := E20_pos
  have ha : (n * E20).natAbs = n.natAbs * E20 := by rw [Int.natAbs_mul]; simp
  have h1 : (n * E20).natAbs / 10 ^ 20 = n.natAbs := by rw [ha]; exact Nat.mul_div_cancel _ hp
  have h2 : frac 20 (n * E20).natAbs = [] := by
    rw [frac_nil, ha]; exact Nat.mul_mod_left _ _
  have h3 : decide (n * E20 < 0) = decide (n < 0) := by
    rw [decide_eq_decide]
    have hE : (0 : Int) < (E20 : Int) := by omega
    constructor
    · intro h
      apply Classical.byContradiction
      intro hc
      have := Int.mul_nonneg (show 0 ≤ n by omega) (Int.le_of_lt hE)
      omega
    · intro h; exact Int.mul_neg_of_neg_of_pos h hE
  rw [canon_shape, h1, h2, h3, ← hd]
  unfold Lib.itoa
  by_cases hn : n < 0
  · rw [decide_eq_true hn]; simp [hn, orZero]
  · rw [decide_eq_false hn]; simp [hn, orZero]
    try rw [show n.toNat = n.natAbs by omega]
theorem ofInt_small (n : Int) (h0 : -9223372036854775808 ≤ n) (h1 : n ≤ 9223372036854775807) : small (n * E20) := by
  unfold small
  have ha : (n * E20).natAbs = n.natAbs * E20 := by rw [Int.natAbs_mul]; simp
  have h2 : n.natAbs ≤ 9223372036854775808 := by omega
  have h3 : 9223372036854775808 * E20 < top := by unfold E20 top; decide
  rw [ha]
  exact Nat.lt_of_le_of_lt (Nat.mul_le_mul_right _ h2) h3
set_option maxHeartbeats 2000000 in
set_option maxRecDepth 100000 in
theorem ofInt_call (n : Int) (w : World) (hE : Env w) (h0 : -9223372036854775808 ≤ n) (h1 : n ≤ 9223372036854775807) :
    Calls Tryz.prog 112 #[.int .i64 n] w fun e w' => e = .returned (.string (tx (canon (n * E20)))) ∧ Below w.heap.size w w' := by
  have hf := Tryz.strconv_FormatInt_10 n h0 h1 w hE.pow
  have hc := itoa_canon n
  have hlen : (Lib.itoa n).length ≤ 62 := by
    have h2 := canon_len (n * E20) (ofInt_small n h0 h1)
    rw [← hc, List.length_append] at h2
    omega
  have hsz : ((⟨(Lib.itoa n).toArray⟩ : ByteArray).size : Int) + ((⟨#[46, 48]⟩ : ByteArray).size : Int) ≤ 9223372036854775807 := by
    have a1 : (⟨(Lib.itoa n).toArray⟩ : ByteArray).size = (Lib.itoa n).length := rfl
    have a2 : (⟨#[46, 48]⟩ : ByteArray).size = 2 := rfl
    rw [a1, a2]; omega
  obtain ⟨t, ht⟩ : ∃ t : ByteArray, (⟨(Lib.itoa n).toArray⟩ : ByteArray) = t := ⟨_, rfl⟩
  have htl : t ++ ⟨#[46, 48]⟩ = tx (canon (n * E20)) := by rw [← hc, ← ht]; apply ba_ext; simp
  rw [ht] at hf hsz
  clear hc ht hE
  replace hf := Lib.hid hf
  replace htl := Lib.hid htl
  go_enter Tryz.func112, Tryz.ntmps112
  go_wp2_with fail
  refine hf.out.mono ?_
  rintro e w1 ⟨rfl, k, os, rfl⟩
  go_wp2_with fail
  go_ret
  exact ⟨ret_val (by show Value.string _ = _; first | rfl | rw [htl.out]), below_grow0 _ _ _⟩
end Go.Proofs.YthecgifgjagmaaaGreatDoor.dec
