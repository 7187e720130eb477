/- Plain: whole numbers as texts, as the reference reads and tells them. -/
import Derived.Test.YtnnojhgnfmieoaaGreatDoorDecInt
namespace Go.Proofs.YtnnojhgnfmieoaaGreatDoor.dec
set_option linter.unusedVariables false
/-- The greatest amount of a whole number of that sign. -/
def wmax (neg : Bool) : Nat := if neg then 9223372036854775808 else 9223372036854775807
/-- A decimal's parts, and what it says as a whole number. -/
theorem whole_parts (l : List UInt8) (h : chk l = true) : ∃ (neg : Bool) (W P : List UInt8), l = (if neg then [45] else []) ++ (W ++ 46 :: P) ∧ allD W = true ∧ 0 < W.length ∧ allD P = true ∧ 0 < P.length ∧ l.length ≤ 62 ∧
    (22 < W.length → 10 ^ 22 ≤ val W) ∧ toIR l = if P = [48] ∧ val W ≤ wmax neg then (signed neg (val W), true) else (0, false) := by
  obtain ⟨z, hz, rfl⟩ := (chk_iff _).1 h
  have hd := orZero_allD (digs_allD (z.natAbs / E20))
  have h0 : 0 < (orZero (digs (z.natAbs / E20))).length := by
    obtain ⟨c, r, hc, _⟩ := orZero_head (digs_allD (z.natAbs / E20))
    rw [hc]; simp
  have hp := orZero_allD (frac_allD 20 z.natAbs)
  have hp0 : 0 < (orZero (frac 20 z.natAbs)).length := by
    obtain ⟨c, r, hc, _⟩ := orZero_head (frac_allD 20 z.natAbs)
    rw [hc]; simp
  have hv : val (orZero (digs (z.natAbs / E20))) = z.natAbs / E20 := by rw [orZero_val, digs_val]
  have hcl := canon_len z hz
  have hl22 : 22 < (orZero (digs (z.natAbs / E20))).length → 10 ^ 22 ≤ z.natAbs / E20 := by
    intro h1
    apply Classical.byContradiction
    intro h2
    have := (digs_lt (z.natAbs / E20) 22).2 (by omega)
    unfold orZero at h1
    split at h1
    · simp at h1
    · omega
  have hE := E20_pos
  have hq : z.natAbs % E20 = 0 → z = signed (decide (z < 0)) (z.natAbs / E20) * E20 := by
    intro hm
    have h1 := signed_self z
    have h2 : z.natAbs = z.natAbs / E20 * E20 := by have := Nat.div_add_mod z.natAbs E20; rw [hm, Nat.mul_comm] at this; omega
    conv => lhs; rw [← h1, h2]
    unfold signed
    cases decide (z < 0) <;> simp [Int.neg_mul]
  have hzq : z.natAbs % E20 = 0 → z / E20 = signed (decide (z < 0)) (z.natAbs / E20) := by
    intro hm
    conv => lhs; rw [hq hm]
    exact Int.mul_ediv_cancel _ (by omega)
  have hsh := canon_shape z
  rw [show (10 ^ 20 : Nat) = E20 from rfl] at hsh
  have hf20 : orZero (frac 20 z.natAbs) = [48] → z.natAbs % E20 = 0 := fun h => frac_one 20 z.natAbs h
  have hf21 : z.natAbs % E20 = 0 → orZero (frac 20 z.natAbs) = [48] := fun h => by
    have : frac 20 z.natAbs = [] := frac_nil.2 h
    rw [this]; rfl
  have htr : toIR (canon z) = toI z := by unfold toIR; rw [h, if_pos rfl, zof_canon z hz]
  refine ⟨decide (z < 0), orZero (digs (z.natAbs / E20)), orZero (frac 20 z.natAbs), hsh, hd, h0, hp, hp0, hcl, fun h1 => by rw [hv]; exact hl22 h1, ?_⟩
  rw [htr, hv]
  clear hsh hp hp0 hl22 hd h0 hv htr hcl hq h hz
  unfold toI
  generalize z.natAbs / E20 = q at *
  by_cases hm : z.natAbs % E20 = 0
  · have hzz := hzq hm
    rw [hf21 hm]
    rw [hzz]
    by_cases hn : z < 0
    · rw [decide_eq_true hn]
      show (if _ ∧ _ ∧ _ then (_, true) else _) = _
      have e1 : signed true q = -(q : Int) := rfl
      have e2 : wmax true = 9223372036854775808 := rfl
      rw [e1, e2]
      by_cases hb : q ≤ 9223372036854775808
      · rw [if_pos ⟨hm, by omega, by omega⟩, if_pos ⟨rfl, hb⟩]
      · rw [if_neg (fun e => hb (by omega)), if_neg (fun e => hb e.2)]
    · rw [decide_eq_false hn]
      have e1 : signed false q = (q : Int) := rfl
      have e2 : wmax false = 9223372036854775807 := rfl
      rw [e1, e2]
      by_cases hb : q ≤ 9223372036854775807
      · rw [if_pos ⟨hm, by omega, by omega⟩, if_pos ⟨rfl, hb⟩]
      · rw [if_neg (fun e => hb (by omega)), if_neg (fun e => hb e.2)]
  · rw [if_neg (fun e => hm e.1), if_neg (fun e => hm (hf20 e.1))]
/-- What a first part says is no more than what the whole says. -/
theorem val_take_le (W : List UInt8) (k : Nat) : val (W.take k) ≤ val W := by
  have h := val_append (W.take k) (W.drop k)
  rw [List.take_append_drop] at h
  have : val (W.take k) ≤ val (W.take k) * 10 ^ (W.drop k).length := Nat.le_mul_of_pos_right _ (Nat.pow_pos (by decide))
  omega
/-- The reference's test for a number that is too small. -/
theorem low_test (v k : Nat) (hv : v ≤ 9223372036854775808) (hk : k < 10) : (-(v : Int) < Int.tdiv (-9223372036854775808 + (k : Int)) 10) ↔ ¬ (v * 10 + k ≤ 9223372036854775808) := by
  have h1 : Int.tdiv (-9223372036854775808 + (k : Int)) 10 = -((9223372036854775808 - k : Nat) / 10 : Nat) := by
    rw [show (-9223372036854775808 + (k : Int)) = -((9223372036854775808 - k : Nat) : Int) by omega, Int.neg_tdiv]
    rfl
  rw [h1]
  omega
theorem dd0 (d : Nat) (h : d < 10) : Lib.decDigits d = [dg d] := by rw [Lib.decDigits, dif_pos h]; rfl
/-- One round of telling: the last digit is put ahead. -/
theorem tell_step (M : Nat) (s t : List UInt8) (h : Lib.decDigits M ++ s = t) : (M < 10 → dg (M % 10) :: s = t) ∧ (10 ≤ M → Lib.decDigits (M / 10) ++ (dg (M % 10) :: s) = t) := by
  constructor
  · intro hm
    rw [← h, dd0 M hm, Nat.mod_eq_of_lt hm]; rfl
  · intro hm
    rw [← h, Lib.decDigits.eq_1 M, dif_neg (by omega)]
    simp [dg]
end Go.Proofs.YtnnojhgnfmieoaaGreatDoor.dec
