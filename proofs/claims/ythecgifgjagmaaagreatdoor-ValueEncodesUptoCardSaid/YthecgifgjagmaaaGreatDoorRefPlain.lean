/- Plain: the reference's Form tells the same decimal. -/
import Derived.Test.YthecgifgjagmaaaGreatDoorDecC
import Derived.Test.YthecgifgjagmaaaGreatDoorRefNum
import Derived.Test.YthecgifgjagmaaaGreatDoorDecA
namespace Go.Proofs.YthecgifgjagmaaaGreatDoor.dec
set_option linter.unusedVariables false
/-- All digits from h on are nought. -/
theorem vL_lt_of {D : List Nat} (hD : dgs D) (h : Nat) (hz : ∀ j, h ≤ j → D.getD j 0 = 0) : vL D < 10 ^ h := by
  have key : ∀ j, h ≤ j → vL D / 10 ^ j = 0 := by
    have hlen := vL_lt hD
    intro j
    by_cases hj : D.length ≤ j
    · intro _
      exact Nat.div_eq_of_lt (Nat.lt_of_lt_of_le hlen (Nat.pow_le_pow_right (by decide) hj))
    · obtain ⟨k, hk⟩ : ∃ k, D.length = j + k := ⟨D.length - j, by omega⟩
      clear hj
      induction k generalizing j with
      | zero => intro _; exact Nat.div_eq_of_lt (by rw [hk] at hlen; exact hlen)
      | succ k ih =>
        intro hj
        have h1 := ih (j + 1) (by omega) (by omega)
        have h2 := vL_get hD j
        rw [hz j hj] at h2
        rw [Nat.pow_succ, ← Nat.div_div_eq_div_mul] at h1
        omega
  have := key h (Nat.le_refl _)
  have hp : 0 < 10 ^ h := Nat.pow_pos (by decide)
  exact (Nat.div_eq_zero_iff_lt hp).1 this
theorem vL_ge_of {D : List Nat} (hD : dgs D) (h : Nat) (hz : D.getD h 0 ≠ 0) : 10 ^ h ≤ vL D := by
  apply Classical.byContradiction
  intro hc
  have h2 := vL_get hD h
  rw [Nat.div_eq_of_lt (by omega)] at h2
  omega
theorem vL_dvd_of {D : List Nat} (hD : dgs D) (l : Nat) (hz : ∀ j, j < l → D.getD j 0 = 0) : vL D % 10 ^ l = 0 := by
  induction l with
  | zero => simp [Nat.mod_one]
  | succ l ih =>
    have h1 := ih (fun j hj => hz j (by omega))
    have h2 := vL_get hD l
    rw [hz l (by omega)] at h2
    rw [Nat.pow_succ, Nat.mod_mul, h1, h2]; omega
/-- The whole part. -/
theorem whole_pad (q m : Nat) (hm : 1 ≤ m) (hq : q < 10 ^ m) (hg : m = 1 ∨ 10 ^ (m - 1) ≤ q) : pad m q = orZero (digs q) ∧ (m ≤ 40 ↔ (digs q).length ≤ 40) := by
  by_cases h0 : q = 0
  · subst h0
    have hm1 : m = 1 := by
      rcases hg with h | h
      · exact h
      · have : 0 < 10 ^ (m - 1) := Nat.pow_pos (by decide)
        omega
    subst hm1
    exact ⟨rfl, by simp [digs]⟩
  · have hlen : (digs q).length = m := by
      have h1 := (digs_lt q m).2 hq
      have h2 : ¬ (digs q).length ≤ m - 1 := by
        intro h
        have h3 := (digs_lt q (m - 1)).1 h
        rcases hg with h4 | h4
        · subst h4; simp at h3; omega
        · omega
      omega
    have ht : trimL (pad m q) = digs q := by rw [trimL_eq (pad_allD _ _), pad_val, Nat.mod_eq_of_lt hq]
    have hd : (trimL (pad m q)).length = (pad m q).length := by rw [ht, hlen, pad_length]
    have hsuf : trimL (pad m q) = pad m q := (List.dropWhile_suffix (p := fun x => x == 48) (l := pad m q)).eq_of_length hd
    refine ⟨?_, by rw [hlen]⟩
    rw [← hsuf, ht]
    unfold orZero
    rw [if_neg (fun e => h0 (digs_nil.1 e))]
/-- The part behind the point. -/
theorem part_pad (N sc low : Nat) (hl : low ≤ sc) (hz : N % 10 ^ low = 0) (hg : low = sc ∨ N / 10 ^ low % 10 ≠ 0) :
    orZero (frac sc N) = (if low = sc then [48] else pad (sc - low) (N / 10 ^ low)) ∧ (frac sc N).length = sc - low := by
  obtain ⟨k, rfl⟩ : ∃ k, sc = k + low := ⟨sc - low, by omega⟩
  have hN : N = N / 10 ^ low * 10 ^ low := by
    have := Nat.div_add_mod N (10 ^ low)
    rw [hz, Nat.mul_comm] at this; omega
  have hf : frac (k + low) N = frac k (N / 10 ^ low) := by
    conv => lhs; rw [hN]
    exact frac_more k low _
  rw [hf, Nat.add_sub_cancel]
  cases k with
  | zero => rw [Nat.zero_add, if_pos rfl, frac_zero]; exact ⟨rfl, rfl⟩
  | succ k =>
    have hne : N / 10 ^ low % 10 ≠ 0 := by rcases hg with h | h <;> omega
    rw [if_neg (by omega), frac_step, if_neg hne]
    refine ⟨?_, pad_length _ _⟩
    unfold orZero
    rw [if_neg (by intro e; have := congrArg List.length e; rw [pad_length] at this; simp at this)]
/-- What Form tells. -/
theorem form_told (neg : Bool) (N sc high low : Nat) (h1 : sc + 1 ≤ high) (h2 : N < 10 ^ high) (h3 : high = sc + 1 ∨ 10 ^ (high - 1) ≤ N) (h4 : low ≤ sc) (h5 : N % 10 ^ low = 0) (h6 : low = sc ∨ N / 10 ^ low % 10 ≠ 0) :
    toldP neg N sc = if 40 < high - sc ∨ 20 < sc - low then ([], 2) else
      ((if neg && decide (N ≠ 0) then [45] else []) ++ pad (high - sc) (N / 10 ^ sc) ++ [46] ++ (if low = sc then [48] else pad (sc - low) (N / 10 ^ low)), 0) := by
  have hp : 0 < 10 ^ sc := Nat.pow_pos (by decide)
  have hq : N / 10 ^ sc < 10 ^ (high - sc) := by
    rw [Nat.div_lt_iff_lt_mul hp, ← Nat.pow_add, show high - sc + sc = high by omega]; exact h2
  have hg : high - sc = 1 ∨ 10 ^ (high - sc - 1) ≤ N / 10 ^ sc := by
    rcases h3 with h | h
    · exact .inl (by omega)
    · right
      rw [Nat.le_div_iff_mul_le hp, ← Nat.pow_add, show high - sc - 1 + sc = high - 1 by omega]; exact h
  obtain ⟨w1, w2⟩ := whole_pad (N / 10 ^ sc) (high - sc) (by omega) hq hg
  obtain ⟨p1, p2⟩ := part_pad N sc low h4 h5 h6
  unfold toldP told
  rw [p2]
  by_cases hc : 40 < high - sc ∨ 20 < sc - low
  · rw [if_pos hc, if_pos (by omega)]
  · rw [if_neg hc, if_neg (by omega), w1, ← p1, fmt_eq]
    simp
end Go.Proofs.YthecgifgjagmaaaGreatDoor.dec
