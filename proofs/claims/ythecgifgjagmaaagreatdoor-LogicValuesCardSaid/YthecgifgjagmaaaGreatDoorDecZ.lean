/- Plain: sums, differences, products, quotients of decimals by integers. -/
import Derived.Test.YthecgifgjagmaaaGreatDoorDecNum
namespace Go.Proofs.YthecgifgjagmaaaGreatDoor.dec
set_option linter.unusedVariables false
/-- What the text of an amount is. -/
def txt (z : Int) : List UInt8 × Int := if z.natAbs < top then (canon z, 0) else ([], 2)
theorem toldP_20 (s : Bool) (N : Nat) : toldP s N 20 = txt (signed s N) := by
  unfold toldP txt
  rw [told20, signed_natAbs]
  split <;> rename_i h <;> split at h <;> simp_all
theorem txt_ok {z : Int} (h : small z) : txt z = (canon z, 0) := by unfold txt; rw [if_pos (show z.natAbs < top from h)]
theorem txt_no {z : Int} (h : ¬ small z) : txt z = ([], 2) := by unfold txt; rw [if_neg (show ¬ z.natAbs < top from h)]
theorem signed_mul (s t : Bool) (N M : Nat) : signed (s != t) (N * M) = signed s N * signed t M := by
  cases s <;> cases t <;> simp [signed, Int.neg_mul, Int.mul_neg]
def E20 : Nat := 10 ^ 20
theorem E20_pos : 0 < E20 := Nat.pow_pos (by decide)
theorem told_dvd (neg : Bool) (k i j : Nat) : toldP neg (k * 10 ^ j) (i + j) = toldP neg k i := by
  unfold toldP; rw [told_more]
theorem told_not (neg : Bool) (N j : Nat) (h : ¬ 10 ^ j ∣ N) : toldP neg N (20 + j) = ([], 2) := by
  have hn : told neg N (20 + j) = none := by
    unfold told
    rw [if_pos]
    refine Or.inr (Classical.byContradiction fun hl => h ?_)
    have hv := frac_val (20 + j) N
    generalize (frac (20 + j) N).length = n at *
    have h1 : 10 ^ j ∣ 10 ^ (20 + j - n) := Nat.pow_dvd_pow 10 (by omega)
    have h2 : 10 ^ j ∣ N % 10 ^ (20 + j) := by rw [← hv]; exact Nat.dvd_trans h1 (Nat.dvd_mul_left _ _)
    have h3 : 10 ^ j ∣ 10 ^ (20 + j) := Nat.pow_dvd_pow 10 (by omega)
    exact (Nat.dvd_mod_iff h3).1 h2
  unfold toldP; rw [hn]
theorem told40' (neg : Bool) (N j : Nat) : toldP neg N (20 + j) = if 10 ^ j ∣ N then txt (signed neg (N / 10 ^ j)) else ([], 2) := by
  have hp : 0 < 10 ^ j := Nat.pow_pos (by decide)
  by_cases h : 10 ^ j ∣ N
  · rw [if_pos h]
    obtain ⟨k, rfl⟩ := h
    rw [Nat.mul_div_cancel_left _ hp, Nat.mul_comm, told_dvd, toldP_20]
  · rw [if_neg h, told_not neg N j h]
theorem told40 (neg : Bool) (N : Nat) : toldP neg N 40 = if E20 ∣ N then txt (signed neg (N / E20)) else ([], 2) := told40' neg N 20
/-- A product. -/
def mulR (x y : Int) : List UInt8 × Int := toldP (decide (x < 0) != decide (y < 0)) (x.natAbs * y.natAbs) 40
theorem mulR_eq (x y : Int) : (∀ m : Int, x * y = m * E20 → mulR x y = txt m) ∧ ((¬ ∃ m : Int, x * y = m * E20) → mulR x y = ([], 2)) := by
  unfold mulR
  rw [told40]
  have hs := signed_mul (decide (x < 0)) (decide (y < 0)) x.natAbs y.natAbs
  rw [signed_self, signed_self] at hs
  have hp := E20_pos
  generalize E20 = E at *
  generalize (decide (x < 0) != decide (y < 0)) = s at *
  generalize x.natAbs * y.natAbs = N at *
  rw [← hs]
  have hE : (E : Int) ≠ 0 := by omega
  have key : ∀ k, signed s (E * k) = signed s k * E := by
    intro k; unfold signed; cases s <;> simp [Int.mul_comm (E : Int), Int.neg_mul]
  have back : ∀ m : Int, signed s N = m * E → E ∣ N := by
    intro m hm
    have := congrArg Int.natAbs hm
    rw [signed_natAbs, Int.natAbs_mul, Int.natAbs_natCast] at this
    exact ⟨m.natAbs, by rw [this, Nat.mul_comm]⟩
  constructor
  · intro m hm
    obtain ⟨k, rfl⟩ := back m hm
    rw [if_pos (Nat.dvd_mul_right _ _), Nat.mul_div_cancel_left _ hp]
    rw [key] at hm
    rw [Int.eq_of_mul_eq_mul_right hE hm]
  · intro hn
    rw [if_neg]
    rintro ⟨k, rfl⟩
    exact hn ⟨_, key k⟩
theorem mulR_comm (x y : Int) : mulR x y = mulR y x := by
  unfold mulR; rw [Nat.mul_comm]; congr 1; cases decide (x < 0) <;> cases decide (y < 0) <;> rfl
/-- A product that is no refusal. -/
theorem mulR_ok {x y : Int} (h : (mulR x y).2 = 0) : ∃ m : Int, x * y = m * E20 ∧ small m ∧ mulR x y = (canon m, 0) := by
  obtain ⟨h1, h2⟩ := mulR_eq x y
  by_cases hd : ∃ m : Int, x * y = m * E20
  · obtain ⟨m, hm⟩ := hd
    have e := h1 m hm
    rw [e] at h ⊢
    by_cases hz : small m
    · exact ⟨m, hm, hz, txt_ok hz⟩
    · rw [txt_no hz] at h; exact absurd h (by decide)
  · rw [h2 hd] at h; exact absurd h (by decide)
/-- A quotient: the amount cut behind twenty places. -/
def quo (x y : Int) : Int := signed (decide (x < 0) != decide (y < 0)) (x.natAbs * E20 / y.natAbs)
theorem quo_natAbs (x y : Int) : (quo x y).natAbs = x.natAbs * E20 / y.natAbs := signed_natAbs _ _
/-- What is multiplied and divided again. -/
theorem quo_mul (x y m : Int) (hy : y ≠ 0) (h : x * y = m * E20) : quo m y = x := by
  have hp := E20_pos
  unfold quo
  generalize E20 = E at *
  have ha := congrArg Int.natAbs h
  rw [Int.natAbs_mul, Int.natAbs_mul, Int.natAbs_natCast] at ha
  rw [← ha, Nat.mul_div_cancel _ (by omega)]
  by_cases hx : x = 0
  · subst hx; simp [signed]
  · have hE : (0 : Int) < E := by omega
    rcases Int.lt_or_gt_of_ne hx with h1 | h1 <;> rcases Int.lt_or_gt_of_ne hy with h2 | h2
    · have : 0 < x * y := Int.mul_pos_of_neg_of_neg h1 h2
      rw [h] at this
      have hm := Int.pos_of_mul_pos_left this hE
      rw [decide_eq_false (by omega), decide_eq_true h2]; simp [signed]; omega
    · have : x * y < 0 := Int.mul_neg_of_neg_of_pos h1 h2
      rw [h] at this
      have hm : m < 0 := by
        apply Classical.byContradiction
        intro hc
        have := Int.mul_nonneg (show 0 ≤ m by omega) (Int.le_of_lt hE)
        omega
      rw [decide_eq_true hm, decide_eq_false (by omega)]; simp [signed]; omega
    · have : x * y < 0 := Int.mul_neg_of_pos_of_neg h1 h2
      rw [h] at this
      have hm : m < 0 := by
        apply Classical.byContradiction
        intro hc
        have := Int.mul_nonneg (show 0 ≤ m by omega) (Int.le_of_lt hE)
        omega
      rw [decide_eq_true hm, decide_eq_true h2]; simp [signed]; omega
    · have : 0 < x * y := Int.mul_pos h1 h2
      rw [h] at this
      have hm := Int.pos_of_mul_pos_left this hE
      rw [decide_eq_false (by omega), decide_eq_false (by omega)]; simp [signed]; omega
/-- The order of two numbers. -/
def cmpI (x y : Int) : Int := if x = y then 0 else if x < y then -1 else 1
end Go.Proofs.YthecgifgjagmaaaGreatDoor.dec
