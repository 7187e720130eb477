/- Plain: what the words say: sums, differences, order, products of amounts. -/
import Derived.Test.YthecgifgjagmaaaGreatDoorDecTimes
namespace Go.Proofs.YthecgifgjagmaaaGreatDoor.dec
set_option linter.unusedVariables false
def B9 : Nat := 1000000000
theorem B9_eq : 1000000000 = B9 := rfl
theorem B9_pos : 0 < B9 := by decide
theorem B9_pow (k : Nat) : 0 < B9 ^ k := Nat.pow_pos B9_pos
/-- Word i of an amount. -/
def wd (N i : Nat) : Nat := N / B9 ^ i % B9
theorem wd_lt (N i : Nat) : wd N i < 1000000000 := Nat.mod_lt _ B9_pos
theorem mod_succ (N k : Nat) : N % B9 ^ (k + 1) = N % B9 ^ k + B9 ^ k * wd N k := by rw [Nat.pow_succ, Nat.mod_mul]; rfl
theorem carry_wd (N M k : Nat) : carry (wd N) (wd M) k = (N % B9 ^ k + M % B9 ^ k) / B9 ^ k := by
  induction k with
  | zero => simp [carry, Nat.mod_one]
  | succ k ih =>
    rw [carry, ih, mod_succ, mod_succ, B9_eq, Nat.pow_succ, ← Nat.div_div_eq_div_mul]
    congr 1
    rw [show N % B9 ^ k + B9 ^ k * wd N k + (M % B9 ^ k + B9 ^ k * wd M k) = (N % B9 ^ k + M % B9 ^ k) + B9 ^ k * (wd N k + wd M k) by rw [Nat.mul_add]; omega, Nat.add_mul_div_left _ _ (B9_pow k)]
    omega
theorem div_sum (N M k : Nat) : (N + M) / B9 ^ k = N / B9 ^ k + M / B9 ^ k + (N % B9 ^ k + M % B9 ^ k) / B9 ^ k := by
  conv => lhs; rw [← Nat.div_add_mod N (B9 ^ k), ← Nat.div_add_mod M (B9 ^ k)]
  rw [show B9 ^ k * (N / B9 ^ k) + N % B9 ^ k + (B9 ^ k * (M / B9 ^ k) + M % B9 ^ k) = (N % B9 ^ k + M % B9 ^ k) + B9 ^ k * (N / B9 ^ k + M / B9 ^ k) by rw [Nat.mul_add]; omega, Nat.add_mul_div_left _ _ (B9_pow k)]
  omega
theorem sumW_wd (N M k : Nat) : sumW (wd N) (wd M) k = wd (N + M) k := by
  unfold sumW
  rw [carry_wd]
  show (N / B9 ^ k % 1000000000 + M / B9 ^ k % 1000000000 + (N % B9 ^ k + M % B9 ^ k) / B9 ^ k) % 1000000000 = (N + M) / B9 ^ k % 1000000000
  have h := div_sum N M k
  generalize (N + M) / B9 ^ k = s at *
  generalize N / B9 ^ k = a at *
  generalize M / B9 ^ k = b at *
  generalize (N % B9 ^ k + M % B9 ^ k) / B9 ^ k = c at *
  omega
theorem borrow_wd (M D k : Nat) : borrow (wd (M + D)) (wd M) k = carry (wd M) (wd D) k := by
  induction k with
  | zero => rfl
  | succ k ih =>
    have h1 : wd (M + D) k = (wd M k + wd D k + carry (wd M) (wd D) k) % 1000000000 := (sumW_wd M D k).symm
    have h2 := wd_lt M k
    have h3 := wd_lt D k
    have h4 := carry_le (wd M) (wd D) (wd_lt M) (wd_lt D) k
    rw [borrow, carry, ih, h1]
    omega
theorem subW_wd (N M k : Nat) (h : M ≤ N) : subW (wd N) (wd M) k = wd (N - M) k := by
  obtain ⟨D, rfl⟩ : ∃ D, N = M + D := ⟨N - M, by omega⟩
  rw [Nat.add_sub_cancel_left]
  have h1 : wd (M + D) k = (wd M k + wd D k + carry (wd M) (wd D) k) % 1000000000 := (sumW_wd M D k).symm
  have h2 := wd_lt M k
  have h3 := wd_lt D k
  have h4 := carry_le (wd M) (wd D) (wd_lt M) (wd_lt D) k
  unfold subW
  rw [borrow_wd, h1]
  omega
def sgn (a b : Nat) : Int := if a < b then -1 else if b < a then 1 else 0
theorem cmpW_wd (N M k : Nat) : cmpW (wd N) (wd M) k = sgn (N % B9 ^ k) (M % B9 ^ k) := by
  induction k with
  | zero => simp [cmpW, sgn, Nat.mod_one]
  | succ k ih =>
    rw [cmpW, ih, mod_succ, mod_succ]
    have h1 := Nat.mod_lt N (B9_pow k)
    have h2 := Nat.mod_lt M (B9_pow k)
    generalize N % B9 ^ k = n at *
    generalize M % B9 ^ k = m at *
    generalize wd N k = a
    generalize wd M k = b
    generalize B9 ^ k = B at *
    unfold sgn
    by_cases h3 : a < b
    · have : B * (a + 1) ≤ B * b := Nat.mul_le_mul_left B h3
      rw [Nat.mul_succ] at this
      rw [if_pos h3, if_pos (by omega)]
    · by_cases h4 : b < a
      · have : B * (b + 1) ≤ B * a := Nat.mul_le_mul_left B h4
        rw [Nat.mul_succ] at this
        rw [if_neg h3, if_pos h4, if_neg (by omega), if_pos (by omega)]
      · obtain rfl : a = b := by omega
        rw [if_neg h3, if_neg h4]
        simp only [Nat.add_lt_add_iff_right]

/-! ### Products -/
def vs (o : Nat → Nat) : Nat → Nat
  | 0 => 0
  | n + 1 => vs o n + o n * B9 ^ n
theorem vs_upd_out (o : Nat → Nat) (j x n : Nat) (h : n ≤ j) : vs (upd o j x) n = vs o n := by
  induction n with
  | zero => rfl
  | succ n ih => rw [vs, vs, ih (by omega)]; unfold upd; rw [if_neg (by omega)]
theorem vs_upd (o : Nat → Nat) (j x n : Nat) (h : j < n) : vs (upd o j x) n + o j * B9 ^ j = vs o n + x * B9 ^ j := by
  induction n with
  | zero => omega
  | succ n ih =>
    rw [vs, vs]
    by_cases hj : j = n
    · subst hj
      rw [vs_upd_out o j x j (Nat.le_refl _)]
      have : upd o j x j = x := by unfold upd; rw [if_pos rfl]
      rw [this]; omega
    · have := ih (by omega)
      have e : upd o j x n = o n := by unfold upd; rw [if_neg (fun h => hj h.symm)]
      rw [e]; omega
theorem vs_lt (o : Nat → Nat) (ho : ∀ j, o j < 1000000000) (n : Nat) : vs o n < B9 ^ n := by
  induction n with
  | zero => simp [vs]
  | succ n ih =>
    rw [vs, Nat.pow_succ]
    have : (o n + 1) * B9 ^ n ≤ B9 * B9 ^ n := Nat.mul_le_mul_right _ (ho n)
    rw [Nat.add_mul] at this
    rw [Nat.mul_comm (B9 ^ n) B9]
    omega
theorem vs_mod (o : Nat → Nat) (ho : ∀ j, o j < 1000000000) (n k : Nat) (h : k ≤ n) : vs o n % B9 ^ k = vs o k := by
  induction n with
  | zero => obtain rfl : k = 0 := by omega
            simp [vs]
  | succ n ih =>
    by_cases hk : k = n + 1
    · subst hk; exact Nat.mod_eq_of_lt (vs_lt o ho _)
    · have := ih (by omega)
      have e : o n * B9 ^ n = B9 ^ k * (o n * B9 ^ (n - k)) := by
        rw [Nat.mul_left_comm, ← Nat.pow_add]; congr 2; omega
      rw [vs, e, Nat.add_mul_mod_self_left, this]
theorem wd_vs (o : Nat → Nat) (ho : ∀ j, o j < 1000000000) (n j : Nat) (h : j < n) : wd (vs o n) j = o j := by
  have h1 := vs_mod o ho n (j + 1) h
  rw [mod_succ, vs_mod o ho n j (by omega), vs] at h1
  have h2 : B9 ^ j * wd (vs o n) j = B9 ^ j * o j := by rw [Nat.mul_comm (B9 ^ j) (o j)]; omega
  exact Nat.eq_of_mul_eq_mul_left (B9_pow j) h2
theorem vs_wd (N k : Nat) : vs (wd N) k = N % B9 ^ k := by
  induction k with
  | zero => simp [vs, Nat.mod_one]
  | succ k ih => rw [vs, ih, mod_succ, Nat.mul_comm]
theorem inn_vs (n : Nat) (f g : Nat → Nat) (i : Nat) (o : Nat → Nat) (k : Nat) (h : i + k ≤ n) :
    vs (inn f g i o k).1 n + (inn f g i o k).2 * B9 ^ (i + k) = vs o n + f i * B9 ^ i * vs g k := by
  induction k with
  | zero => simp [inn, vs]
  | succ k ih =>
    have ih := ih (by omega)
    have hv : vs g (k + 1) = vs g k + g k * B9 ^ k := rfl
    rw [inn, hv]
    generalize inn f g i o k = p at *
    have hu := vs_upd p.1 (i + k) ((p.1 (i + k) + f i * g k + p.2) % 1000000000) n (by omega)
    have hs := Nat.div_add_mod (p.1 (i + k) + f i * g k + p.2) 1000000000
    simp only
    generalize hS : p.1 (i + k) + f i * g k + p.2 = S at *
    have hS' : p.1 (i + k) * B9 ^ (i + k) + f i * g k * B9 ^ (i + k) + p.2 * B9 ^ (i + k) = S * B9 ^ (i + k) := by rw [← hS, Nat.add_mul, Nat.add_mul]
    have hs' : S / 1000000000 * B9 ^ (i + (k + 1)) + S % 1000000000 * B9 ^ (i + k) = S * B9 ^ (i + k) := by
      conv => rhs; rw [← hs]
      rw [Nat.add_mul, show i + (k + 1) = (i + k) + 1 by omega, Nat.pow_succ, B9_eq, Nat.mul_comm (B9 ^ (i + k)) B9, ← Nat.mul_assoc, Nat.mul_comm (S / B9) B9]
    have hm : f i * B9 ^ i * (vs g k + g k * B9 ^ k) = f i * B9 ^ i * vs g k + f i * g k * B9 ^ (i + k) := by
      rw [Nat.mul_add, Nat.pow_add]; congr 1
      rw [Nat.mul_assoc, Nat.mul_assoc, Nat.mul_left_comm (B9 ^ i)]
    rw [hm]
    omega
theorem outT_vs (n : Nat) (hn : n = 16) (N M i : Nat) (h : i ≤ n) : vs (outT (wd N) (wd M) i) n % B9 ^ n = (N % B9 ^ i) * M % B9 ^ n := by
  induction i with
  | zero =>
    have h0 : ∀ n, vs (fun _ => 0) n = 0 := by
      intro n; induction n with
      | zero => rfl
      | succ n ih => rw [vs, ih]; simp
    show vs (fun _ => 0) n % _ = _
    rw [h0]; simp [Nat.mod_one]
  | succ i ih =>
    have ih := ih (by omega)
    have e : outT (wd N) (wd M) (i + 1) = (inn (wd N) (wd M) i (outT (wd N) (wd M) i) (n - i)).1 := by rw [hn]; rfl
    clear hn
    have hi := inn_vs n (wd N) (wd M) i (outT (wd N) (wd M) i) (n - i) (by omega)
    rw [show i + (n - i) = n by omega, vs_wd] at hi
    have h1 : vs (inn (wd N) (wd M) i (outT (wd N) (wd M) i) (n - i)).1 n % B9 ^ n = (vs (outT (wd N) (wd M) i) n + wd N i * B9 ^ i * (M % B9 ^ (n - i))) % B9 ^ n := by
      rw [← hi, Nat.add_mul_mod_self_right]
    have h2 : (wd N i * B9 ^ i * (M % B9 ^ (n - i))) % B9 ^ n = (wd N i * B9 ^ i * M) % B9 ^ n := by
      have hp : B9 ^ n = B9 ^ i * B9 ^ (n - i) := by rw [← Nat.pow_add]; congr 1; omega
      have e : ∀ x, wd N i * B9 ^ i * x = B9 ^ i * (wd N i * x) := fun x => by rw [Nat.mul_comm (wd N i), Nat.mul_assoc]
      rw [e, e, hp, Nat.mul_mod_mul_left, Nat.mul_mod_mul_left, Nat.mul_mod, Nat.mod_mod, ← Nat.mul_mod]
    rw [e, h1, Nat.add_mod, ih, h2, ← Nat.add_mod, ← Nat.add_mul, mod_succ N i, Nat.mul_comm (wd N i)]
theorem times_wd' (n : Nat) (hn : n = 16) (N M : Nat) (hN : N < B9 ^ n) (hNM : N * M < B9 ^ n) (j : Nat) (hj : j < n) : outT (wd N) (wd M) n j = wd (N * M) j := by
  have ho := outT_lt (wd N) (wd M) (wd_lt N) (wd_lt M) n
  have h1 := outT_vs n hn N M n (Nat.le_refl _)
  clear hn
  rw [Nat.mod_eq_of_lt (vs_lt _ ho n), Nat.mod_eq_of_lt hN, Nat.mod_eq_of_lt hNM] at h1
  rw [← h1]; exact (wd_vs _ ho n j hj).symm
theorem times_wd (N M : Nat) (hN : N < B9 ^ 16) (hNM : N * M < B9 ^ 16) (j : Nat) (hj : j < 16) : outT (wd N) (wd M) 16 j = wd (N * M) j := times_wd' 16 rfl N M hN hNM j hj
theorem wv_congr (f g : Nat → Nat) (h : ∀ i, i < 16 → f i = g i) : wv f = wv g := by
  apply Array.ext_getElem?
  intro j
  by_cases hj : j < 16
  · rw [wv_get f j hj, wv_get g j hj, h j hj]
  · rw [Array.getElem?_eq_none (by rw [wv_size]; omega), Array.getElem?_eq_none (by rw [wv_size]; omega)]
end Go.Proofs.YthecgifgjagmaaaGreatDoor.dec
