/- Plain: taking variables out, last one first: the bags are a decomposition. -/
import Derived.Test.YtnocncmjdhlmkaaHypB
namespace Go.Proofs.Ytnocncmjdhlmkaa.hyp
set_option linter.unusedVariables false
set_option linter.unusedSimpArgs false
theorem Reach.mono {E : List Nat} {A A' a b : Nat} (h : Reach E A a b) (hs : Sub A A') : Reach E A' a b := by
  induction h with
  | start => exact .start
  | step h hA he hx hy ih => exact .step ih (hs _ hA) he hx hy
theorem Reach.trans {E : List Nat} {A a b c : Nat} (h : Reach E A a b) (k : Reach E A b c) : Reach E A a c := by
  induction k with
  | start => exact h
  | step k hA he hx hy ih => exact .step ih hA he hx hy
theorem Reach.back {E : List Nat} {A A' a b : Nat} (h : Reach E A a b) (hs : Sub A A') (hb : A'.testBit b = true) : Reach E A' b a := by
  induction h with
  | start => exact .start
  | step h hA he hx hy ih => exact Reach.trans (.step .start hb he hy hx) (ih (hs _ hA))
/-- What one comes to, but for the start, stands in an edge. -/
theorem Reach.edge {E : List Nat} {A a b : Nat} (h : Reach E A a b) : b = a ∨ ∃ e ∈ E, e.testBit b = true := by
  cases h with
  | start => exact .inl rfl
  | step h hA he hx hy => exact .inr ⟨_, he, hy⟩
section
variable (E : List Nat) (k all : Nat)
/-- What is still out when i have been taken. -/
def outS : Nat → Nat
  | 0 => all
  | i + 1 => minus (outS i) (bit (lastN E k (outS i)))
def vS (i : Nat) : Nat := lastN E k (outS E k all i)
def sS (i : Nat) : Nat := bagN E (outS E k all (i + 1)) (vS E k all i)
end
/-- Edges within sixteen bits, eight at most; all: their variables. -/
structure Good (E : List Nat) (all : Nat) : Prop where
  hE : ∀ e ∈ E, e < 65536
  hlen : E.length ≤ 8
  hall : all < 65536
  hcov : ∀ i, all.testBit i = true ↔ ∃ e ∈ E, e.testBit i = true
section
variable {E : List Nat} {k all : Nat} (g : Good E all)
theorem outS_zero {i : Nat} (h0 : outS E k all i = 0) : outS E k all (i + 1) = 0 := by
  rw [outS, h0]
  unfold minus
  exact Nat.zero_and _
include g
theorem outS_lt (i : Nat) : outS E k all i < 65536 := by
  induction i with
  | zero => exact g.hall
  | succ i ih => exact minus_lt _ _ ih
theorem vS_in {i : Nat} (h0 : outS E k all i ≠ 0) : (outS E k all i).testBit (vS E k all i) = true :=
  ((widN_le E k g.hlen _ _ (Nat.le_refl _) (outS_lt g i)).2 h0).1
theorem outS_succ {i : Nat} (h0 : outS E k all i ≠ 0) (x : Nat) : (outS E k all (i + 1)).testBit x = ((outS E k all i).testBit x && !decide (vS E k all i = x)) := by
  have hv := vS_in g h0
  have hlt := outS_lt (k := k) g i
  unfold vS at hv ⊢
  rw [outS, testBit_minus hlt (bit_lt (lt16 hlt hv)), testBit_bit]
theorem outS_sub {i j : Nat} (h : i ≤ j) : Sub (outS E k all j) (outS E k all i) := by
  induction j with
  | zero => obtain rfl : i = 0 := by omega
            exact Sub.refl _
  | succ j ih =>
    by_cases hi : i = j + 1
    · rw [hi]; exact Sub.refl _
    · refine Sub.trans (fun x hx => ?_) (ih (by omega))
      by_cases h0 : outS E k all j = 0
      · rw [outS_zero h0, Nat.zero_testBit] at hx; cases hx
      · rw [outS_succ g h0, Bool.and_eq_true] at hx; exact hx.1
theorem outS_drop {i : Nat} (h0 : outS E k all i ≠ 0) : outS E k all (i + 1) < outS E k all i :=
  minus_bit_lt (outS_lt g i) (vS_in g h0)
/-- What is no more out has been taken. -/
theorem taken {x : Nat} (hx : all.testBit x = true) : ∀ i, (outS E k all i).testBit x = false → ∃ j, j < i ∧ vS E k all j = x ∧ outS E k all j ≠ 0 := by
  intro i
  induction i with
  | zero => intro h; rw [outS, hx] at h; cases h
  | succ i ih =>
    intro h
    by_cases h1 : (outS E k all i).testBit x = true
    · have h0 : outS E k all i ≠ 0 := fun e => by rw [e, Nat.zero_testBit] at h1; cases h1
      rw [outS_succ g h0, h1] at h
      refine ⟨i, by omega, ?_, h0⟩
      simpa using h
    · obtain ⟨j, hj, h2⟩ := ih (by simpa using h1)
      exact ⟨j, by omega, h2⟩
/-- What was taken is no more out. -/
theorem gone {i j : Nat} (h0 : outS E k all i ≠ 0) (h : i < j) : (outS E k all j).testBit (vS E k all i) = false := by
  apply Bool.eq_false_iff.2
  intro hx
  have h1 := outS_sub (k := k) g (show i + 1 ≤ j by omega) _ hx
  rw [outS_succ g h0] at h1
  simp at h1
theorem vS_inj {i j : Nat} (h0 : outS E k all j ≠ 0) (hi : outS E k all i ≠ 0) (h : vS E k all i = vS E k all j) : i = j := by
  rcases Nat.lt_trichotomy i j with hlt | rfl | hlt
  · have h1 := gone g hi hlt
    rw [h, vS_in g h0] at h1
    cases h1
  · rfl
  · have h1 := gone g h0 hlt
    rw [← h, vS_in g hi] at h1
    cases h1
theorem v16 {i : Nat} (h0 : outS E k all i ≠ 0) : vS E k all i < 16 := lt16 (outS_lt g i) (vS_in g h0)
theorem sS_iff {i : Nat} (h0 : outS E k all i ≠ 0) (x : Nat) : (sS E k all i).testBit x = true ↔ Reach E (outS E k all (i + 1) ||| bit (vS E k all i)) (vS E k all i) x ∧ (outS E k all (i + 1)).testBit x = false :=
  bagN_iff g.hE (outS_lt g (i + 1)) (v16 g h0) x
theorem sS_all {i : Nat} (h0 : outS E k all i ≠ 0) {x : Nat} (h : (sS E k all i).testBit x = true) : all.testBit x = true := by
  rcases ((sS_iff g h0 x).1 h).1.edge with rfl | he
  · exact outS_sub (k := k) g (Nat.zero_le i) _ (vS_in g h0)
  · exact (g.hcov x).2 he
theorem sS_self {i : Nat} (h0 : outS E k all i ≠ 0) : (sS E k all i).testBit (vS E k all i) = true :=
  (sS_iff g h0 _).2 ⟨.start, gone g h0 (Nat.lt_succ_self i)⟩
/-- The others of a bag were taken before. -/
theorem sS_before {i : Nat} (h0 : outS E k all i ≠ 0) {x : Nat} (h : (sS E k all i).testBit x = true) (hne : x ≠ vS E k all i) : ∃ j, j < i ∧ vS E k all j = x ∧ outS E k all j ≠ 0 := by
  have h1 := ((sS_iff g h0 x).1 h).2
  rw [outS_succ g h0] at h1
  refine taken g (sS_all g h0 h) i ?_
  cases hx : (outS E k all i).testBit x
  · rfl
  · rw [hx] at h1
    have : vS E k all i = x := by simpa using h1
    exact absurd this.symm hne
theorem A_eq {i : Nat} (h0 : outS E k all i ≠ 0) (x : Nat) : (outS E k all (i + 1) ||| bit (vS E k all i)).testBit x = (outS E k all i).testBit x := by
  rw [Nat.testBit_or, outS_succ g h0, testBit_bit]
  by_cases h : vS E k all i = x
  · rw [← h, vS_in g h0]; simp
  · simp [h]
/-- A bag's others stand in the bag of the one of them that was taken last. -/
theorem sS_parent {i p : Nat} (h0 : outS E k all i ≠ 0) (hp : p < i) (hp0 : outS E k all p ≠ 0) (hin : (sS E k all i).testBit (vS E k all p) = true) {x : Nat} (hx : (sS E k all i).testBit x = true) {j : Nat} (hj : j ≤ p) (hjx : vS E k all j = x) (hj0 : outS E k all j ≠ 0) :
    (sS E k all p).testBit x = true := by
  rw [sS_iff g hp0]
  refine ⟨?_, by rw [← hjx]; exact gone g hj0 (by omega)⟩
  have hsub : Sub (outS E k all (i + 1) ||| bit (vS E k all i)) (outS E k all (p + 1) ||| bit (vS E k all p)) := fun y hy => by
    rw [A_eq g h0] at hy
    rw [A_eq g hp0]
    exact outS_sub (k := k) g (show p ≤ i by omega) _ hy
  have r1 := ((sS_iff g h0 _).1 hin).1
  have r2 := ((sS_iff g h0 _).1 hx).1
  exact Reach.trans (r1.back hsub (by rw [A_eq g hp0]; exact vS_in g hp0)) (r2.mono hsub)
/-- The widths fall. -/
theorem wid_le (i : Nat) : widN E k (outS E k all i) ≤ widN E k all ∧ (outS E k all i ≠ 0 → pop (coverN E (sS E k all i)) ≤ widN E k all) := by
  induction i with
  | zero =>
    refine ⟨Nat.le_refl _, fun h0 => ?_⟩
    have h := ((widN_le E k g.hlen _ _ (Nat.le_refl _) (outS_lt (k := k) g 0)).2 h0).2.1
    have h2 : pop (coverN E (sS E k all 0)) ≤ costN E k (outS E k all 0) (lastN E k (outS E k all 0)) := Nat.le_max_right _ _
    rw [← h] at h2
    exact h2
  | succ i ih =>
    by_cases hz : outS E k all i = 0
    · have hz2 := outS_zero (k := k) hz
      exact ⟨by rw [hz2, widN_zero]; exact Nat.zero_le _, fun h => absurd hz2 h⟩
    have h := ((widN_le E k g.hlen _ _ (Nat.le_refl _) (outS_lt (k := k) g i)).2 hz).2.1
    have h1 : widN E k (outS E k all (i + 1)) ≤ costN E k (outS E k all i) (lastN E k (outS E k all i)) := Nat.le_max_left _ _
    rw [← h] at h1
    refine ⟨Nat.le_trans h1 ih.1, fun h0 => ?_⟩
    have gg := ((widN_le E k g.hlen _ _ (Nat.le_refl _) (outS_lt (k := k) g (i + 1))).2 h0).2.1
    have gg2 : pop (coverN E (sS E k all (i + 1))) ≤ costN E k (outS E k all (i + 1)) (lastN E k (outS E k all (i + 1))) := Nat.le_max_right _ _
    rw [← gg] at gg2
    omega
end
end Go.Proofs.Ytnocncmjdhlmkaa.hyp
