/- Plain: the bags that come of taking variables out: parents, edges. -/
import Derived.Test.YtnocncmjdhlmkaaHypC
namespace Go.Proofs.Ytnocncmjdhlmkaa.hyp
set_option linter.unusedVariables false
set_option linter.unusedSimpArgs false
section
variable (E : List Nat) (k all : Nat)
/-- The bag (of the first i) in which u was taken; 0 if in none. -/
def atS (i u : Nat) : Nat := ((List.range i).find? fun j => vS E k all j == u).getD 0
/-- The last of the bags in which some of a list were taken, or p. -/
def lastAt (i : Nat) (us : List Nat) (p : Nat) : Nat := us.foldl (fun p u => max p (atS E k all i u)) p
def parS (i : Nat) : Nat := lastAt E k all i (bits (minus (sS E k all i) (bit (vS E k all i)))) 0
end
theorem lastAt_ge {E : List Nat} {k all i : Nat} : ∀ (us : List Nat) (p : Nat), p ≤ lastAt E k all i us p ∧ ∀ u ∈ us, atS E k all i u ≤ lastAt E k all i us p := by
  intro us
  induction us with
  | nil => exact fun p => ⟨Nat.le_refl _, fun u hu => by cases hu⟩
  | cons v us ih =>
    intro p
    obtain ⟨h1, h2⟩ := ih (max p (atS E k all i v))
    have e : lastAt E k all i (v :: us) p = lastAt E k all i us (max p (atS E k all i v)) := rfl
    rw [e]
    refine ⟨by omega, fun u hu => ?_⟩
    rcases List.mem_cons.1 hu with rfl | hu
    · omega
    · exact h2 u hu
theorem lastAt_is {E : List Nat} {k all i : Nat} : ∀ (us : List Nat) (p : Nat), lastAt E k all i us p = p ∨ ∃ u ∈ us, lastAt E k all i us p = atS E k all i u := by
  intro us
  induction us with
  | nil => exact fun p => .inl rfl
  | cons v us ih =>
    intro p
    have e : lastAt E k all i (v :: us) p = lastAt E k all i us (max p (atS E k all i v)) := rfl
    rw [e]
    rcases ih (max p (atS E k all i v)) with h | ⟨u, hu, h⟩
    · rw [h]
      rcases Nat.le_total p (atS E k all i v) with h2 | h2
      · exact .inr ⟨v, by simp, Nat.max_eq_right h2⟩
      · exact .inl (Nat.max_eq_left h2)
    · exact .inr ⟨u, by simp [hu], h⟩
section
variable {E : List Nat} {k all : Nat} (g : Good E all)
include g
/-- What was taken in bag j is found there. -/
theorem atS_eq {i j : Nat} (hj : j < i) (hj0 : outS E k all j ≠ 0) (hlow : ∀ l, l < j → outS E k all l ≠ 0) : atS E k all i (vS E k all j) = j := by
  unfold atS
  have h : (List.range i).find? (fun l => vS E k all l == vS E k all j) = some j := by
    rw [List.find?_range_eq_some]
    refine ⟨by simp, by simpa using hj, fun l hl => ?_⟩
    simp
    intro e
    have := vS_inj g hj0 (hlow l hl) e
    omega
  rw [h]; rfl
theorem outS_low {i j : Nat} (h : outS E k all j ≠ 0) (hij : i ≤ j) : outS E k all i ≠ 0 := by
  intro e
  apply h
  have := (outS_sub (k := k) g hij).le
  omega
theorem parS_spec {i : Nat} (h0 : outS E k all i ≠ 0) (hi : 0 < i) : parS E k all i < i ∧ ∀ x, (sS E k all i).testBit x = true → x ≠ vS E k all i → (sS E k all (parS E k all i)).testBit x = true := by
  have hv16 := v16 g h0
  have hs16 : sS E k all i < 65536 := bagN_lt g.hE hv16
  have hmem : ∀ x, x ∈ bits (minus (sS E k all i) (bit (vS E k all i))) ↔ (sS E k all i).testBit x = true ∧ x ≠ vS E k all i := by
    intro x
    rw [mem_bits (minus_lt _ _ hs16), testBit_minus hs16 (bit_lt hv16), testBit_bit, Bool.and_eq_true]
    constructor
    · rintro ⟨h1, h2⟩; exact ⟨h1, fun e => by rw [e] at h2; simp at h2⟩
    · rintro ⟨h1, h2⟩; exact ⟨h1, by simp; exact fun e => h2 e.symm⟩
  have hat : ∀ x, (sS E k all i).testBit x = true → x ≠ vS E k all i → ∃ j, j < i ∧ vS E k all j = x ∧ outS E k all j ≠ 0 ∧ atS E k all i x = j := by
    intro x h1 h2
    obtain ⟨j, hj, hx, hj0⟩ := sS_before g h0 h1 h2
    exact ⟨j, hj, hx, hj0, by rw [← hx]; exact atS_eq g hj hj0 fun l hl => outS_low g hj0 (Nat.le_of_lt hl)⟩
  unfold parS
  obtain ⟨hge, hge2⟩ := lastAt_ge (E := E) (k := k) (all := all) (i := i) (bits (minus (sS E k all i) (bit (vS E k all i)))) 0
  have his := lastAt_is (E := E) (k := k) (all := all) (i := i) (bits (minus (sS E k all i) (bit (vS E k all i)))) 0
  generalize lastAt E k all i (bits (minus (sS E k all i) (bit (vS E k all i)))) 0 = p at *
  constructor
  · rcases his with h | ⟨u, hu, h⟩
    · omega
    · obtain ⟨h1, h2⟩ := (hmem u).1 hu
      obtain ⟨j, hj, _, _, ha⟩ := hat u h1 h2
      omega
  · intro x hx hne
    have hxm := (hmem x).2 ⟨hx, hne⟩
    obtain ⟨j, hj, hjx, hj0, hja⟩ := hat x hx hne
    have hjp : j ≤ p := by have := hge2 x hxm; omega
    -- the one at p
    have hu : ∃ u, (sS E k all i).testBit u = true ∧ u ≠ vS E k all i ∧ atS E k all i u = p := by
      rcases his with h | ⟨u, hu, h⟩
      · exact ⟨x, hx, hne, by omega⟩
      · obtain ⟨h1, h2⟩ := (hmem u).1 hu
        exact ⟨u, h1, h2, h.symm⟩
    obtain ⟨u, h1, h2, h3⟩ := hu
    obtain ⟨l, hl, hlu, hl0, hla⟩ := hat u h1 h2
    obtain rfl : l = p := by omega
    exact sS_parent g h0 hl hl0 (by rw [hlu]; exact h1) hx hjp hjx hj0
/-- All is taken in the end. -/
theorem outS_end : ∃ M, outS E k all M = 0 ∧ ∀ i, i < M → outS E k all i ≠ 0 := by
  have h : ∀ n i, outS E k all i ≤ n → ∃ M, i ≤ M ∧ outS E k all M = 0 := by
    intro n
    induction n with
    | zero => exact fun i hi => ⟨i, Nat.le_refl _, by omega⟩
    | succ n ih =>
      intro i hi
      by_cases h0 : outS E k all i = 0
      · exact ⟨i, Nat.le_refl _, h0⟩
      · obtain ⟨M, h1, h2⟩ := ih (i + 1) (by have := outS_drop g h0; omega)
        exact ⟨M, by omega, h2⟩
  obtain ⟨M0, _, hM0⟩ := h _ 0 (Nat.le_refl _)
  have key : ∀ n, outS E k all n = 0 → ∃ M, outS E k all M = 0 ∧ ∀ i, i < M → outS E k all i ≠ 0 := by
    intro n
    induction n with
    | zero => exact fun h => ⟨0, h, fun i hi => by omega⟩
    | succ n ih =>
      intro h
      by_cases h1 : outS E k all n = 0
      · exact ih h1
      · exact ⟨n + 1, h, fun i hi => outS_low g h1 (by omega)⟩
  exact key M0 hM0
/-- Each edge stands in a bag. -/
theorem edge_in {e : Nat} (he : e ∈ E) (h0 : e ≠ 0) {M : Nat} (hM : outS E k all M = 0) (hlow : ∀ i, i < M → outS E k all i ≠ 0) : ∃ j, j < M ∧ Sub e (sS E k all j) := by
  have hin : ∀ x, e.testBit x = true → ∃ j, j < M ∧ vS E k all j = x := by
    intro x hx
    obtain ⟨j, hj, h1, _⟩ := taken g ((g.hcov x).2 ⟨e, he, hx⟩) M (by rw [hM, Nat.zero_testBit])
    exact ⟨j, hj, h1⟩
  -- the last one
  have hlast : ∀ n, n ≤ M → (∃ j, j < n ∧ e.testBit (vS E k all j) = true) → ∃ j, j < n ∧ e.testBit (vS E k all j) = true ∧ ∀ l, j < l → l < n → e.testBit (vS E k all l) = false := by
    intro n
    induction n with
    | zero => rintro _ ⟨j, hj, _⟩; omega
    | succ n ih =>
      intro hn hex
      by_cases h1 : e.testBit (vS E k all n) = true
      · exact ⟨n, by omega, h1, fun l h2 h3 => by omega⟩
      · obtain ⟨j, hj, h2, h3⟩ := ih (by omega) (by
          obtain ⟨j, hj, h2⟩ := hex
          have : j ≠ n := fun e2 => h1 (e2 ▸ h2)
          exact ⟨j, by omega, h2⟩)
        refine ⟨j, by omega, h2, fun l h4 h5 => ?_⟩
        by_cases h6 : l = n
        · rw [h6]; simpa using h1
        · exact h3 l h4 (by omega)
  obtain ⟨x, hx⟩ : ∃ x, e.testBit x = true := by
    apply Classical.byContradiction
    intro hn
    apply h0
    apply Nat.eq_of_testBit_eq
    intro i
    rw [Nat.zero_testBit]
    cases h : e.testBit i
    · rfl
    · exact absurd ⟨i, h⟩ hn
  obtain ⟨j0, hj0, hj1⟩ := hin x hx
  obtain ⟨j, hj, h2, h3⟩ := hlast M (Nat.le_refl _) ⟨j0, hj0, by rw [hj1]; exact hx⟩
  refine ⟨j, hj, fun y hy => ?_⟩
  rw [sS_iff g (hlow j hj)]
  refine ⟨.step .start (by rw [A_eq g (hlow j hj)]; exact vS_in g (hlow j hj)) he h2 hy, ?_⟩
  obtain ⟨l, hl, hly⟩ := hin y hy
  have hlj : l ≤ j := by
    apply Classical.byContradiction
    intro hn
    have := h3 l (by omega) hl
    rw [hly, hy] at this
    cases this
  rw [← hly]
  exact gone g (hlow l hl) (by omega)
/-- What covers a bag. -/
theorem cover_bag {i : Nat} (h0 : outS E k all i ≠ 0) : Sub (sS E k all i) (unionN E (coverN E (sS E k all i))) :=
  (coverN_spec g.hE (bagN_lt g.hE (v16 g h0)) fun x hx => (g.hcov x).1 (sS_all g h0 hx)).2.1
/-- A variable that is in a bag, and not in the bag's parent, was taken there. -/
theorem root_is {i x : Nat} (h0 : outS E k all i ≠ 0) (hx : (sS E k all i).testBit x = true) (hr : i = 0 ∨ (sS E k all (parS E k all i)).testBit x = false) : vS E k all i = x := by
  apply Classical.byContradiction
  intro hn
  rcases hr with rfl | hr
  · obtain ⟨j, hj, _⟩ := sS_before g h0 hx (fun e => hn e.symm)
    omega
  · obtain ⟨j, hj, _⟩ := sS_before g h0 hx (fun e => hn e.symm)
    have := (parS_spec g h0 (by omega)).2 x hx (fun e => hn e.symm)
    rw [this] at hr
    cases hr
end
end Go.Proofs.Ytnocncmjdhlmkaa.hyp
