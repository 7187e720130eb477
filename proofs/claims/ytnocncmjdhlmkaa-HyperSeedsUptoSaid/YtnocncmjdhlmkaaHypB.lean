/- Plain: the fewest edges that cover, the least width, and what it is by ways to take variables out. -/
import Derived.Test.YtnocncmjdhlmkaaHypA
namespace Go.Proofs.Ytnocncmjdhlmkaa.hyp
set_option linter.unusedVariables false
set_option linter.unusedSimpArgs false
def bits (s : Nat) : List Nat := (List.range 16).filter fun i => s.testBit i
theorem pop_eq (s : Nat) : pop s = (bits s).length := rfl
theorem mem_bits {s i : Nat} (h : s < 65536) : i ∈ bits s ↔ s.testBit i = true := by
  unfold bits
  rw [List.mem_filter, List.mem_range]
  exact ⟨fun h => h.2, fun hi => ⟨lt16 h hi, hi⟩⟩
theorem bits_lt {s i : Nat} (h : i ∈ bits s) : i < 16 ∧ s.testBit i = true := by
  unfold bits at h
  rw [List.mem_filter, List.mem_range] at h
  exact h
theorem bits_nil {s : Nat} (h : s < 65536) : bits s = [] ↔ s = 0 := by
  constructor
  · intro he
    apply Nat.eq_of_testBit_eq
    intro i
    rw [Nat.zero_testBit]
    cases hi : s.testBit i
    · rfl
    · have := (mem_bits h).2 hi
      rw [he] at this
      cases this
  · rintro rfl
    rfl
/-! ### Covers -/
theorem unionF_iff (i : Nat) : ∀ (E : List Nat) (k l : Nat), (unionF E k l).testBit i = true ↔ ∃ j e, E[j]? = some e ∧ l.testBit (k + j) = true ∧ e.testBit i = true
  | [], k, l => by simp [unionF]
  | e :: E, k, l => by
    rw [unionF, Nat.testBit_or, Bool.or_eq_true, unionF_iff i E (k + 1) l]
    constructor
    · rintro (h | ⟨j, f, h1, h2, h3⟩)
      · refine ⟨0, e, rfl, ?_, ?_⟩
        · rw [Nat.add_zero]
          apply Classical.byContradiction
          intro hn
          rw [if_neg hn] at h
          simp at h
        · by_cases hk : l.testBit k = true
          · rw [if_pos hk] at h; exact h
          · rw [if_neg hk] at h; simp at h
      · exact ⟨j + 1, f, by simpa using h1, by rw [show k + (j + 1) = k + 1 + j by omega]; exact h2, h3⟩
    · rintro ⟨j, f, h1, h2, h3⟩
      cases j with
      | zero =>
        left
        obtain rfl : e = f := by simpa using h1
        rw [if_pos (by simpa using h2)]
        exact h3
      | succ j => exact .inr ⟨j, f, by simpa using h1, by rw [show k + 1 + j = k + (j + 1) by omega]; exact h2, h3⟩
theorem unionN_iff (E : List Nat) (l i : Nat) : (unionN E l).testBit i = true ↔ ∃ (j e : Nat), E[j]? = some e ∧ l.testBit j = true ∧ e.testBit i = true := by
  unfold unionN
  rw [unionF_iff]
  simp
theorem unionF_lt (E : List Nat) (hE : ∀ e ∈ E, e < 65536) : ∀ k l, unionF E k l < 65536 := by
  induction E with
  | nil => intro k l; exact (by decide : 0 < 65536)
  | cons e E ih =>
    intro k l
    rw [unionF]
    refine or_lt ?_ (ih (fun x hx => hE x (by simp [hx])) _ _)
    split
    · exact hE e (by simp)
    · decide
theorem unionN_lt (E : List Nat) (hE : ∀ e ∈ E, e < 65536) (l : Nat) : unionN E l < 65536 := unionF_lt E hE 0 l
theorem coverF_spec (E : List Nat) (s b : Nat) : ∀ n, (coverF E s b n = b ∨ (coverF E s b n < n ∧ minus s (unionN E (coverF E s b n)) = 0)) ∧ pop (coverF E s b n) ≤ pop b ∧ ∀ l, l < n → minus s (unionN E l) = 0 → pop (coverF E s b n) ≤ pop l := by
  intro n
  induction n with
  | zero => exact ⟨.inl rfl, Nat.le_refl _, fun l hl => by omega⟩
  | succ n ih =>
    obtain ⟨h1, h2, h3⟩ := ih
    rw [coverF]
    split
    · rename_i hc
      refine ⟨.inr ⟨by omega, hc.2⟩, by omega, fun l hl hu => ?_⟩
      by_cases e : l = n
      · rw [e]; exact Nat.le_refl _
      · have := h3 l (by omega) hu; omega
    · rename_i hc
      refine ⟨h1.imp id fun h => ⟨by omega, h.2⟩, h2, fun l hl hu => ?_⟩
      by_cases e : l = n
      · subst e
        exact Classical.byContradiction fun hn => hc ⟨by omega, hu⟩
      · exact h3 l (by omega) hu
theorem full_bit (m k : Nat) : (2 ^ m - 1).testBit k = decide (k < m) := by rw [Nat.testBit_two_pow_sub_one]
/-- All edges cover what some edges cover. -/
theorem full_covers {E : List Nat} {s : Nat} (hE : ∀ e ∈ E, e < 65536) (hs : s < 65536) (hv : ∀ i, s.testBit i = true → ∃ e ∈ E, e.testBit i = true) : minus s (unionN E (2 ^ E.length - 1)) = 0 := by
  rw [minus_zero hs (unionN_lt E hE _)]
  intro i hi
  obtain ⟨e, he, hi2⟩ := hv i hi
  obtain ⟨j, hj, rfl⟩ := List.getElem_of_mem he
  exact (unionN_iff _ _ _).2 ⟨j, _, List.getElem?_eq_getElem hj, by rw [full_bit]; simpa using hj, hi2⟩
/-- The fewest edges: they cover, and no fewer do. -/
theorem coverN_spec {E : List Nat} {s : Nat} (hE : ∀ e ∈ E, e < 65536) (hs : s < 65536) (hv : ∀ i, s.testBit i = true → ∃ e ∈ E, e.testBit i = true) :
    coverN E s < 2 ^ E.length ∧ Sub s (unionN E (coverN E s)) ∧ ∀ l, l < 2 ^ E.length → Sub s (unionN E l) → pop (coverN E s) ≤ pop l := by
  have hp : 0 < 2 ^ E.length := Nat.pow_pos (by decide)
  have hf := full_covers hE hs hv
  obtain ⟨h1, h2, h3⟩ := coverF_spec E s (2 ^ E.length - 1) (2 ^ E.length)
  unfold coverN
  generalize coverF E s (2 ^ E.length - 1) (2 ^ E.length) = c at *
  refine ⟨?_, ?_, fun l hl hu => h3 l hl ((minus_zero hs (unionN_lt E hE _)).2 hu)⟩
  · rcases h1 with rfl | h1
    · omega
    · exact h1.1
  · rcases h1 with rfl | h1
    · exact (minus_zero hs (unionN_lt E hE _)).1 hf
    · exact (minus_zero hs (unionN_lt E hE _)).1 h1.2
theorem coverN_lt (E : List Nat) (s : Nat) : coverN E s < 2 ^ E.length := by
  have hp : 0 < 2 ^ E.length := Nat.pow_pos (by decide)
  obtain ⟨h1, -, -⟩ := coverF_spec E s (2 ^ E.length - 1) (2 ^ E.length)
  unfold coverN
  rcases h1 with h | h
  · rw [h]; omega
  · exact h.1
theorem filter_lt_le (m : Nat) (p : Nat → Bool) (hp : ∀ i, p i = true → i < m) : ∀ n, ((List.range n).filter p).length ≤ m := by
  intro n
  have h1 : ((List.range n).filter p).Nodup := List.Pairwise.filter _ List.nodup_range
  have h2 : ∀ x ∈ (List.range n).filter p, x ∈ List.range m := fun x hx => List.mem_range.2 (hp x (List.mem_filter.1 hx).2)
  have := List.Nodup.length_le_of_subset h1 h2
  simpa using this
theorem lt_of_testBit {l m i : Nat} (hl : l < 2 ^ m) (hi : l.testBit i = true) : i < m := by
  apply Classical.byContradiction
  intro hn
  have h2 : l < 2 ^ i := Nat.lt_of_lt_of_le hl (Nat.pow_le_pow_right (by decide) (by omega))
  rw [Nat.testBit_lt_two_pow h2] at hi
  cases hi
theorem pop_le {l m : Nat} (hl : l < 2 ^ m) : pop l ≤ m := filter_lt_le m _ (fun i hi => lt_of_testBit hl hi) 16
/-! ### Widths -/
/-- The best of a list by its costs, and where it stood: the first that is below all ahead of it and below b. -/
def bestF (c : Nat → Nat) : List Nat → Nat × Nat → Nat × Nat
  | [], b => b
  | v :: l, b => bestF c l (if c v < b.1 then (c v, v) else b)
theorem bestF_spec (c : Nat → Nat) : ∀ (l : List Nat) (b : Nat × Nat), (bestF c l b = b ∨ ((bestF c l b).2 ∈ l ∧ (bestF c l b).1 = c (bestF c l b).2 ∧ (bestF c l b).1 < b.1)) ∧ (bestF c l b).1 ≤ b.1 ∧ ∀ v ∈ l, (bestF c l b).1 ≤ c v := by
  intro l
  induction l with
  | nil => exact fun b => ⟨.inl rfl, Nat.le_refl _, fun v hv => by cases hv⟩
  | cons v l ih =>
    intro b
    rw [bestF]
    by_cases h : c v < b.1
    · rw [if_pos h]
      obtain ⟨h1, h2, h3⟩ := ih (c v, v)
      have h2 : (bestF c l (c v, v)).1 ≤ c v := h2
      refine ⟨.inr ?_, by omega, fun u hu => ?_⟩
      · rcases h1 with h1 | ⟨h4, h5, h6⟩
        · rw [h1]; exact ⟨by simp, rfl, h⟩
        · exact ⟨by simp [h4], h5, by omega⟩
      · rcases List.mem_cons.1 hu with rfl | hu
        · exact h2
        · exact h3 u hu
    · rw [if_neg h]
      obtain ⟨h1, h2, h3⟩ := ih b
      refine ⟨h1.imp id fun ⟨h4, h5, h6⟩ => ⟨by simp [h4], h5, h6⟩, h2, fun u hu => ?_⟩
      rcases List.mem_cons.1 hu with rfl | hu
      · omega
      · exact h3 u hu
/-- A list begun elsewhere. -/
def rot (l : List Nat) (k : Nat) : List Nat := (List.range l.length).map fun i => l.getD ((i + k) % l.length) 0
theorem mem_rot (l : List Nat) (k x : Nat) : x ∈ rot l k ↔ x ∈ l := by
  unfold rot
  rw [List.mem_map]
  constructor
  · rintro ⟨i, hi, rfl⟩
    rw [List.mem_range] at hi
    have : (i + k) % l.length < l.length := Nat.mod_lt _ (by omega)
    rw [List.getD_eq_getElem?_getD, List.getElem?_eq_getElem this]
    exact List.getElem_mem _
  · intro hx
    obtain ⟨j, hj, rfl⟩ := List.getElem_of_mem hx
    have h1 : k % l.length < l.length := Nat.mod_lt _ (by omega)
    refine ⟨(j + (l.length - k % l.length)) % l.length, List.mem_range.2 (Nat.mod_lt _ (by omega)), ?_⟩
    have e : ((j + (l.length - k % l.length)) % l.length + k) % l.length = j := by
      rw [Nat.mod_add_mod, show j + (l.length - k % l.length) + k = j + (l.length - k % l.length + k) by omega]
      have h2 : (l.length - k % l.length + k) = l.length * (k / l.length + 1) := by
        have h3 := Nat.div_add_mod k l.length
        rw [Nat.mul_add, Nat.mul_one]
        omega
      rw [h2, Nat.add_mul_mod_self_left, Nat.mod_eq_of_lt hj]
    rw [e, List.getD_eq_getElem?_getD, List.getElem?_eq_getElem hj]
    rfl
/-- The least width of taking some out, and the last one (where one begins at the k-th). -/
def widF (E : List Nat) (k : Nat) : Nat → Nat → Nat × Nat
  | 0, _ => (0, 0)
  | n + 1, out => if out = 0 then (0, 0) else bestF (fun v => max (widF E k n (minus out (bit v))).1 (pop (coverN E (bagN E (minus out (bit v)) v)))) (rot (bits out) k) (9, 0)
def widN (E : List Nat) (k out : Nat) : Nat := (widF E k out out).1
def lastN (E : List Nat) (k out : Nat) : Nat := (widF E k out out).2
theorem minus_bit_lt {out v : Nat} (ho : out < 65536) (hv : out.testBit v = true) : minus out (bit v) < out := by
  have hsub : Sub (minus out (bit v)) out := fun i hi => by
    rw [testBit_minus ho (bit_lt (lt16 ho hv)), Bool.and_eq_true] at hi; exact hi.1
  have hle := hsub.le
  have hne : minus out (bit v) ≠ out := by
    intro e
    have := testBit_minus ho (bit_lt (lt16 ho hv)) v
    rw [e, hv, testBit_bit] at this
    simp at this
  omega
theorem bestF_congr {c c' : Nat → Nat} : ∀ (l : List Nat) (b : Nat × Nat), (∀ v ∈ l, c v = c' v) → bestF c l b = bestF c' l b := by
  intro l
  induction l with
  | nil => exact fun b _ => rfl
  | cons v l ih =>
    intro b h
    rw [bestF, bestF, h v (by simp), ih _ (fun u hu => h u (by simp [hu]))]
theorem widF_fuel (E : List Nat) (k : Nat) : ∀ n m out, out < 65536 → out ≤ n → out ≤ m → widF E k n out = widF E k m out := by
  intro n
  induction n with
  | zero =>
    intro m out ho h1 h2
    obtain rfl : out = 0 := by omega
    cases m with
    | zero => rfl
    | succ m => rw [widF, widF, if_pos rfl]
  | succ n ih =>
    intro m out ho h1 h2
    by_cases h0 : out = 0
    · subst h0
      cases m with
      | zero => rw [widF, widF, if_pos rfl]
      | succ m => rw [widF, widF, if_pos rfl, if_pos rfl]
    cases m with
    | zero => omega
    | succ m =>
      rw [widF, widF, if_neg h0, if_neg h0]
      apply bestF_congr
      intro v hv
      rw [mem_rot, mem_bits ho] at hv
      have hlt := minus_bit_lt ho hv
      rw [ih m (minus out (bit v)) (by omega) (by omega) (by omega)]
/-- The cost of taking v out last of some. -/
def costN (E : List Nat) (k out v : Nat) : Nat := max (widN E k (minus out (bit v))) (pop (coverN E (bagN E (minus out (bit v)) v)))
theorem widF_eq (E : List Nat) (k : Nat) {out : Nat} (ho : out < 65536) (h0 : out ≠ 0) : widF E k out out = bestF (costN E k out) (rot (bits out) k) (9, 0) := by
  obtain ⟨n, rfl⟩ : ∃ n, out = n + 1 := ⟨out - 1, by omega⟩
  rw [widF, if_neg h0]
  apply bestF_congr
  intro v hv
  rw [mem_rot, mem_bits ho] at hv
  have hlt := minus_bit_lt ho hv
  unfold costN widN
  rw [widF_fuel E k n (minus (n + 1) (bit v)) _ (by omega) (by omega) (Nat.le_refl _)]
theorem widN_zero (E : List Nat) (k : Nat) : widN E k 0 = 0 := rfl
theorem widN_le (E : List Nat) (k : Nat) (hE : E.length ≤ 8) : ∀ n out, out ≤ n → out < 65536 → widN E k out ≤ 8 ∧ (out ≠ 0 → out.testBit (lastN E k out) = true ∧ widN E k out = costN E k out (lastN E k out) ∧ ∀ v, out.testBit v = true → widN E k out ≤ costN E k out v) := by
  intro n
  induction n with
  | zero => intro out h ho; obtain rfl : out = 0 := by omega
            exact ⟨by rw [widN_zero]; decide, fun h => absurd rfl h⟩
  | succ n ih =>
    intro out h ho
    by_cases h0 : out = 0
    · subst h0; exact ⟨by rw [widN_zero]; decide, fun h => absurd rfl h⟩
    have e := widF_eq E k ho h0
    have hc : ∀ v, out.testBit v = true → costN E k out v ≤ 8 := by
      intro v hv
      have hlt := minus_bit_lt ho hv
      have h1 := (ih (minus out (bit v)) (by omega) (by omega)).1
      have h2 := pop_le (coverN_lt E (bagN E (minus out (bit v)) v))
      unfold costN
      omega
    obtain ⟨h1, h2, h3⟩ := bestF_spec (costN E k out) (rot (bits out) k) (9, 0)
    rw [← e] at h1 h2 h3
    have hne : bits out ≠ [] := fun h => h0 ((bits_nil ho).1 h)
    obtain ⟨u, hu⟩ := List.exists_mem_of_ne_nil _ hne
    have hub := (mem_bits ho).1 hu
    have h4 := h3 u ((mem_rot _ _ _).2 hu)
    have h5 := hc u hub
    rcases h1 with h1 | ⟨h6, h7, h8⟩
    · rw [h1] at h4; simp only at h4; omega
    · rw [mem_rot, mem_bits ho] at h6
      refine ⟨by unfold widN; omega, fun _ => ⟨h6, h7, fun v hv => h3 v ((mem_rot _ _ _).2 ((mem_bits ho).2 hv))⟩⟩
end Go.Proofs.Ytnocncmjdhlmkaa.hyp
