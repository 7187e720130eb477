/- Plain: widths by ways to take variables out; what changes nothing. -/
import Derived.Test.YtnocncmjdhlmkaaHypD
namespace Go.Proofs.Ytnocncmjdhlmkaa.hyp
set_option linter.unusedVariables false
set_option linter.unusedSimpArgs false
/-- So many edges at most cover s. -/
def CovK (E : List Nat) (k s : Nat) : Prop := ∃ l : List Nat, l.length ≤ k ∧ (∀ e ∈ l, e ∈ E) ∧ ∀ x, s.testBit x = true → ∃ e ∈ l, e.testBit x = true
theorem pop_or_bit (m i : Nat) : pop (m ||| bit i) ≤ pop m + 1 := by
  have h1 : (bits (m ||| bit i)).Nodup := List.Pairwise.filter _ List.nodup_range
  have h2 : ∀ x ∈ bits (m ||| bit i), x ∈ i :: bits m := by
    intro x hx
    obtain ⟨h3, h4⟩ := bits_lt hx
    rw [Nat.testBit_or, testBit_bit, Bool.or_eq_true] at h4
    rcases h4 with h4 | h4
    · refine List.mem_cons_of_mem _ ?_
      unfold bits
      rw [List.mem_filter, List.mem_range]
      exact ⟨h3, h4⟩
    · have : i = x := by simpa using h4
      simp [this]
  have := List.Nodup.length_le_of_subset h1 h2
  simpa [pop_eq] using this
theorem covK_of_pop {E : List Nat} {s k : Nat} (hE : ∀ e ∈ E, e < 65536) (hlen : E.length ≤ 8) (hs : s < 65536) (hv : ∀ i, s.testBit i = true → ∃ e ∈ E, e.testBit i = true) (h : pop (coverN E s) ≤ k) : CovK E k s := by
  obtain ⟨h1, h2, -⟩ := coverN_spec hE hs hv
  refine ⟨(bits (coverN E s)).map fun j => E.getD j 0, by rw [List.length_map]; exact h, ?_, ?_⟩
  · intro e he
    obtain ⟨j, hj, rfl⟩ := List.mem_map.1 he
    have hj2 := lt_of_testBit h1 (bits_lt hj).2
    rw [List.getD_eq_getElem?_getD, List.getElem?_eq_getElem hj2]
    exact List.getElem_mem _
  · intro x hx
    obtain ⟨j, e, h3, h4, h5⟩ := (unionN_iff _ _ _).1 (h2 x hx)
    have hj := lt_of_testBit h1 h4
    refine ⟨e, List.mem_map.2 ⟨j, ?_, by rw [List.getD_eq_getElem?_getD, h3]; rfl⟩, h5⟩
    unfold bits
    rw [List.mem_filter, List.mem_range]
    exact ⟨by omega, h4⟩
/-- The edges of a list as a set of numbers. -/
def maskE (E : List Nat) : List Nat → Nat
  | [] => 0
  | e :: l => maskE E l ||| bit (E.idxOf e)
theorem maskE_spec (E : List Nat) : ∀ l : List Nat, (∀ e ∈ l, e ∈ E) → maskE E l < 2 ^ E.length ∧ pop (maskE E l) ≤ l.length ∧ ∀ e ∈ l, Sub e (unionN E (maskE E l)) := by
  intro l
  induction l with
  | nil => exact fun _ => ⟨Nat.pow_pos (by decide), (by decide : pop 0 ≤ 0), (fun e he => by cases he)⟩
  | cons e l ih =>
    intro hl
    obtain ⟨h1, h2, h3⟩ := ih (fun x hx => hl x (by simp [hx]))
    have hi : E.idxOf e < E.length := List.idxOf_lt_length_of_mem (hl e (by simp))
    refine ⟨Nat.or_lt_two_pow h1 (by unfold bit; exact Nat.pow_lt_pow_right (by decide) hi), ?_, ?_⟩
    · have := pop_or_bit (maskE E l) (E.idxOf e)
      rw [maskE, List.length_cons]; omega
    · intro f hf x hx
      rw [unionN_iff]
      rcases List.mem_cons.1 hf with rfl | hf
      · refine ⟨E.idxOf f, f, ?_, ?_, hx⟩
        · rw [List.getElem?_eq_getElem hi, List.getElem_idxOf hi]
        · rw [maskE, Nat.testBit_or, testBit_bit]; simp
      · obtain ⟨j, e2, h4, h5, h6⟩ := (unionN_iff _ _ _).1 (h3 f hf x hx)
        exact ⟨j, e2, h4, by rw [maskE, Nat.testBit_or, h5]; rfl, h6⟩
theorem pop_of_covK {E : List Nat} {s k : Nat} (hE : ∀ e ∈ E, e < 65536) (hs : s < 65536) (h : CovK E k s) : pop (coverN E s) ≤ k := by
  obtain ⟨l, hl, hm, hc⟩ := h
  obtain ⟨h1, h2, h3⟩ := maskE_spec E l hm
  have hv : ∀ i, s.testBit i = true → ∃ e ∈ E, e.testBit i = true := fun i hi => by
    obtain ⟨e, he, hx⟩ := hc i hi
    exact ⟨e, hm e he, hx⟩
  have := (coverN_spec hE hs hv).2.2 _ h1 (fun x hx => by
    obtain ⟨e, he, h4⟩ := hc x hx
    exact h3 e he x h4)
  omega
/-- Some can be taken out, each bag covered by so many edges at most. -/
inductive WP (E : List Nat) (k : Nat) : Nat → Prop
  | nil : WP E k 0
  | step {out v : Nat} (hv : out.testBit v = true) (hr : WP E k (minus out (bit v))) (hc : CovK E k (bagN E (minus out (bit v)) v)) : WP E k out
section
variable {E : List Nat} {all : Nat} (g : Good E all)
include g
theorem bag_in {out v : Nat} (ho : Sub out all) (hol : out < 65536) (hv : out.testBit v = true) : ∀ i, (bagN E (minus out (bit v)) v).testBit i = true → ∃ e ∈ E, e.testBit i = true := by
  intro i hi
  have h16 := lt16 hol hv
  rcases ((bagN_iff g.hE (minus_lt _ _ hol) h16 i).1 hi).1.edge with rfl | h
  · exact (g.hcov i).1 (ho i hv)
  · exact h
theorem wid_iff (turn k : Nat) : ∀ n out, out ≤ n → out < 65536 → Sub out all → (widN E turn out ≤ k ↔ WP E k out) := by
  intro n
  induction n with
  | zero =>
    intro out h _ _
    obtain rfl : out = 0 := by omega
    exact ⟨fun _ => .nil, fun _ => Nat.zero_le _⟩
  | succ n ih =>
    intro out h hol ho
    by_cases h0 : out = 0
    · subst h0; exact ⟨fun _ => .nil, fun _ => Nat.zero_le _⟩
    obtain ⟨hin, heq, hmin⟩ := (widN_le E turn g.hlen out out (Nat.le_refl _) hol).2 h0
    have hsub : ∀ v, out.testBit v = true → Sub (minus out (bit v)) all := fun v hv x hx => by
      rw [testBit_minus hol (bit_lt (lt16 hol hv)), Bool.and_eq_true] at hx
      exact ho x hx.1
    constructor
    · intro hw
      rw [heq] at hw
      unfold costN at hw
      have hlt := minus_bit_lt hol hin
      refine .step hin ((ih _ (by omega) (minus_lt _ _ hol) (hsub _ hin)).1 (by omega)) ?_
      exact covK_of_pop g.hE g.hlen (bagN_lt g.hE (lt16 hol hin)) (bag_in g ho hol hin) (by omega)
    · intro hw
      cases hw with
      | nil => exact absurd rfl h0
      | step hv hr hc =>
        rename_i v
        have hlt := minus_bit_lt hol hv
        have h1 := (ih _ (by omega) (minus_lt _ _ hol) (hsub _ hv)).2 hr
        have h2 := pop_of_covK g.hE (bagN_lt g.hE (lt16 hol hv)) hc
        have h3 := hmin v hv
        unfold costN at h3
        omega
/-- The width is at most the number of edges. -/
theorem wid_edges (turn : Nat) : widN E turn all ≤ E.length := by
  rw [wid_iff g turn E.length all all (Nat.le_refl _) g.hall (Sub.refl _)]
  have h : ∀ n out, out ≤ n → out < 65536 → Sub out all → WP E E.length out := by
    intro n
    induction n with
    | zero => intro out h _ _; obtain rfl : out = 0 := by omega
              exact .nil
    | succ n ih =>
      intro out h hol ho
      by_cases h0 : out = 0
      · subst h0; exact .nil
      obtain ⟨v, hv⟩ : ∃ v, out.testBit v = true := by
        have : bits out ≠ [] := fun e => h0 ((bits_nil hol).1 e)
        obtain ⟨v, hv⟩ := List.exists_mem_of_ne_nil _ this
        exact ⟨v, (mem_bits hol).1 hv⟩
      have hlt := minus_bit_lt hol hv
      refine .step hv (ih _ (by omega) (minus_lt _ _ hol) fun x hx => ?_) ⟨E, Nat.le_refl _, fun _ h => h, bag_in g ho hol hv⟩
      rw [testBit_minus hol (bit_lt (lt16 hol hv)), Bool.and_eq_true] at hx
      exact ho x hx.1
  exact h _ _ (Nat.le_refl _) g.hall (Sub.refl _)
end
/-- Two lists of edges, each edge of the one within one of the other. -/
def Within (E F : List Nat) : Prop := ∀ e ∈ E, e = 0 ∨ ∃ f ∈ F, Sub e f
theorem Reach.within {E F : List Nat} {A v x : Nat} (hw : Within E F) (h : Reach E A v x) : Reach F A v x := by
  induction h with
  | start => exact .start
  | step h hA he hx hy ih =>
    rcases hw _ he with rfl | ⟨f, hf, hs⟩
    · rw [Nat.zero_testBit] at hx; cases hx
    · exact .step ih hA hf (hs _ hx) (hs _ hy)
theorem bag_within {E F : List Nat} (hE : ∀ e ∈ E, e < 65536) (hF : ∀ e ∈ F, e < 65536) (h1 : Within E F) (h2 : Within F E) {out v : Nat} (ho : out < 65536) (hv : v < 16) : bagN E out v = bagN F out v := by
  apply Sub.antisymm
  · intro i hi
    rw [bagN_iff hE ho hv] at hi
    rw [bagN_iff hF ho hv]
    exact ⟨hi.1.within h1, hi.2⟩
  · intro i hi
    rw [bagN_iff hF ho hv] at hi
    rw [bagN_iff hE ho hv]
    exact ⟨hi.1.within h2, hi.2⟩
theorem CovK.within {E F : List Nat} {k s : Nat} (h1 : Within E F) (h : CovK E k s) : CovK F k s := by
  obtain ⟨l, hl, hm, hc⟩ := h
  have : ∀ l : List Nat, (∀ e ∈ l, e ∈ E) → ∃ m : List Nat, m.length ≤ l.length ∧ (∀ e ∈ m, e ∈ F) ∧ ∀ e ∈ l, e = 0 ∨ ∃ f ∈ m, Sub e f := by
    intro l
    induction l with
    | nil => exact fun _ => ⟨[], Nat.le_refl _, (fun e he => by cases he), (fun e he => by cases he)⟩
    | cons e l ih =>
      intro hl
      obtain ⟨m, h2, h3, h4⟩ := ih (fun x hx => hl x (by simp [hx]))
      rcases h1 e (hl e (by simp)) with rfl | ⟨f, hf, hs⟩
      · refine ⟨m, by simp; omega, h3, fun x hx => ?_⟩
        rcases List.mem_cons.1 hx with rfl | hx
        · exact .inl rfl
        · exact h4 x hx
      · refine ⟨f :: m, by simp; omega, fun x hx => ?_, fun x hx => ?_⟩
        · rcases List.mem_cons.1 hx with rfl | hx
          · exact hf
          · exact h3 x hx
        · rcases List.mem_cons.1 hx with rfl | hx
          · exact .inr ⟨f, by simp, hs⟩
          · rcases h4 x hx with h | ⟨f2, h5, h6⟩
            · exact .inl h
            · exact .inr ⟨f2, by simp [h5], h6⟩
  obtain ⟨m, h2, h3, h4⟩ := this l hm
  refine ⟨m, by omega, h3, fun x hx => ?_⟩
  obtain ⟨e, he, hex⟩ := hc x hx
  rcases h4 e he with rfl | ⟨f, hf, hs⟩
  · rw [Nat.zero_testBit] at hex; cases hex
  · exact ⟨f, hf, hs x hex⟩
/-- Edges within others change nothing. -/
theorem WP.within {E F : List Nat} (hE : ∀ e ∈ E, e < 65536) (hF : ∀ e ∈ F, e < 65536) (h1 : Within E F) (h2 : Within F E) {k out : Nat} (ho : out < 65536) (h : WP E k out) : WP F k out := by
  induction h with
  | nil => exact .nil
  | step hv hr hc ih =>
    refine .step hv (ih (minus_lt _ _ ho)) ?_
    rw [← bag_within hE hF h1 h2 (minus_lt _ _ ho) (lt16 ho hv)]
    exact hc.within h1
end Go.Proofs.Ytnocncmjdhlmkaa.hyp
