/- Another numbering of the variables, another order of the edges: the same width. Plain. -/
import Derived.Test.YtnocncmjdhlmkaaHypF
namespace Go.Proofs.Ytnocncmjdhlmkaa.hyp
set_option linter.unusedVariables false
/-- The same edges under other numbers: a's variable i is b's variable σ i. -/
structure Ren (E F : List Nat) (a b : Nat) (σ τ : Nat → Nat) : Prop where
  gE : ∀ e ∈ E, e < 65536
  gF : ∀ f ∈ F, f < 65536
  ha : a < 65536
  hb : b < 65536
  inE : ∀ e ∈ E, Sub e a
  inF : ∀ f ∈ F, Sub f b
  hσ : ∀ i, a.testBit i = true → b.testBit (σ i) = true ∧ τ (σ i) = i
  hτ : ∀ j, b.testBit j = true → a.testBit (τ j) = true ∧ σ (τ j) = j
  EF : ∀ e ∈ E, ∃ f ∈ F, ∀ i, a.testBit i = true → f.testBit (σ i) = e.testBit i
  FE : ∀ f ∈ F, ∃ e ∈ E, ∀ i, a.testBit i = true → f.testBit (σ i) = e.testBit i
section
variable {E F : List Nat} {a b : Nat} {σ τ : Nat → Nat} (h : Ren E F a b σ τ)
include h
theorem Ren.reach {A A' v : Nat} (hA : ∀ i, a.testBit i = true → A'.testBit (σ i) = true → A.testBit i = true) (hv : a.testBit v = true) {y : Nat} (hr : Reach F A' (σ v) y) : ∃ x, a.testBit x = true ∧ y = σ x ∧ Reach E A v x := by
  induction hr with
  | start => exact ⟨v, hv, rfl, .start⟩
  | @step x y f hr hAx hf hx hy ih =>
    obtain ⟨x0, hx0, rfl, hr0⟩ := ih
    obtain ⟨e, he, hef⟩ := h.FE f hf
    obtain ⟨hy1, hy2⟩ := h.hτ y (h.inF f hf y hy)
    refine ⟨τ y, hy1, hy2.symm, .step hr0 (hA x0 hx0 hAx) he (by rw [← hef x0 hx0]; exact hx) ?_⟩
    rw [← hef (τ y) hy1, hy2]
    exact hy
theorem Ren.cov {k s s' : Nat} (hs : ∀ y, s'.testBit y = true → ∃ x, a.testBit x = true ∧ y = σ x ∧ s.testBit x = true) (hc : CovK E k s) : CovK F k s' := by
  obtain ⟨L, hL, hm, hcc⟩ := hc
  have : ∀ L : List Nat, (∀ e ∈ L, e ∈ E) → ∃ M : List Nat, M.length ≤ L.length ∧ (∀ f ∈ M, f ∈ F) ∧ ∀ e ∈ L, ∃ f ∈ M, ∀ i, a.testBit i = true → f.testBit (σ i) = e.testBit i := by
    intro L
    induction L with
    | nil => exact fun _ => ⟨[], Nat.le_refl _, (fun e he => by cases he), (fun e he => by cases he)⟩
    | cons e L ih =>
      intro hL
      obtain ⟨M, h1, h2, h3⟩ := ih fun x hx => hL x (by simp [hx])
      obtain ⟨f, hf, hef⟩ := h.EF e (hL e (by simp))
      refine ⟨f :: M, by simp; omega, ?_, ?_⟩
      · intro x hx
        rcases List.mem_cons.1 hx with rfl | hx
        · exact hf
        · exact h2 x hx
      · intro x hx
        rcases List.mem_cons.1 hx with rfl | hx
        · exact ⟨f, by simp, hef⟩
        · obtain ⟨g, hg, hs⟩ := h3 x hx
          exact ⟨g, by simp [hg], hs⟩
  obtain ⟨M, h1, h2, h3⟩ := this L hm
  refine ⟨M, by omega, h2, fun y hy => ?_⟩
  obtain ⟨x, hxa, rfl, hxs⟩ := hs y hy
  obtain ⟨e, he, hex⟩ := hcc x hxs
  obtain ⟨f, hf, hef⟩ := h3 e he
  exact ⟨f, hf, by rw [hef x hxa]; exact hex⟩
theorem Ren.wp {k out : Nat} (hw : WP E k out) : out < 65536 → Sub out a → ∀ out', out' < 65536 → Sub out' b → (∀ i, a.testBit i = true → out'.testBit (σ i) = out.testBit i) → WP F k out' := by
  induction hw with
  | nil =>
    intro _ _ out' ho' hs' he
    have : out' = 0 := by
      apply Nat.eq_of_testBit_eq
      intro j
      rw [Nat.zero_testBit]
      apply Bool.eq_false_iff.2
      intro hj
      obtain ⟨h1, h2⟩ := h.hτ j (hs' j hj)
      have := he _ h1
      rw [h2, hj, Nat.zero_testBit] at this
      cases this
    rw [this]
    exact .nil
  | @step out v hv hr hc ih =>
    intro ho hs out' ho' hs' he
    have hva := hs v hv
    have hv16 := lt16 ho hv
    obtain ⟨hvb, hvt⟩ := h.hσ v hva
    have hv' : out'.testBit (σ v) = true := by rw [he v hva]; exact hv
    have hw16 := lt16 ho' hv'
    have hr1 := minus_lt out (bit v) ho
    have hr2 := minus_lt out' (bit (σ v)) ho'
    have hsub1 : Sub (minus out (bit v)) a := fun x hx => by
      rw [testBit_minus ho (bit_lt hv16), Bool.and_eq_true] at hx
      exact hs x hx.1
    have hsub2 : Sub (minus out' (bit (σ v))) b := fun x hx => by
      rw [testBit_minus ho' (bit_lt hw16), Bool.and_eq_true] at hx
      exact hs' x hx.1
    have hinj : ∀ i, a.testBit i = true → (σ v = σ i ↔ v = i) := fun i hi => by
      constructor
      · intro e
        rw [← hvt, e, (h.hσ i hi).2]
      · intro e; rw [e]
    have heq : ∀ i, a.testBit i = true → (minus out' (bit (σ v))).testBit (σ i) = (minus out (bit v)).testBit i := fun i hi => by
      rw [testBit_minus ho' (bit_lt hw16), testBit_minus ho (bit_lt hv16), testBit_bit, testBit_bit, he i hi]
      congr 2
      exact decide_eq_decide.2 (hinj i hi)
    refine .step (v := σ v) hv' (ih hr1 hsub1 _ hr2 hsub2 heq) ?_
    refine h.cov ?_ hc
    intro y hy
    rw [bagN_iff h.gF hr2 hw16] at hy
    have hsub : ∀ i, a.testBit i = true → (minus out' (bit (σ v)) ||| bit (σ v)).testBit (σ i) = true → (minus out (bit v) ||| bit v).testBit i = true := by
      intro i hi hA
      rw [Nat.testBit_or, testBit_bit, Bool.or_eq_true] at hA ⊢
      rcases hA with hA | hA
      · exact .inl (by rw [← heq i hi]; exact hA)
      · exact .inr (by simpa using (hinj i hi).1 (by simpa using hA))
    obtain ⟨x, hxa, rfl, hr⟩ := h.reach hsub hva hy.1
    exact ⟨x, hxa, rfl, (bagN_iff h.gE hr1 hv16 x).2 ⟨hr, by rw [← heq x hxa]; exact hy.2⟩⟩
end
end Go.Proofs.Ytnocncmjdhlmkaa.hyp
