/- Plain: sets in bits, what one comes to from a variable, the fewest edges that cover. -/
import Derived.IntWalk
namespace Go.Proofs.Ytnocncmjdhlmkaa.hyp
set_option linter.unusedVariables false
set_option linter.unusedSimpArgs false
/-! ### Sets in bits -/
def Sub (s t : Nat) : Prop := ∀ i, s.testBit i = true → t.testBit i = true
theorem Sub.refl (s : Nat) : Sub s s := fun _ h => h
theorem Sub.trans {s t u : Nat} (h : Sub s t) (k : Sub t u) : Sub s u := fun i hi => k i (h i hi)
theorem Sub.antisymm {s t : Nat} (h : Sub s t) (k : Sub t s) : s = t := Nat.eq_of_testBit_eq fun i => by
  cases hs : s.testBit i
  · cases ht : t.testBit i
    · rfl
    · rw [k i ht] at hs; cases hs
  · exact (h i hs).symm
theorem Sub.or_left (s t : Nat) : Sub s (s ||| t) := fun i h => by rw [Nat.testBit_or, h]; rfl
theorem Sub.or_right (s t : Nat) : Sub t (s ||| t) := fun i h => by rw [Nat.testBit_or, h, Bool.or_true]
theorem Sub.or {s t u : Nat} (h : Sub s u) (k : Sub t u) : Sub (s ||| t) u := fun i hi => by
  rw [Nat.testBit_or, Bool.or_eq_true] at hi
  exact hi.elim (h i) (k i)
theorem Sub.le {s t : Nat} (h : Sub s t) : s ≤ t := by
  have e : s ||| t = t := Sub.antisymm (Sub.or h (Sub.refl t)) (Sub.or_right s t)
  rw [← e]; exact Nat.left_le_or
theorem and_ne {s t : Nat} : s &&& t ≠ 0 ↔ ∃ i, s.testBit i = true ∧ t.testBit i = true := by
  constructor
  · intro h
    apply Classical.byContradiction
    intro hn
    apply h
    apply Nat.eq_of_testBit_eq
    intro i
    rw [Nat.testBit_and, Nat.zero_testBit]
    cases hs : s.testBit i
    · rfl
    · cases ht : t.testBit i
      · rfl
      · exact absurd ⟨i, hs, ht⟩ hn
  · rintro ⟨i, hs, ht⟩ h
    have := congrArg (fun n => n.testBit i) h
    simp [Nat.testBit_and, hs, ht] at this
/-- s without what stands in t (t within sixteen bits). -/
def minus (s t : Nat) : Nat := s &&& (65535 - t)
theorem testBit_comp (t i : Nat) (h : t < 65536) : (65535 - t).testBit i = (decide (i < 16) && !t.testBit i) := by
  have := Nat.testBit_two_pow_sub_succ (x := t) (n := 16) (by simpa using h) i
  rw [show (2 ^ 16 - (t + 1) : Nat) = 65535 - t by omega] at this
  exact this
theorem lt16 {s i : Nat} (h : s < 65536) (hi : s.testBit i = true) : i < 16 := by
  apply Classical.byContradiction
  intro hn
  have h2 : s < 2 ^ i := Nat.lt_of_lt_of_le h (by rw [show (65536 : Nat) = 2 ^ 16 from rfl]; exact Nat.pow_le_pow_right (by decide) (by omega))
  rw [Nat.testBit_lt_two_pow h2] at hi
  cases hi
theorem testBit_minus {s t : Nat} (hs : s < 65536) (ht : t < 65536) (i : Nat) : (minus s t).testBit i = (s.testBit i && !t.testBit i) := by
  unfold minus
  rw [Nat.testBit_and, testBit_comp t i ht]
  cases h : s.testBit i
  · rfl
  · rw [decide_eq_true (lt16 hs h)]; rfl
theorem minus_lt (s t : Nat) (h : s < 65536) : minus s t < 65536 := Nat.lt_of_le_of_lt Nat.and_le_left h
theorem or_lt {s t : Nat} (hs : s < 65536) (ht : t < 65536) : s ||| t < 65536 := Nat.or_lt_two_pow (n := 16) hs ht
def bit (v : Nat) : Nat := 2 ^ v
theorem bit_lt {v : Nat} (h : v < 16) : bit v < 65536 := by
  unfold bit; rw [show (65536 : Nat) = 2 ^ 16 from rfl]; exact Nat.pow_lt_pow_right (by decide) h
theorem testBit_bit (v i : Nat) : (bit v).testBit i = decide (v = i) := by unfold bit; rw [Nat.testBit_two_pow]
theorem minus_zero {s t : Nat} (hs : s < 65536) (ht : t < 65536) : minus s t = 0 ↔ Sub s t := by
  constructor
  · intro h i hi
    have := testBit_minus hs ht i
    rw [h, Nat.zero_testBit, hi] at this
    simpa using this.symm
  · intro h
    apply Nat.eq_of_testBit_eq
    intro i
    rw [testBit_minus hs ht, Nat.zero_testBit]
    cases hi : s.testBit i
    · rfl
    · rw [h i hi]; rfl
/-! ### Where one comes to -/
/-- What one comes to from v, by edges, through what stands in A. -/
inductive Reach (E : List Nat) (A v : Nat) : Nat → Prop
  | start : Reach E A v v
  | step {x y e : Nat} (h : Reach E A v x) (hA : A.testBit x = true) (he : e ∈ E) (hx : e.testBit x = true) (hy : e.testBit y = true) : Reach E A v y
/-- One time over all edges. -/
def pass (E : List Nat) (A s : Nat) : Nat := E.foldl (fun s e => if e &&& s &&& A = 0 then s else s ||| e) s
theorem pass_nil (A s : Nat) : pass [] A s = s := rfl
theorem pass_cons (e : Nat) (E : List Nat) (A s : Nat) : pass (e :: E) A s = pass E A (if e &&& s &&& A = 0 then s else s ||| e) := rfl
theorem pass_sub (E : List Nat) (A : Nat) : ∀ s, Sub s (pass E A s) := by
  induction E with
  | nil => exact fun s => Sub.refl s
  | cons e E ih =>
    intro s
    rw [pass_cons]
    refine Sub.trans ?_ (ih _)
    split
    · exact Sub.refl s
    · exact Sub.or_left s e
theorem pass_lt (A : Nat) : ∀ (E : List Nat) (s : Nat), (∀ e ∈ E, e < 65536) → s < 65536 → pass E A s < 65536 := by
  intro E
  induction E with
  | nil => exact fun s _ h => h
  | cons e E ih =>
    intro s hE hs
    rw [pass_cons]
    apply ih _ (fun x hx => hE x (by simp [hx]))
    split
    · exact hs
    · exact or_lt hs (hE e (by simp))
theorem pass_sound {E : List Nat} {A v : Nat} : ∀ (F : List Nat) (s : Nat), (∀ e ∈ F, e ∈ E) → (∀ i, s.testBit i = true → Reach E A v i) → ∀ i, (pass F A s).testBit i = true → Reach E A v i := by
  intro F
  induction F with
  | nil => exact fun s _ h => h
  | cons e F ih =>
    intro s hF hs
    rw [pass_cons]
    apply ih _ (fun x hx => hF x (by simp [hx]))
    split
    · exact hs
    · rename_i hne
      intro i hi
      rw [Nat.testBit_or, Bool.or_eq_true] at hi
      rcases hi with hi | hi
      · exact hs i hi
      · obtain ⟨j, hj, hA⟩ := and_ne.1 hne
        rw [Nat.testBit_and, Bool.and_eq_true] at hj
        exact .step (hs j hj.2) hA (hF e (by simp)) hj.1 hi
def Closed (E : List Nat) (A s : Nat) : Prop := ∀ e ∈ E, ∀ x, e.testBit x = true → s.testBit x = true → A.testBit x = true → Sub e s
theorem pass_fix (A : Nat) : ∀ (E : List Nat) (s : Nat), pass E A s = s → Closed E A s := by
  intro E
  induction E with
  | nil => intro s _ e he; cases he
  | cons e E ih =>
    intro s h
    rw [pass_cons] at h
    have hsub := pass_sub E A (if e &&& s &&& A = 0 then s else s ||| e)
    rw [h] at hsub
    have he : (if e &&& s &&& A = 0 then s else s ||| e) = s := by
      apply Sub.antisymm hsub
      split
      · exact Sub.refl s
      · exact Sub.or_left s e
    rw [he] at h
    intro f hf x hx hs hA
    rcases List.mem_cons.1 hf with rfl | hf
    · have hne : f &&& s &&& A ≠ 0 := and_ne.2 ⟨x, by rw [Nat.testBit_and, hx, hs]; rfl, hA⟩
      rw [if_neg hne] at he
      rw [← he]
      exact Sub.or_right s f
    · exact ih s h f hf x hx hs hA
theorem closed_all {E : List Nat} {A v s : Nat} (hv : s.testBit v = true) (hc : Closed E A s) {i : Nat} (h : Reach E A v i) : s.testBit i = true := by
  induction h with
  | start => exact hv
  | step h hA he hx hy ih => exact hc _ he _ hx ih hA _ hy
/-- s is what one comes to from v. -/
def IsClos (E : List Nat) (A v s : Nat) : Prop := ∀ i, s.testBit i = true ↔ Reach E A v i
theorem IsClos.eq {E : List Nat} {A v s t : Nat} (h : IsClos E A v s) (k : IsClos E A v t) : s = t :=
  Sub.antisymm (fun i hi => (k i).2 ((h i).1 hi)) (fun i hi => (h i).2 ((k i).1 hi))
theorem IsClos.of {E : List Nat} {A v s : Nat} (hv : s.testBit v = true) (hs : ∀ i, s.testBit i = true → Reach E A v i) (h : pass E A s = s) : IsClos E A v s :=
  fun i => ⟨hs i, closed_all hv (pass_fix A E s h)⟩
/-- The passes till nothing comes. -/
def clos (E : List Nat) (A : Nat) : Nat → Nat → Nat
  | 0, s => s
  | n + 1, s => if pass E A s = s then s else clos E A n (pass E A s)
theorem clos_fix (E : List Nat) (A : Nat) (hE : ∀ e ∈ E, e < 65536) : ∀ n s, s < 65536 → 65536 ≤ n + s → pass E A (clos E A n s) = clos E A n s := by
  intro n
  induction n with
  | zero => intro s h1 h2; omega
  | succ n ih =>
    intro s h1 h2
    rw [clos]
    split
    · assumption
    · rename_i hne
      have hlt := pass_lt A E s hE h1
      have hle := (pass_sub E A s).le
      exact ih _ hlt (by omega)
theorem clos_sound {E : List Nat} {A v : Nat} : ∀ n s, (∀ i, s.testBit i = true → Reach E A v i) → ∀ i, (clos E A n s).testBit i = true → Reach E A v i := by
  intro n
  induction n with
  | zero => exact fun s h => h
  | succ n ih =>
    intro s h
    rw [clos]
    split
    · exact h
    · exact ih _ (pass_sound E s (fun _ h => h) h)
theorem clos_sub (E : List Nat) (A : Nat) : ∀ n s, Sub s (clos E A n s) := by
  intro n
  induction n with
  | zero => exact fun s => Sub.refl s
  | succ n ih =>
    intro s
    rw [clos]
    split
    · exact Sub.refl s
    · exact Sub.trans (pass_sub E A s) (ih _)
theorem clos_lt (E : List Nat) (A : Nat) (hE : ∀ e ∈ E, e < 65536) : ∀ n s, s < 65536 → clos E A n s < 65536 := by
  intro n
  induction n with
  | zero => exact fun s h => h
  | succ n ih =>
    intro s h
    rw [clos]
    split
    · exact h
    · exact ih _ (pass_lt A E s hE h)
/-- All that one comes to from v, through what is out and v. -/
def seen (E : List Nat) (out v : Nat) : Nat := clos E (out ||| bit v) 65536 (bit v)
theorem start_sound {E : List Nat} {A v : Nat} : ∀ i, (bit v).testBit i = true → Reach E A v i := by
  intro i hi
  rw [testBit_bit, decide_eq_true_eq] at hi
  subst hi
  exact .start
theorem seen_is {E : List Nat} {out v : Nat} (hE : ∀ e ∈ E, e < 65536) (hv : v < 16) : IsClos E (out ||| bit v) v (seen E out v) :=
  .of (clos_sub E _ _ _ v (by rw [testBit_bit]; simp)) (clos_sound _ _ start_sound) (clos_fix E _ hE _ _ (bit_lt hv) (by omega))
theorem seen_lt {E : List Nat} {out v : Nat} (hE : ∀ e ∈ E, e < 65536) (hv : v < 16) : seen E out v < 65536 := clos_lt E _ hE _ _ (bit_lt hv)
/-- The bag of v where some are out: v, and those that are in and that one comes to. -/
def bagN (E : List Nat) (out v : Nat) : Nat := minus (seen E out v) out
theorem bagN_lt {E : List Nat} {out v : Nat} (hE : ∀ e ∈ E, e < 65536) (hv : v < 16) : bagN E out v < 65536 := minus_lt _ _ (seen_lt hE hv)
theorem bagN_iff {E : List Nat} {out v : Nat} (hE : ∀ e ∈ E, e < 65536) (ho : out < 65536) (hv : v < 16) (i : Nat) : (bagN E out v).testBit i = true ↔ Reach E (out ||| bit v) v i ∧ out.testBit i = false := by
  unfold bagN
  rw [testBit_minus (seen_lt hE hv) ho, Bool.and_eq_true, seen_is hE hv i]
  simp
/-! ### Covers -/
def pop (s : Nat) : Nat := ((List.range 16).filter fun i => s.testBit i).length
/-- The variables of the edges of l, where the first edge has the number k. -/
def unionF : List Nat → Nat → Nat → Nat
  | [], _, _ => 0
  | e :: E, k, l => (if l.testBit k then e else 0) ||| unionF E (k + 1) l
def unionN (E : List Nat) (l : Nat) : Nat := unionF E 0 l
/-- The best of the first n sets of edges; b where there is none better. -/
def coverF (E : List Nat) (s b : Nat) : Nat → Nat
  | 0 => b
  | n + 1 => let c := coverF E s b n; if pop n < pop c ∧ minus s (unionN E n) = 0 then n else c
def coverN (E : List Nat) (s : Nat) : Nat := coverF E s (2 ^ E.length - 1) (2 ^ E.length)
end Go.Proofs.Ytnocncmjdhlmkaa.hyp
