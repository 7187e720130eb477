/- Plain: what a canonical decimal's text reads as, and that the texts that may be are just the canonical ones. -/
import Derived.Test.YthecgifgjagmaaaGreatDoorDecCheck
namespace Go.Proofs.YthecgifgjagmaaaGreatDoor.dec
set_option linter.unusedVariables false

theorem trimR_trimR (l : List UInt8) : trimR (trimR l) = trimR l := by
  unfold trimR
  rw [List.reverse_reverse]
  congr 1
  generalize l.reverse = m
  induction m with
  | nil => rfl
  | cons a m ih =>
    by_cases h : (a == 48) = true
    · rw [List.dropWhile_cons_of_pos (p := fun x => x == 48) h]; exact ih
    · rw [List.dropWhile_cons_of_neg (p := fun x => x == 48) h, List.dropWhile_cons_of_neg (p := fun x => x == 48) h]
theorem frac_self (k r : Nat) : frac (frac k r).length (val (frac k r)) = frac k r := by
  have h := trimR_eq (frac_allD k r)
  rw [← h]
  exact trimR_trimR _
theorem hz_aux (N q v a b c B : Nat) (hdm : a * q + v * b = N) (ha : 0 < a) (hb : 0 < b) (hc : 0 < c) (hB : 0 < B) : N = 0 ↔ q * B + v * c = 0 := by
  subst hdm
  rw [Nat.add_eq_zero_iff, Nat.add_eq_zero_iff, Nat.mul_eq_zero, Nat.mul_eq_zero, Nat.mul_eq_zero, Nat.mul_eq_zero]
  omega
theorem lt_aux (q x A B : Nat) (hq : q < A) (hx : x < B) : q * B + x < A * B := by
  have := Nat.mul_le_mul_right B (show q + 1 ≤ A from hq)
  rw [Nat.succ_mul] at this
  omega
theorem places (K N sc : Nat) (hK : (frac sc N).length ≤ K) (X : Nat) (hX : X = N / 10 ^ sc * 10 ^ K + val (frac sc N) * 10 ^ (K - (frac sc N).length)) :
    X / 10 ^ K = N / 10 ^ sc ∧ frac K X = frac sc N ∧ (N = 0 ↔ X = 0) ∧ ∃ y, X = N / 10 ^ sc * 10 ^ K + y ∧ y < 10 ^ K := by
  have p10 : ∀ k, 0 < 10 ^ k := fun k => Nat.pow_pos (by decide)
  have hself := frac_self sc N
  have hval := frac_val sc N
  have hlt := val_lt (frac_allD sc N)
  generalize frac sc N = p at *
  have e1 := frac_more p.length (K - p.length) (val p)
  rw [hself, show p.length + (K - p.length) = K by omega] at e1
  have hp : val p * 10 ^ (K - p.length) < 10 ^ K := by
    have h := Nat.mul_lt_mul_of_pos_right hlt (p10 (K - p.length))
    rwa [← Nat.pow_add, show p.length + (K - p.length) = K by omega] at h
  have hdm := Nat.div_add_mod N (10 ^ sc)
  rw [← hval] at hdm
  have hz := hz_aux N (N / 10 ^ sc) (val p) (10 ^ sc) (10 ^ (sc - p.length)) (10 ^ (K - p.length)) (10 ^ K) hdm (p10 _) (p10 _) (p10 _) (p10 _)
  refine ⟨?_, ?_, by rw [hX]; exact hz, _, hX, hp⟩
  · rw [hX, Nat.add_comm, Nat.add_mul_div_right _ _ (p10 K), Nat.div_eq_of_lt hp, Nat.zero_add]
  · rw [hX, ← frac_mod, Nat.add_comm, Nat.add_mul_mod_self_right, frac_mod, e1]
/-- At twenty places or fewer, what was told is canonical. -/
theorem told_canon (neg : Bool) (N sc : Nat) (t : List UInt8) (h : told neg N sc = some t) : ∃ z, small z ∧ t = canon z := by
  unfold told at h
  by_cases hc : 40 < (digs (N / 10 ^ sc)).length ∨ 20 < (frac sc N).length
  · rw [if_pos hc] at h; cases h
  · rw [if_neg hc] at h
    have hc1 : (digs (N / 10 ^ sc)).length ≤ 40 := by omega
    have hc2 : (frac sc N).length ≤ 20 := by omega
    obtain ⟨d1, d2, d3, y, d4, d5⟩ := places 20 N sc hc2 _ rfl
    have hw := (digs_lt _ _).1 hc1
    generalize N / 10 ^ sc * 10 ^ 20 + val (frac sc N) * 10 ^ (20 - (frac sc N).length) = X at *
    refine ⟨signed neg X, ?_, ?_⟩
    · unfold small top
      rw [signed_natAbs, d4, show 10 ^ 60 = 10 ^ 40 * 10 ^ 20 from rfl]
      exact lt_aux _ _ _ _ hw d5
    · unfold canon
      have e : (neg && decide (X ≠ 0)) = (neg && decide (N ≠ 0)) := by simp only [ne_eq, d3]
      rw [signed_natAbs, signed_neg, d1, d2, e]
      exact (Option.some.inj h).symm

theorem index_dot (W P : List UInt8) (h : allD W = true) : Lib.index (W ++ 46 :: P) [46] = (W.length : Int) := by
  induction W with
  | nil => simp [Lib.index, List.isPrefixOf]
  | cons c W ih =>
    rw [allD_cons, Bool.and_eq_true] at h
    have hc : c ≠ 46 := by intro e; subst e; exact absurd h.1 (by decide)
    have hp : [46].isPrefixOf (c :: (W ++ 46 :: P)) = false := by simp [List.isPrefixOf]; exact fun e => hc e.symm
    rw [List.cons_append, Lib.index, ih h.2, hp]
    have : ((W.length : Int) == -1) = false := by simp
    simp [this]
theorem cut_dot (W P : List UInt8) (h : allD W = true) : Lib.cut (W ++ 46 :: P) [46] = (W, P, true) := by
  unfold Lib.cut
  rw [index_dot W P h, if_pos (by omega)]
  simp
def orZero (l : List UInt8) : List UInt8 := if l = [] then [48] else l
theorem orZero_allD {l : List UInt8} (h : allD l = true) : allD (orZero l) = true := by unfold orZero; split; decide; exact h
theorem orZero_numB {l : List UInt8} (h : allD l = true) : numB (orZero l) = true := by
  unfold numB; rw [orZero_allD h]; unfold orZero; split
  · rfl
  · rename_i h0; cases l with
    | nil => exact absurd rfl h0
    | cons c l => rfl
theorem orZero_val (l : List UInt8) : val (orZero l) = val l := by unfold orZero; split; · rename_i h; subst h; rfl
                                                                   · rfl
theorem fmt_eq (neg : Bool) (w p : List UInt8) : fmt neg w p = (if neg then [45] else []) ++ (orZero w ++ 46 :: orZero p) := by
  unfold fmt orZero; simp
/-- What stands behind the sign, of a sign and an amount of so many places. -/
theorem readT_fmt (neg neg' : Bool) (w p : List UInt8) (hw : allD w = true) (hp : allD p = true) :
    readT neg (orZero w ++ 46 :: orZero p) = toldP neg (val (orZero w ++ orZero p)) (orZero p).length := by
  unfold readT
  rw [cut_dot _ _ (orZero_allD hw)]
  simp [orZero_numB hw, orZero_numB hp]
theorem readP_fmt (neg : Bool) (w p : List UInt8) (hw : allD w = true) (hp : allD p = true) : readP (fmt neg w p) = toldP neg (val (orZero w ++ orZero p)) (orZero p).length := by
  rw [fmt_eq]
  cases neg
  · have hd : ∃ c r, orZero w = c :: r ∧ isD c = true := by
      have h1 := orZero_allD hw
      have h2 := orZero_numB hw
      generalize orZero w = l at *
      cases l with
      | nil => exact absurd h2 (by decide)
      | cons c r => rw [allD_cons, Bool.and_eq_true] at h1; exact ⟨c, r, rfl, h1.1⟩
    rw [← readT_fmt false false w p hw hp]
    refine readP_other _ ?_ ?_
    · rintro ⟨r', hr⟩
      obtain ⟨c, r, hc, hd⟩ := hd
      rw [hc] at hr
      simp at hr
      rw [hr.1] at hd; exact absurd hd (by decide)
    · rintro ⟨r', hr⟩
      obtain ⟨c, r, hc, hd⟩ := hd
      rw [hc] at hr
      simp at hr
      rw [hr.1] at hd; exact absurd hd (by decide)
  · rw [← readT_fmt true true w p hw hp]; rfl
/-- The amount in units of the twentieth place that a text says. -/
theorem amount (z : Int) : val (orZero (digs (z.natAbs / 10 ^ 20)) ++ orZero (frac 20 z.natAbs)) * 10 ^ (20 - (orZero (frac 20 z.natAbs)).length) = z.natAbs ∧ (orZero (frac 20 z.natAbs)).length ≤ 20 := by
  have h1 := frac_val 20 z.natAbs
  have h2 := frac_length 20 z.natAbs
  have h3 := digs_val (z.natAbs / 10 ^ 20)
  rw [val_append, orZero_val, orZero_val, h3]
  have hdm := Nat.div_add_mod z.natAbs (10 ^ 20)
  generalize z.natAbs / 10 ^ 20 = q at *
  generalize hp : frac 20 z.natAbs = p at *
  generalize z.natAbs % 10 ^ 20 = r at *
  by_cases h : p = []
  · subst h
    have hr : r = 0 := by simpa [val] using h1.symm
    subst hr
    have e : (orZero ([] : List UInt8)).length = 1 := rfl
    rw [e]
    refine ⟨?_, by decide⟩
    rw [show val ([] : List UInt8) = 0 from rfl, ← hdm, Nat.add_zero, Nat.add_zero, Nat.mul_assoc, Nat.mul_comm, ← Nat.pow_add]
  · have e : orZero p = p := by unfold orZero; rw [if_neg h]
    rw [e]
    refine ⟨?_, h2⟩
    rw [Nat.add_mul, h1, ← hdm, Nat.mul_assoc, ← Nat.pow_add, show p.length + (20 - p.length) = 20 by omega, Nat.mul_comm]
theorem readP_canon (z : Int) (hz : small z) : readP (canon z) = (canon z, 0) := by
  unfold canon
  rw [readP_fmt _ _ _ (digs_allD _) (frac_allD _ _)]
  obtain ⟨h1, h2⟩ := amount z
  have ht := told_le (decide (z < 0)) (val (orZero (digs (z.natAbs / 10 ^ 20)) ++ orZero (frac 20 z.natAbs))) _ h2
  rw [h1, told20, if_pos (show z.natAbs < top from hz), signed_self] at ht
  unfold toldP
  rw [ht]; rfl
theorem canon_len (z : Int) (hz : small z) : (canon z).length ≤ 62 := by
  unfold canon
  rw [fmt_eq]
  have h1 := (digs_lt (z.natAbs / 10 ^ 20) 40).2 (by
    rw [Nat.div_lt_iff_lt_mul (by decide)]; exact hz)
  have h2 := frac_length 20 z.natAbs
  have h3 : ∀ l : List UInt8, (orZero l).length ≤ max 1 l.length := by
    intro l; unfold orZero; split
    · exact Nat.le_max_left _ _
    · exact Nat.le_max_right _ _
  have h4 := h3 (digs (z.natAbs / 10 ^ 20))
  have h5 := h3 (frac 20 z.natAbs)
  have h6 : ∀ b : Bool, (if b = true then [(45 : UInt8)] else []).length ≤ 1 := by intro b; cases b <;> simp
  have h7 := h6 (decide (z < 0))
  simp only [List.length_append, List.length_cons]
  generalize (orZero (digs (z.natAbs / 10 ^ 20))).length = a at *
  generalize (orZero (frac 20 z.natAbs)).length = b at *
  generalize (digs (z.natAbs / 10 ^ 20)).length = c at *
  generalize (frac 20 z.natAbs).length = d at *
  omega
theorem chk_canon (z : Int) (hz : small z) : chk (canon z) = true := by
  unfold chk; rw [readP_canon z hz, decide_eq_true (canon_len z hz)]; simp
theorem toldP_zero (neg : Bool) (N sc : Nat) (t : List UInt8) (h : toldP neg N sc = (t, 0)) : ∃ z, small z ∧ t = canon z := by
  unfold toldP at h
  cases ht : told neg N sc with
  | none => rw [ht] at h; simp at h
  | some u => rw [ht] at h; simp at h; subst h; exact told_canon neg N sc u ht
theorem readT_zero (neg : Bool) (r t : List UInt8) (h : readT neg r = (t, 0)) : ∃ z, small z ∧ t = canon z := by
  unfold readT at h
  split at h
  · exact toldP_zero _ _ _ _ h
  · simp at h
theorem readP_zero (l t : List UInt8) (h : readP l = (t, 0)) : ∃ z, small z ∧ t = canon z := by
  unfold readP at h
  split at h
  · exact readT_zero _ _ _ h
  · exact readT_zero _ _ _ h
  · exact readT_zero _ _ _ h
/-- The texts that may be are the canonical ones. -/
theorem chk_iff (l : List UInt8) : chk l = true ↔ ∃ z, small z ∧ l = canon z := by
  constructor
  · intro h
    unfold chk at h
    simp only [Bool.and_eq_true, beq_iff_eq] at h
    exact readP_zero l l (by rw [← h.2.1]; exact Prod.ext h.2.2 rfl)
  · rintro ⟨z, hz, rfl⟩
    exact chk_canon z hz
/-- The number that a text says. -/
def nval (l : List UInt8) : Int := match l with
  | 45 :: r => -((val ((Lib.cut r [46]).1 ++ (Lib.cut r [46]).2.1) * 10 ^ (20 - (Lib.cut r [46]).2.1.length) : Nat) : Int)
  | l => ((val ((Lib.cut l [46]).1 ++ (Lib.cut l [46]).2.1) * 10 ^ (20 - (Lib.cut l [46]).2.1.length) : Nat) : Int)
theorem nval_canon (z : Int) : nval (canon z) = z := by
  obtain ⟨h1, _⟩ := amount z
  unfold canon
  rw [fmt_eq]
  by_cases h : z < 0
  · rw [decide_eq_true h]
    show nval (45 :: (orZero (digs (z.natAbs / 10 ^ 20)) ++ 46 :: orZero (frac 20 z.natAbs))) = z
    unfold nval
    simp only [cut_dot _ _ (orZero_allD (digs_allD (z.natAbs / 10 ^ 20))), h1]
    omega
  · rw [decide_eq_false h]
    show nval (orZero (digs (z.natAbs / 10 ^ 20)) ++ 46 :: orZero (frac 20 z.natAbs)) = z
    have h3 : ¬ ∃ r, orZero (digs (z.natAbs / 10 ^ 20)) ++ 46 :: orZero (frac 20 z.natAbs) = 45 :: r := by
      rintro ⟨r', hr⟩
      have a1 := orZero_allD (digs_allD (z.natAbs / 10 ^ 20))
      have a2 := orZero_numB (digs_allD (z.natAbs / 10 ^ 20))
      generalize orZero (digs (z.natAbs / 10 ^ 20)) = l at *
      cases l with
      | nil => exact absurd a2 (by decide)
      | cons c r =>
        simp at hr a1
        rw [hr.1] at a1; exact absurd a1.1 (by decide)
    unfold nval
    split
    · rename_i r hr; exact absurd ⟨r, hr⟩ h3
    · simp only [cut_dot _ _ (orZero_allD (digs_allD (z.natAbs / 10 ^ 20))), h1]
      omega
theorem canon_inj {y z : Int} (h : canon y = canon z) : y = z := by rw [← nval_canon y, h, nval_canon]
end Go.Proofs.YthecgifgjagmaaaGreatDoor.dec
