/- Plain: what the reference reads. -/
import Derived.Test.YthecgifgjagmaaaGreatDoorRefA
import Derived.Test.YthecgifgjagmaaaGreatDoorDecA
namespace Go.Proofs.YthecgifgjagmaaaGreatDoor.dec
set_option linter.unusedVariables false
/-- A text without its sign, as a number: sign, digits, places behind the point. -/
def numT (neg : Bool) (r : List UInt8) : Option (Bool × Nat × Nat) :=
  if numB (Lib.cut r [46]).1 && (!(Lib.cut r [46]).2.2 || numB (Lib.cut r [46]).2.1) then some (neg, val ((Lib.cut r [46]).1 ++ (Lib.cut r [46]).2.1), (Lib.cut r [46]).2.1.length) else none
def numP (l : List UInt8) : Option (Bool × Nat × Nat) := match l with
  | 45 :: r => numT true r
  | 43 :: r => numT false r
  | l => numT false l
def readN : Option (Bool × Nat × Nat) → List UInt8 × Int
  | some (n, N, sc) => toldP n N sc
  | none => ([], 6)
theorem readT_num (neg : Bool) (r : List UInt8) : readT neg r = readN (numT neg r) := by
  unfold readT numT
  split <;> rfl
theorem numP_other (l : List UInt8) (h1 : ¬ ∃ r, l = 45 :: r) (h2 : ¬ ∃ r, l = 43 :: r) : numP l = numT false l := by
  unfold numP
  split
  · rename_i r; exact absurd ⟨r, rfl⟩ h1
  · rename_i r; exact absurd ⟨r, rfl⟩ h2
  · rfl
theorem readP_num (l : List UInt8) : readP l = readN (numP l) := by
  by_cases h1 : ∃ r, l = 45 :: r
  · obtain ⟨r, rfl⟩ := h1; exact readT_num true r
  · by_cases h2 : ∃ r, l = 43 :: r
    · obtain ⟨r, rfl⟩ := h2; exact readT_num false r
    · rw [readP_other l h1 h2, numP_other l h1 h2, readT_num]
theorem index_out (W P : List UInt8) (h : 46 ∉ W) : Lib.index (W ++ 46 :: P) [46] = (W.length : Int) := by
  induction W with
  | nil => simp [Lib.index, List.isPrefixOf]
  | cons c W ih =>
    have hc : c ≠ 46 := by intro e; subst e; exact h (by simp)
    have hp : [46].isPrefixOf (c :: (W ++ 46 :: P)) = false := by simp [List.isPrefixOf]; exact fun e => hc e.symm
    rw [List.cons_append, Lib.index, ih (fun e => h (by simp [e])), hp]
    have : ((W.length : Int) == -1) = false := by simp
    simp [this]
theorem index_none (R : List UInt8) (h : 46 ∉ R) : Lib.index R [46] = -1 := by
  induction R with
  | nil => simp [Lib.index]
  | cons c W ih =>
    have hc : c ≠ 46 := by intro e; subst e; exact h (by simp)
    have hp : [46].isPrefixOf (c :: W) = false := by simp [List.isPrefixOf]; exact fun e => hc e.symm
    rw [Lib.index, ih (fun e => h (by simp [e])), hp]
    simp
theorem cut_out (W P : List UInt8) (h : 46 ∉ W) : Lib.cut (W ++ 46 :: P) [46] = (W, P, true) := by
  unfold Lib.cut
  rw [index_out W P h, if_pos (by omega)]
  simp
theorem cut_none (R : List UInt8) (h : 46 ∉ R) : Lib.cut R [46] = (R, [], false) := by
  unfold Lib.cut
  rw [index_none R h, if_neg (by decide)]
theorem allD_mem {l : List UInt8} (h : allD l = true) {c : UInt8} (hc : c ∈ l) : isD c = true := List.all_eq_true.1 h c hc
theorem allD_dot {l : List UInt8} (h : allD l = true) : 46 ∉ l := fun e => absurd (allD_mem h e) (by decide)
theorem numB_not {l : List UInt8} {c : UInt8} (hc : c ∈ l) (h : isD c = false) : numB l = false := by
  cases hb : numB l with
  | false => rfl
  | true => rw [allD_mem (numB_all hb) hc] at h; cases h
/-- What has been seen: digits, or digits about a point. -/
def PS (l : List UInt8) (pt : Int) : Prop := (pt = -1 ∧ allD l = true) ∨ ∃ W P, pt = (W.length : Int) ∧ l = W ++ 46 :: P ∧ allD W = true ∧ allD P = true
theorem PS.digit {l : List UInt8} {pt : Int} (h : PS l pt) {c : UInt8} (hc : isD c = true) : PS (l ++ [c]) pt := by
  rcases h with ⟨h1, h2⟩ | ⟨W, P, h1, h2, h3, h4⟩
  · exact .inl ⟨h1, by rw [allD_append, h2, allD_cons, hc]; rfl⟩
  · refine .inr ⟨W, P ++ [c], h1, by rw [h2]; simp, h3, by rw [allD_append, h4, allD_cons, hc]; rfl⟩
theorem PS.dot {l : List UInt8} (h : PS l (-1)) : PS (l ++ [46]) (l.length : Int) := by
  rcases h with ⟨_, h2⟩ | ⟨W, P, h1, _⟩
  · exact .inr ⟨l, [], rfl, rfl, h2, rfl⟩
  · omega
theorem PS.bad {l : List UInt8} {pt : Int} (h : PS l pt) {c : UInt8} (hc : isD c = false) (hd : ¬ (c = 46 ∧ pt = -1)) (neg : Bool) (rest : List UInt8) : numT neg (l ++ c :: rest) = none := by
  rcases h with ⟨h1, h2⟩ | ⟨W, P, h1, h2, h3, h4⟩
  · have h46 : c ≠ 46 := fun e => hd ⟨e, h1⟩
    have hl := allD_dot h2
    by_cases hr : 46 ∈ rest
    · obtain ⟨R1, R2, hR, hn⟩ := List.eq_append_cons_of_mem hr
      have e : l ++ c :: rest = (l ++ c :: R1) ++ 46 :: R2 := by rw [hR]; simp
      have hn' : 46 ∉ l ++ c :: R1 := by
        simp only [List.mem_append, List.mem_cons, not_or]
        exact ⟨hl, fun e => h46 e.symm, hn⟩
      unfold numT
      rw [e, cut_out _ _ hn', numB_not (c := c) (by simp) hc]
      rfl
    · have hn' : 46 ∉ l ++ c :: rest := by
        simp only [List.mem_append, List.mem_cons, not_or]
        exact ⟨hl, fun e => h46 e.symm, hr⟩
      unfold numT
      rw [cut_none _ hn', numB_not (c := c) (by simp) hc]
      rfl
  · have e : l ++ c :: rest = W ++ 46 :: (P ++ c :: rest) := by rw [h2]; simp
    unfold numT
    rw [e, cut_out _ _ (allD_dot h3), numB_not (l := P ++ c :: rest) (c := c) (by simp) hc]
    simp
/-- What a text without a bad sign is. -/
theorem PS.end {r : List UInt8} {pt : Int} (h : PS r pt) (neg : Bool) :
    ((r.length = 0 ∨ pt = 0 ∨ pt = (r.length : Int) - 1) ∧ numT neg r = none) ∨
    (¬ (r.length = 0 ∨ pt = 0 ∨ pt = (r.length : Int) - 1) ∧ numT neg r = some (neg, val (r.filter (· != 46)), if 0 ≤ pt then r.length - 1 - pt.toNat else 0) ∧ (0 ≤ pt → pt < (r.length : Int)) ∧ 1 ≤ (r.filter (· != 46)).length ∧ allD (r.filter (· != 46)) = true) := by
  have hf : ∀ l : List UInt8, allD l = true → l.filter (· != 46) = l := fun l hl => by
    rw [List.filter_eq_self]
    intro a ha
    have := allD_mem hl ha
    simp only [bne_iff_ne, ne_eq]
    intro e; subst e; exact absurd this (by decide)
  rcases h with ⟨h1, h2⟩ | ⟨W, P, h1, h2, h3, h4⟩
  · subst h1
    by_cases hr : r = []
    · subst hr
      exact .inl ⟨.inl rfl, by unfold numT; rw [cut_none _ (by simp)]; rfl⟩
    · right
      have hlen : 1 ≤ r.length := by cases r with | nil => exact absurd rfl hr | cons a l => simp
      have hnb : numB r = true := by unfold numB; rw [h2]; cases r with | nil => exact absurd rfl hr | cons a l => rfl
      refine ⟨by omega, ?_, by omega, by rw [hf r h2]; exact hlen, by rw [hf r h2]; exact h2⟩
      unfold numT
      rw [cut_none _ (allD_dot h2), hf r h2]
      simp [hnb]
  · subst h2
    have hfl : (W ++ 46 :: P).filter (· != 46) = W ++ P := by
      rw [List.filter_append, hf W h3, List.filter_cons_of_neg (by decide), hf P h4]
    have hcut := cut_out W P (allD_dot h3)
    rw [hfl, List.length_append, List.length_cons]
    by_cases hw : W = []
    · subst hw
      exact .inl ⟨.inr (.inl (by simpa using h1)), by unfold numT; rw [hcut]; rfl⟩
    · by_cases hp : P = []
      · subst hp
        exact .inl ⟨.inr (.inr (by simp; omega)), by unfold numT; rw [hcut]; simp [numB]⟩
      · have lW : 1 ≤ W.length := by cases W with | nil => exact absurd rfl hw | cons a l => simp
        have lP : 1 ≤ P.length := by cases P with | nil => exact absurd rfl hp | cons a l => simp
        have nW : numB W = true := by unfold numB; rw [h3]; cases W with | nil => exact absurd rfl hw | cons a l => rfl
        have nP : numB P = true := by unfold numB; rw [h4]; cases P with | nil => exact absurd rfl hp | cons a l => rfl
        right
        refine ⟨by omega, ?_, by omega, by rw [List.length_append]; omega, by rw [allD_append, h3, h4]; rfl⟩
        have e : (if 0 ≤ pt then W.length + (P.length + 1) - 1 - pt.toNat else 0) = P.length := by rw [if_pos (by omega), h1]; omega
        rw [e]
        unfold numT
        rw [hcut]
        simp [nW, nP]
/-- The digits of a text, the lowest first. -/
def digL (l : List UInt8) : List Nat := ((l.filter (· != 46)).map dv).reverse
theorem digL_dot (l : List UInt8) : digL (46 :: l) = digL l := by unfold digL; rw [List.filter_cons_of_neg (by decide)]
theorem digL_cons {c : UInt8} (h : c ≠ 46) (l : List UInt8) : digL (c :: l) = digL l ++ [dv c] := by
  unfold digL; rw [List.filter_cons_of_pos (by simpa using h), List.map_cons, List.reverse_cons]
theorem vL_rev (l : List UInt8) : vL ((l.map dv).reverse) = val l := by
  induction l with
  | nil => rfl
  | cons c r ih => rw [List.map_cons, List.reverse_cons, vL_append, ih, List.length_reverse, List.length_map, val_cons]; simp [vL]; rw [Nat.mul_comm, Nat.add_comm]
theorem digL_val (l : List UInt8) : vL (digL l) = val (l.filter (· != 46)) := vL_rev _
theorem digL_length (l : List UInt8) : (digL l).length = (l.filter (· != 46)).length := by unfold digL; simp
theorem digL_le (l : List UInt8) : (digL l).length ≤ l.length := by rw [digL_length]; exact List.length_filter_le _ _
theorem digL_dgs {l : List UInt8} (h : allD (l.filter (· != 46)) = true) : dgs (digL l) := by
  intro d hd
  unfold digL at hd
  rw [List.mem_reverse, List.mem_map] at hd
  obtain ⟨c, hc, rfl⟩ := hd
  exact dv_lt (allD_mem h hc)
/-- What a canonical text is. -/
theorem numP_canon (z : Int) (hz : small z) : ∃ N sc, numP (canon z) = some (decide (z < 0), N, sc) ∧ sc ≤ 20 ∧ N * 10 ^ (20 - sc) = z.natAbs := by
  have h1 := amount z
  have hw : allD (digs (z.natAbs / 10 ^ 20)) = true := digs_allD _
  have hp : allD (frac 20 z.natAbs) = true := frac_allD _ _
  refine ⟨val (orZero (digs (z.natAbs / 10 ^ 20)) ++ orZero (frac 20 z.natAbs)), (orZero (frac 20 z.natAbs)).length, ?_, h1.2, h1.1⟩
  have key : ∀ neg, numT neg (orZero (digs (z.natAbs / 10 ^ 20)) ++ 46 :: orZero (frac 20 z.natAbs)) = some (neg, val (orZero (digs (z.natAbs / 10 ^ 20)) ++ orZero (frac 20 z.natAbs)), (orZero (frac 20 z.natAbs)).length) := fun neg => by
    unfold numT
    rw [cut_dot _ _ (orZero_allD hw)]
    simp [orZero_numB hw, orZero_numB hp]
  unfold canon
  rw [fmt_eq]
  by_cases hn : z < 0
  · rw [decide_eq_true hn]
    exact key true
  · rw [decide_eq_false hn]
    have hd : ∃ c r, orZero (digs (z.natAbs / 10 ^ 20)) = c :: r ∧ isD c = true := by
      have h1 := orZero_allD hw
      have h2 := orZero_numB hw
      generalize orZero (digs (z.natAbs / 10 ^ 20)) = l at *
      cases l with
      | nil => exact absurd h2 (by decide)
      | cons c r => rw [allD_cons, Bool.and_eq_true] at h1; exact ⟨c, r, rfl, h1.1⟩
    rw [← key false]
    refine numP_other _ ?_ ?_
    · rintro ⟨r', hr⟩
      obtain ⟨c, r, hc, hd⟩ := hd
      rw [hc] at hr
      simp at hr
      rw [hr.1] at hd; exact absurd hd (by decide)
    · rintro ⟨r', hr⟩
      obtain ⟨c, r, hc, hd⟩ := hd
      rw [hc] at hr
      simp at hr
      rw [hr.1] at hd; exact absurd hd (by decide)
end Go.Proofs.YthecgifgjagmaaaGreatDoor.dec
