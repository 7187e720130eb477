/- Contract of decimal.ToInt. -/
import Derived.Test.YtnnojhgnfmieoaaGreatDoorDecNeg
import Derived.Test.YtnnojhgnfmieoaaGreatDoorDecFrame
import Derived.Shelf.Vars
namespace Go.Proofs.YtnnojhgnfmieoaaGreatDoor.dec
open Go.ChangeShapes Go.WideShapes Go.ChangeAt Go.RowKit kit
set_option linter.unusedVariables false
set_option linter.unusedSimpArgs false
theorem parseM_all (M : Nat) (hM : M < 18446744073709551620) (l : List UInt8) (hd : allD l = true) : ∀ acc, acc ≤ M → Lib.parseUintM M acc l = if acc * 10 ^ l.length + val l ≤ M then .ok (acc * 10 ^ l.length + val l) else .range := by
  induction l with
  | nil => intro acc ha; simp [Lib.parseUintM, val, ha]
  | cons c l ih =>
    intro acc ha
    rw [allD_cons, Bool.and_eq_true] at hd
    have hc := hd.1
    unfold isD at hc
    simp only [decide_eq_true_eq] at hc
    have hv : dv c = c.toNat - 48 := rfl
    have hp : 1 ≤ 10 ^ l.length := Nat.pow_pos (by decide)
    have he : acc * 10 ^ (c :: l).length + val (c :: l) = (acc * 10 + dv c) * 10 ^ l.length + val l := by
      rw [val_cons, List.length_cons, Nat.pow_succ, Nat.add_mul, Nat.mul_assoc, Nat.mul_comm 10, Nat.add_assoc]
    rw [he, Lib.parseUintM, if_pos hc]
    have hle : acc * 10 + dv c ≤ (acc * 10 + dv c) * 10 ^ l.length := Nat.le_mul_of_pos_right _ hp
    by_cases h1 : 1844674407370955162 ≤ acc
    · rw [if_pos h1, if_neg (by omega)]
    · rw [if_neg h1, ← hv]
      by_cases h2 : M < acc * 10 + dv c
      · rw [if_pos h2, if_neg (by omega)]
      · rw [if_neg h2, ih hd.2 _ (by omega)]
theorem parseB_all (l : List UInt8) (hd : allD l = true) (h0 : l ≠ []) : Lib.parseUintB 64 l = if val l ≤ 18446744073709551615 then .ok (val l) else .range := by
  unfold Lib.parseUintB
  rw [if_neg h0, parseM_all (2 ^ 64 - 1) (by decide) l hd 0 (Nat.zero_le _), Nat.zero_mul, Nat.zero_add]
theorem parseInt_neg (l : List UInt8) (hd : allD l = true) (h0 : l ≠ []) : Lib.parseIntB 64 (45 :: l) = if val l ≤ 9223372036854775808 then .ok (-(val l : Int)) else .range := by
  unfold Lib.parseIntB
  have e : ((45 : UInt8).toNat = 43 ∨ (45 : UInt8).toNat = 45) := .inr rfl
  simp only [if_pos e, parseB_all l hd h0]
  by_cases h1 : val l ≤ 18446744073709551615
  · rw [if_pos h1]
    by_cases h2 : val l ≤ 9223372036854775808
    · rw [if_pos h2]; simp; omega
    · rw [if_neg h2]; simp; omega
  · rw [if_neg h1, if_neg (by omega)]
theorem parseInt_pos (l : List UInt8) (hd : allD l = true) (h0 : l ≠ []) : Lib.parseIntB 64 l = if val l ≤ 9223372036854775807 then .ok (val l : Int) else .range := by
  cases l with
  | nil => exact absurd rfl h0
  | cons c r =>
    have hc : isD c = true := by rw [allD_cons, Bool.and_eq_true] at hd; exact hd.1
    unfold isD at hc
    simp only [decide_eq_true_eq] at hc
    have hp := parseB_all (c :: r) hd h0
    generalize val (c :: r) = v at *
    have e1 : ¬ (c.toNat = 43 ∨ c.toNat = 45) := by omega
    have e2 : ¬ (c.toNat = 45) := by omega
    unfold Lib.parseIntB
    simp only [if_neg e1, hp]
    by_cases h1 : v ≤ 18446744073709551615
    · rw [if_pos h1]
      by_cases h2 : v ≤ 9223372036854775807
      · rw [if_pos h2]; simp [e2]; omega
      · rw [if_neg h2]; simp [e2]; omega
    · rw [if_neg h1, if_neg (by omega)]
theorem cut_neg (W P : List UInt8) (h : allD W = true) : Lib.cut (45 :: (W ++ 46 :: P)) [46] = (45 :: W, P, true) := by
  have hi : Lib.index (45 :: (W ++ 46 :: P)) [46] = ((W.length + 1 : Nat) : Int) := by
    have hp : [46].isPrefixOf ((45 : UInt8) :: (W ++ 46 :: P)) = false := by simp [List.isPrefixOf]
    rw [Lib.index, index_dot W P h, hp]
    have : ((W.length : Int) == -1) = false := by simp
    simp [this]
  unfold Lib.cut
  rw [hi, if_pos (by omega)]
  simp
/-- The whole number that a decimal is. -/
def toI (z : Int) : Int × Bool := if z.natAbs % E20 = 0 ∧ -9223372036854775808 ≤ z / E20 ∧ z / E20 ≤ 9223372036854775807 then (z / E20, true) else (0, false)
theorem frac_one (k r : Nat) (h : orZero (frac k r) = [48]) : r % 10 ^ k = 0 := by
  rw [← frac_nil]
  unfold orZero at h
  split at h
  · assumption
  · have hv := frac_val k r
    rw [h] at hv
    rw [frac_nil, ← hv]; simp [val, dv]
/-- The parts of a canonical text: what stands ahead of the point, and what it's parsed as. -/
theorem whole_parse (z : Int) (hz : small z) : ∃ wl, Lib.cut (canon z) [46] = (wl, orZero (frac 20 z.natAbs), true) ∧ wl.length ≤ 62 ∧
    (orZero (frac 20 z.natAbs) = [48] → (toI z).2 = true → Lib.parseIntB 64 wl = .ok (toI z).1) ∧ (orZero (frac 20 z.natAbs) = [48] → (toI z).2 = false → Lib.parseIntB 64 wl = .range) ∧ (orZero (frac 20 z.natAbs) ≠ [48] → toI z = (0, false)) := by
  have hd := orZero_allD (digs_allD (z.natAbs / E20))
  have h0 : orZero (digs (z.natAbs / E20)) ≠ [] := by
    obtain ⟨c, r, hc, _⟩ := orZero_head (digs_allD (z.natAbs / E20))
    rw [hc]; simp
  have hv : val (orZero (digs (z.natAbs / E20))) = z.natAbs / E20 := by rw [orZero_val, digs_val]
  have hcl := canon_len z hz
  have hno : orZero (frac 20 z.natAbs) ≠ [48] → toI z = (0, false) := by
    intro hf
    unfold toI
    rw [if_neg]
    rintro ⟨hm, _⟩
    apply hf
    have : frac 20 z.natAbs = [] := frac_nil.2 hm
    rw [this]; rfl
  have hE := E20_pos
  have hq : z.natAbs % E20 = 0 → z = signed (decide (z < 0)) (z.natAbs / E20) * E20 := by
    intro hm
    have h1 := signed_self z
    have h2 : z.natAbs = z.natAbs / E20 * E20 := by have := Nat.div_add_mod z.natAbs E20; rw [hm, Nat.mul_comm] at this; omega
    conv => lhs; rw [← h1, h2]
    unfold signed
    cases decide (z < 0) <;> simp [Int.neg_mul]
  have hzq : z.natAbs % E20 = 0 → z / E20 = signed (decide (z < 0)) (z.natAbs / E20) := by
    intro hm
    conv => lhs; rw [hq hm]
    exact Int.mul_ediv_cancel _ (by omega)
  have hsh := canon_shape z
  rw [show (10 ^ 20 : Nat) = E20 from rfl] at hsh
  have hf20 : ∀ h : orZero (frac 20 z.natAbs) = [48], z.natAbs % E20 = 0 := fun h => frac_one 20 z.natAbs h
  generalize z.natAbs / E20 = q at *
  generalize orZero (digs q) = W at *
  generalize orZero (frac 20 z.natAbs) = P at *
  by_cases hn : z < 0
  · rw [decide_eq_true hn] at hsh hzq
    have hsh' : canon z = 45 :: (W ++ 46 :: P) := hsh
    have hpn := parseInt_neg W hd h0
    rw [hv] at hpn
    refine ⟨45 :: W, by rw [hsh']; exact cut_neg W P hd, by rw [hsh'] at hcl; simp at hcl ⊢; omega, ?_, ?_, hno⟩
    · intro hP ht
      have hm := hf20 hP
      have hzz : z / E20 = -(q : Int) := hzq hm
      unfold toI at ht ⊢
      by_cases hc : z.natAbs % E20 = 0 ∧ -9223372036854775808 ≤ z / E20 ∧ z / E20 ≤ 9223372036854775807
      · rw [if_pos hc] at ht ⊢
        rw [hpn, if_pos (by omega), hzz]
      · rw [if_neg hc] at ht; simp at ht
    · intro hP ht
      have hm := hf20 hP
      have hzz : z / E20 = -(q : Int) := hzq hm
      unfold toI at ht
      by_cases hc : z.natAbs % E20 = 0 ∧ -9223372036854775808 ≤ z / E20 ∧ z / E20 ≤ 9223372036854775807
      · rw [if_pos hc] at ht; simp at ht
      · rw [hpn, if_neg]
        intro hle
        exact hc ⟨hm, by omega, by omega⟩
  · rw [decide_eq_false hn] at hsh hzq
    have hsh' : canon z = W ++ 46 :: P := hsh
    have hpp := parseInt_pos W hd h0
    rw [hv] at hpp
    refine ⟨W, by rw [hsh']; exact cut_dot W P hd, by rw [hsh'] at hcl; simp at hcl; omega, ?_, ?_, hno⟩
    · intro hP ht
      have hm := hf20 hP
      have hzz : z / E20 = (q : Int) := hzq hm
      unfold toI at ht ⊢
      by_cases hc : z.natAbs % E20 = 0 ∧ -9223372036854775808 ≤ z / E20 ∧ z / E20 ≤ 9223372036854775807
      · rw [if_pos hc] at ht ⊢
        rw [hpp, if_pos (by omega), hzz]
      · rw [if_neg hc] at ht; simp at ht
    · intro hP ht
      have hm := hf20 hP
      have hzz : z / E20 = (q : Int) := hzq hm
      unfold toI at ht
      by_cases hc : z.natAbs % E20 = 0 ∧ -9223372036854775808 ≤ z / E20 ∧ z / E20 ≤ 9223372036854775807
      · rw [if_pos hc] at ht; simp at ht
      · rw [hpp, if_neg]
        intro hle
        exact hc ⟨hm, by omega, by omega⟩
theorem ba_toList (l : List UInt8) : (⟨l.toArray⟩ : ByteArray).toList = l := by rw [Go.ByteArray.toList_eq]
def toIR (l : List UInt8) : Int × Bool := if chk l then toI (zof l) else (0, false)
set_option maxHeartbeats 2000000 in
set_option maxRecDepth 100000 in
theorem toI_no (a : ByteArray) (w : World) (hE : Env w) (hs : a.size ≤ 100000) (hc : chk a.data.toList = false) :
    Calls Tryz.prog 24 #[.string a] w fun e w' => e = .returned (.tuple #[.int .i64 0, .bool false]) ∧ Below w.heap.size w w' := by
  obtain ⟨m, hm⟩ := hE.max
  have hk := fun w hE => chk_any a w hE
  rw [hc] at hk
  have hE1 : Env (w.drewN 0) := hE
  replace hk := Lib.hid hk
  replace hE := Lib.hid hE
  replace hm := Lib.hid hm
  go_enter Tryz.func24, Tryz.ntmps24
  go_wp2_with fail
  refine (Tryz.strings_Cut a ⟨#[46]⟩ m _ (by omega) hm.out).mono ?_
  rintro e w1 ⟨rfl, n1, rfl⟩
  go_wp2_with (go_at_call 26; refine (hk.out _ (hE.out.drewN n1)).mono ?_; rintro e w2 ⟨rfl, hb2⟩)
  go_ret2
  exact ⟨rfl, (Below_drewN n1 (Below.refl _ _)).trans hb2⟩
set_option maxHeartbeats 2000000 in
set_option maxRecDepth 100000 in
theorem toI_yes (z : Int) (hz : small z) (w : World) (hE : Env w) :
    Calls Tryz.prog 24 #[.string (tx (canon z))] w fun e w' => e = .returned (.tuple #[.int .i64 (toI z).1, .bool (toI z).2]) ∧ Below w.heap.size w w' := by
  obtain ⟨wl, hcut, hwl, hok, hrg, hno⟩ := whole_parse z hz
  have hc : chk (tx (canon z)).data.toList = true := chk_canon z hz
  have hcut' : Lib.cut (tx (canon z)).data.toList (ByteArray.mk #[46]).data.toList = (wl, orZero (frac 20 z.natAbs), true) := hcut
  have hsa : (tx (canon z)).size ≤ 62 := canon_len z hz
  generalize orZero (frac 20 z.natAbs) = P at *
  obtain ⟨a, ha⟩ : ∃ a, tx (canon z) = a := ⟨_, rfl⟩
  rw [ha] at hc hcut' hsa ⊢
  clear ha hcut hz
  obtain ⟨⟨n, ok⟩, hto⟩ : ∃ r, toI z = r := ⟨_, rfl⟩
  rw [hto] at hok hrg hno ⊢
  dsimp only at hok hrg ⊢
  have hn0 : ok = false → n = 0 := by
    intro h
    have h1 : (toI z).2 = false := by rw [hto]; exact h
    have h2 : (toI z).1 = 0 := by
      unfold toI at h1 ⊢
      split at h1
      · simp at h1
      · rw [if_neg (by assumption)]
    rw [hto] at h2; exact h2
  clear hto
  have hpt : ∀ l : List UInt8, (⟨l.toArray⟩ : ByteArray).toList = l := ba_toList
  by_cases hP : P = [48]
  · replace hok := hok hP
    replace hrg := hrg hP
    clear hno
    subst hP
    have hwz : (⟨wl.toArray⟩ : ByteArray).size ≤ 62 := hwl
    cases ok
    · have hp := hrg rfl
      obtain rfl : n = 0 := hn0 rfl
      clear hn0
      clear hok hrg
      replace hp := Lib.hid hp
      replace hcut' := Lib.hid hcut'
      obtain ⟨m, hm⟩ := hE.max
      have hk := fun w hE => chk_any a w hE
      rw [hc] at hk
      have hE1 : Env (w.drewN 0) := hE
      replace hk := Lib.hid hk
      replace hE := Lib.hid hE
      replace hm := Lib.hid hm
      go_enter Tryz.func24, Tryz.ntmps24
      go_wp2_with fail
      refine (Tryz.strings_Cut a ⟨#[46]⟩ m _ (by omega) hm.out).mono ?_
      rintro e w1 ⟨rfl, n1, rfl⟩
      rw [hcut'.out]
      go_wp2_with (go_at_call 26; refine (hk.out _ (hE.out.drewN n1)).mono ?_; rintro e w2 ⟨rfl, hb2⟩)
      have hE2 : Env w2 := (hE.out.drewN n1).below hb2
      obtain ⟨tp, p, hv⟩ := hE2.rng
      refine (Tryz.strconv_ParseInt_10_at64_range_var ⟨wl.toArray⟩ (by omega) hp.out tp p w2 hv).mono ?_
      rintro e w3 ⟨N, rfl, _, _, hb3⟩
      go_wp2
      go_ret2
      exact ⟨rfl, ((Below_drewN n1 (Below.refl _ _)).trans hb2).trans (hb3.mono hb2.size)⟩
    · have hp := hok rfl
      clear hok hrg
      replace hp := Lib.hid hp
      replace hcut' := Lib.hid hcut'
      obtain ⟨m, hm⟩ := hE.max
      have hk := fun w hE => chk_any a w hE
      rw [hc] at hk
      have hE1 : Env (w.drewN 0) := hE
      replace hk := Lib.hid hk
      replace hE := Lib.hid hE
      replace hm := Lib.hid hm
      go_enter Tryz.func24, Tryz.ntmps24
      go_wp2_with fail
      refine (Tryz.strings_Cut a ⟨#[46]⟩ m _ (by omega) hm.out).mono ?_
      rintro e w1 ⟨rfl, n1, rfl⟩
      rw [hcut'.out]
      go_wp2_with (go_at_call 26; refine (hk.out _ (hE.out.drewN n1)).mono ?_; rintro e w2 ⟨rfl, hb2⟩)
      refine (Tryz.strconv_ParseInt_10_at64_ok ⟨wl.toArray⟩ (by omega) n hp.out w2).mono ?_
      rintro e w3 ⟨rfl, hw3⟩
      have hb3 : Below w2.heap.size w2 w3 := by
        rcases hw3 with h | ⟨t, h⟩
        · rw [h]; exact Below.refl _ _
        · rw [h]; exact Lib.bytesWorld_below _ _ _
      clear hw3
      go_wp2
      go_ret2
      exact ⟨rfl, ((Below_drewN n1 (Below.refl _ _)).trans hb2).trans (hb3.mono hb2.size)⟩
  · obtain ⟨rfl, rfl⟩ := Prod.mk.inj (hno hP)
    have hPb : (P == [48]) = false := beq_eq_false_iff_ne.2 hP
    clear hok hrg hno hP
    replace hcut' := Lib.hid hcut'
    obtain ⟨m, hm⟩ := hE.max
    have hk := fun w hE => chk_any a w hE
    rw [hc] at hk
    have hE1 : Env (w.drewN 0) := hE
    replace hk := Lib.hid hk
    replace hE := Lib.hid hE
    replace hm := Lib.hid hm
    go_enter Tryz.func24, Tryz.ntmps24
    go_wp2_with fail
    refine (Tryz.strings_Cut a ⟨#[46]⟩ m _ (by omega) hm.out).mono ?_
    rintro e w1 ⟨rfl, n1, rfl⟩
    rw [hcut'.out]
    go_wp2_with (go_at_call 26; refine (hk.out _ (hE.out.drewN n1)).mono ?_; rintro e w2 ⟨rfl, hb2⟩)
    go_ret2
    exact ⟨rfl, (Below_drewN n1 (Below.refl _ _)).trans hb2⟩
theorem toI_call (a : ByteArray) (w : World) (hE : Env w) (hs : a.size ≤ 100000) :
    Calls Tryz.prog 24 #[.string a] w fun e w' => e = .returned (.tuple #[.int .i64 (toIR a.data.toList).1, .bool (toIR a.data.toList).2]) ∧ Below w.heap.size w w' := by
  unfold toIR
  cases hc : chk a.data.toList
  · exact toI_no a w hE hs hc
  · obtain ⟨z, hz, hl⟩ := (chk_iff _).1 hc
    rw [if_pos rfl, hl, zof_canon z hz]
    have := toI_yes z hz w hE
    rwa [show tx (canon z) = a from (ba_ext hl).symm] at this
end Go.Proofs.YtnnojhgnfmieoaaGreatDoor.dec
