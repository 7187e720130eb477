/- Texts DecIntP, RefTell, RefWhole, RefInt, RefToInt, RefOfInt, one behind the other. -/
import Derived.Test.YtjncjcellpbhcaaGreatDoorDecC
import Derived.Test.YtjncjcellpbhcaaGreatDoorShelf
import Derived.Test.YtjncjcellpbhcaaGreatDoorDecNum
import Derived.Test.YtjncjcellpbhcaaGreatDoorRefReadA
import Derived.Test.YtjncjcellpbhcaaGreatDoorRefA
/- What decimal.ToInt answers, in plain words. -/
namespace Go.Proofs.YtjncjcellpbhcaaGreatDoor.dec
open Go.ChangeShapes Go.WideShapes Go.ChangeAt Go.RowKit kit
set_option linter.unusedVariables false
set_option linter.unusedSimpArgs false
theorem parseM_all (M : Nat) (hM : M < 18446744073709551620) (l : List UInt8) (hd : allD l = true) : ∀ acc, acc ≤ M → Lib.parseUintM M acc l = if acc * 10 ^ l.length + val l ≤ M then .ok (acc * 10 ^ l.length + val l) else .range := by
  induction l with
  | nil => intro acc ha; simp [Lib.parseUintM, val, ha]
  | cons c l ih =>
    intro acc ha
    rw [allD_cons, Bool.and_eq_true] at hd
    have hc := hd.1
    unfold isD at hc
    simp only [decide_eq_true_eq] at hc
    have hv : dv c = c.toNat - 48 := rfl
    have hp : 1 ≤ 10 ^ l.length := Nat.pow_pos (by decide)
    have he : acc * 10 ^ (c :: l).length + val (c :: l) = (acc * 10 + dv c) * 10 ^ l.length + val l := by
      rw [val_cons, List.length_cons, Nat.pow_succ, Nat.add_mul, Nat.mul_assoc, Nat.mul_comm 10, Nat.add_assoc]
    rw [he, Lib.parseUintM, if_pos hc]
    have hle : acc * 10 + dv c ≤ (acc * 10 + dv c) * 10 ^ l.length := Nat.le_mul_of_pos_right _ hp
    by_cases h1 : 1844674407370955162 ≤ acc
    · rw [if_pos h1, if_neg (by omega)]
    · rw [if_neg h1, ← hv]
      by_cases h2 : M < acc * 10 + dv c
      · rw [if_pos h2, if_neg (by omega)]
      · rw [if_neg h2, ih hd.2 _ (by omega)]
theorem parseB_all (l : List UInt8) (hd : allD l = true) (h0 : l ≠ []) : Lib.parseUintB 64 l = if val l ≤ 18446744073709551615 then .ok (val l) else .range := by
  unfold Lib.parseUintB
  rw [if_neg h0, parseM_all (2 ^ 64 - 1) (by decide) l hd 0 (Nat.zero_le _), Nat.zero_mul, Nat.zero_add]
theorem parseInt_neg (l : List UInt8) (hd : allD l = true) (h0 : l ≠ []) : Lib.parseIntB 64 (45 :: l) = if val l ≤ 9223372036854775808 then .ok (-(val l : Int)) else .range := by
  unfold Lib.parseIntB
  have e : ((45 : UInt8).toNat = 43 ∨ (45 : UInt8).toNat = 45) := .inr rfl
  simp only [if_pos e, parseB_all l hd h0]
  by_cases h1 : val l ≤ 18446744073709551615
  · rw [if_pos h1]
    by_cases h2 : val l ≤ 9223372036854775808
    · rw [if_pos h2]; simp; omega
    · rw [if_neg h2]; simp; omega
  · rw [if_neg h1, if_neg (by omega)]
theorem parseInt_pos (l : List UInt8) (hd : allD l = true) (h0 : l ≠ []) : Lib.parseIntB 64 l = if val l ≤ 9223372036854775807 then .ok (val l : Int) else .range := by
  cases l with
  | nil => exact absurd rfl h0
  | cons c r =>
    have hc : isD c = true := by rw [allD_cons, Bool.and_eq_true] at hd; exact hd.1
    unfold isD at hc
    simp only [decide_eq_true_eq] at hc
    have hp := parseB_all (c :: r) hd h0
    generalize val (c :: r) = v at *
    have e1 : ¬ (c.toNat = 43 ∨ c.toNat = 45) := by omega
    have e2 : ¬ (c.toNat = 45) := by omega
    unfold Lib.parseIntB
    simp only [if_neg e1, hp]
    by_cases h1 : v ≤ 18446744073709551615
    · rw [if_pos h1]
      by_cases h2 : v ≤ 9223372036854775807
      · rw [if_pos h2]; simp [e2]; omega
      · rw [if_neg h2]; simp [e2]; omega
    · rw [if_neg h1, if_neg (by omega)]
theorem cut_neg (W P : List UInt8) (h : allD W = true) : Lib.cut (45 :: (W ++ 46 :: P)) [46] = (45 :: W, P, true) := by
  have hi : Lib.index (45 :: (W ++ 46 :: P)) [46] = ((W.length + 1 : Nat) : Int) := by
    have hp : [46].isPrefixOf ((45 : UInt8) :: (W ++ 46 :: P)) = false := by simp [List.isPrefixOf]
    rw [Lib.index, index_dot W P h, hp]
    have : ((W.length : Int) == -1) = false := by simp
    simp [this]
  unfold Lib.cut
  rw [hi, if_pos (by omega)]
  simp
/-- The whole number that a decimal is. -/
def toI (z : Int) : Int × Bool := if z.natAbs % E20 = 0 ∧ -9223372036854775808 ≤ z / E20 ∧ z / E20 ≤ 9223372036854775807 then (z / E20, true) else (0, false)
theorem frac_one (k r : Nat) (h : orZero (frac k r) = [48]) : r % 10 ^ k = 0 := by
  rw [← frac_nil]
  unfold orZero at h
  split at h
  · assumption
  · have hv := frac_val k r
    rw [h] at hv
    rw [frac_nil, ← hv]; simp [val, dv]
/-- The parts of a canonical text: what stands ahead of the point, and what it's parsed as. -/
theorem whole_parse (z : Int) (hz : small z) : ∃ wl, Lib.cut (canon z) [46] = (wl, orZero (frac 20 z.natAbs), true) ∧ wl.length ≤ 62 ∧
    (orZero (frac 20 z.natAbs) = [48] → (toI z).2 = true → Lib.parseIntB 64 wl = .ok (toI z).1) ∧ (orZero (frac 20 z.natAbs) = [48] → (toI z).2 = false → Lib.parseIntB 64 wl = .range) ∧ (orZero (frac 20 z.natAbs) ≠ [48] → toI z = (0, false)) := by
  have hd := orZero_allD (digs_allD (z.natAbs / E20))
  have h0 : orZero (digs (z.natAbs / E20)) ≠ [] := by
    obtain ⟨c, r, hc, _⟩ := orZero_head (digs_allD (z.natAbs / E20))
    rw [hc]; simp
  have hv : val (orZero (digs (z.natAbs / E20))) = z.natAbs / E20 := by rw [orZero_val, digs_val]
  have hcl := canon_len z hz
  have hno : orZero (frac 20 z.natAbs) ≠ [48] → toI z = (0, false) := by
    intro hf
    unfold toI
    rw [if_neg]
    rintro ⟨hm, _⟩
    apply hf
    have : frac 20 z.natAbs = [] := frac_nil.2 hm
    rw [this]; rfl
  have hE := E20_pos
  have hq : z.natAbs % E20 = 0 → z = signed (decide (z < 0)) (z.natAbs / E20) * E20 := by
    intro hm
    have h1 := signed_self z
    have h2 : z.natAbs = z.natAbs / E20 * E20 := by have := Nat.div_add_mod z.natAbs E20; rw [hm, Nat.mul_comm] at this; omega
    conv => lhs; rw [← h1, h2]
    unfold signed
    cases decide (z < 0) <;> simp [Int.neg_mul]
  have hzq : z.natAbs % E20 = 0 → z / E20 = signed (decide (z < 0)) (z.natAbs / E20) := by
    intro hm
    conv => lhs; rw [hq hm]
    exact Int.mul_ediv_cancel _ (by omega)
  have hsh := canon_shape z
  rw [show (10 ^ 20 : Nat) = E20 from rfl] at hsh
  have hf20 : ∀ h : orZero (frac 20 z.natAbs) = [48], z.natAbs % E20 = 0 := fun h => frac_one 20 z.natAbs h
  generalize z.natAbs / E20 = q at *
  generalize orZero (digs q) = W at *
  generalize orZero (frac 20 z.natAbs) = P at *
  by_cases hn : z < 0
  · rw [decide_eq_true hn] at hsh hzq
    have hsh' : canon z = 45 :: (W ++ 46 :: P) := hsh
    have hpn := parseInt_neg W hd h0
    rw [hv] at hpn
    refine ⟨45 :: W, by rw [hsh']; exact cut_neg W P hd, by rw [hsh'] at hcl; simp at hcl ⊢; omega, ?_, ?_, hno⟩
    · intro hP ht
      have hm := hf20 hP
      have hzz : z / E20 = -(q : Int) := hzq hm
      unfold toI at ht ⊢
      by_cases hc : z.natAbs % E20 = 0 ∧ -9223372036854775808 ≤ z / E20 ∧ z / E20 ≤ 9223372036854775807
      · rw [if_pos hc] at ht ⊢
        rw [hpn, if_pos (by omega), hzz]
      · rw [if_neg hc] at ht; simp at ht
    · intro hP ht
      have hm := hf20 hP
      have hzz : z / E20 = -(q : Int) := hzq hm
      unfold toI at ht
      by_cases hc : z.natAbs % E20 = 0 ∧ -9223372036854775808 ≤ z / E20 ∧ z / E20 ≤ 9223372036854775807
      · rw [if_pos hc] at ht; simp at ht
      · rw [hpn, if_neg]
        intro hle
        exact hc ⟨hm, by omega, by omega⟩
  · rw [decide_eq_false hn] at hsh hzq
    have hsh' : canon z = W ++ 46 :: P := hsh
    have hpp := parseInt_pos W hd h0
    rw [hv] at hpp
    refine ⟨W, by rw [hsh']; exact cut_dot W P hd, by rw [hsh'] at hcl; simp at hcl; omega, ?_, ?_, hno⟩
    · intro hP ht
      have hm := hf20 hP
      have hzz : z / E20 = (q : Int) := hzq hm
      unfold toI at ht ⊢
      by_cases hc : z.natAbs % E20 = 0 ∧ -9223372036854775808 ≤ z / E20 ∧ z / E20 ≤ 9223372036854775807
      · rw [if_pos hc] at ht ⊢
        rw [hpp, if_pos (by omega), hzz]
      · rw [if_neg hc] at ht; simp at ht
    · intro hP ht
      have hm := hf20 hP
      have hzz : z / E20 = (q : Int) := hzq hm
      unfold toI at ht
      by_cases hc : z.natAbs % E20 = 0 ∧ -9223372036854775808 ≤ z / E20 ∧ z / E20 ≤ 9223372036854775807
      · rw [if_pos hc] at ht; simp at ht
      · rw [hpp, if_neg]
        intro hle
        exact hc ⟨hm, by omega, by omega⟩
theorem ba_toList (l : List UInt8) : (⟨l.toArray⟩ : ByteArray).toList = l := by rw [Go.ByteArray.toList_eq]
def toIR (l : List UInt8) : Int × Bool := if chk l then toI (zof l) else (0, false)
end Go.Proofs.YtjncjcellpbhcaaGreatDoor.dec

/- Plain: a whole number told digit by digit. -/
namespace Go.Proofs.YtjncjcellpbhcaaGreatDoor.dec
set_option linter.unusedVariables false
theorem dd0 (d : Nat) (h : d < 10) : Lib.decDigits d = [dg d] := by rw [Lib.decDigits, dif_pos h]; rfl
/-- One round of telling: the last digit is put ahead. -/
theorem tell_step (M : Nat) (s t : List UInt8) (h : Lib.decDigits M ++ s = t) : (M < 10 → dg (M % 10) :: s = t) ∧ (10 ≤ M → Lib.decDigits (M / 10) ++ (dg (M % 10) :: s) = t) := by
  constructor
  · intro hm
    rw [← h, dd0 M hm, Nat.mod_eq_of_lt hm]; rfl
  · intro hm
    rw [← h, Lib.decDigits.eq_1 M, dif_neg (by omega)]
    simp [dg]
end Go.Proofs.YtjncjcellpbhcaaGreatDoor.dec

/- Plain: whole numbers as texts, as the reference reads and tells them. -/
namespace Go.Proofs.YtjncjcellpbhcaaGreatDoor.dec
set_option linter.unusedVariables false
/-- The greatest amount of a whole number of that sign. -/
def wmax (neg : Bool) : Nat := if neg then 9223372036854775808 else 9223372036854775807
/-- A decimal's parts, and what it says as a whole number. -/
theorem whole_parts (l : List UInt8) (h : chk l = true) : ∃ (neg : Bool) (W P : List UInt8), l = (if neg then [45] else []) ++ (W ++ 46 :: P) ∧ allD W = true ∧ 0 < W.length ∧ allD P = true ∧ 0 < P.length ∧ l.length ≤ 62 ∧
    (22 < W.length → 10 ^ 22 ≤ val W) ∧ toIR l = if P = [48] ∧ val W ≤ wmax neg then (signed neg (val W), true) else (0, false) := by
  obtain ⟨z, hz, rfl⟩ := (chk_iff _).1 h
  have hd := orZero_allD (digs_allD (z.natAbs / E20))
  have h0 : 0 < (orZero (digs (z.natAbs / E20))).length := by
    obtain ⟨c, r, hc, _⟩ := orZero_head (digs_allD (z.natAbs / E20))
    rw [hc]; simp
  have hp := orZero_allD (frac_allD 20 z.natAbs)
  have hp0 : 0 < (orZero (frac 20 z.natAbs)).length := by
    obtain ⟨c, r, hc, _⟩ := orZero_head (frac_allD 20 z.natAbs)
    rw [hc]; simp
  have hv : val (orZero (digs (z.natAbs / E20))) = z.natAbs / E20 := by rw [orZero_val, digs_val]
  have hcl := canon_len z hz
  have hl22 : 22 < (orZero (digs (z.natAbs / E20))).length → 10 ^ 22 ≤ z.natAbs / E20 := by
    intro h1
    apply Classical.byContradiction
    intro h2
    have := (digs_lt (z.natAbs / E20) 22).2 (by omega)
    unfold orZero at h1
    split at h1
    · simp at h1
    · omega
  have hE := E20_pos
  have hq : z.natAbs % E20 = 0 → z = signed (decide (z < 0)) (z.natAbs / E20) * E20 := by
    intro hm
    have h1 := signed_self z
    have h2 : z.natAbs = z.natAbs / E20 * E20 := by have := Nat.div_add_mod z.natAbs E20; rw [hm, Nat.mul_comm] at this; omega
    conv => lhs; rw [← h1, h2]
    unfold signed
    cases decide (z < 0) <;> simp [Int.neg_mul]
  have hzq : z.natAbs % E20 = 0 → z / E20 = signed (decide (z < 0)) (z.natAbs / E20) := by
    intro hm
    conv => lhs; rw [hq hm]
    exact Int.mul_ediv_cancel _ (by omega)
  have hsh := canon_shape z
  rw [show (10 ^ 20 : Nat) = E20 from rfl] at hsh
  have hf20 : orZero (frac 20 z.natAbs) = [48] → z.natAbs % E20 = 0 := fun h => frac_one 20 z.natAbs h
  have hf21 : z.natAbs % E20 = 0 → orZero (frac 20 z.natAbs) = [48] := fun h => by
    have : frac 20 z.natAbs = [] := frac_nil.2 h
    rw [this]; rfl
  have htr : toIR (canon z) = toI z := by unfold toIR; rw [h, if_pos rfl, zof_canon z hz]
  refine ⟨decide (z < 0), orZero (digs (z.natAbs / E20)), orZero (frac 20 z.natAbs), hsh, hd, h0, hp, hp0, hcl, fun h1 => by rw [hv]; exact hl22 h1, ?_⟩
  rw [htr, hv]
  clear hsh hp hp0 hl22 hd h0 hv htr hcl hq h hz
  unfold toI
  generalize z.natAbs / E20 = q at *
  by_cases hm : z.natAbs % E20 = 0
  · have hzz := hzq hm
    rw [hf21 hm]
    rw [hzz]
    by_cases hn : z < 0
    · rw [decide_eq_true hn]
      show (if _ ∧ _ ∧ _ then (_, true) else _) = _
      have e1 : signed true q = -(q : Int) := rfl
      have e2 : wmax true = 9223372036854775808 := rfl
      rw [e1, e2]
      by_cases hb : q ≤ 9223372036854775808
      · rw [if_pos ⟨hm, by omega, by omega⟩, if_pos ⟨rfl, hb⟩]
      · rw [if_neg (fun e => hb (by omega)), if_neg (fun e => hb e.2)]
    · rw [decide_eq_false hn]
      have e1 : signed false q = (q : Int) := rfl
      have e2 : wmax false = 9223372036854775807 := rfl
      rw [e1, e2]
      by_cases hb : q ≤ 9223372036854775807
      · rw [if_pos ⟨hm, by omega, by omega⟩, if_pos ⟨rfl, hb⟩]
      · rw [if_neg (fun e => hb (by omega)), if_neg (fun e => hb e.2)]
  · rw [if_neg (fun e => hm e.1), if_neg (fun e => hm (hf20 e.1))]
/-- What a first part says is no more than what the whole says. -/
theorem val_take_le (W : List UInt8) (k : Nat) : val (W.take k) ≤ val W := by
  have h := val_append (W.take k) (W.drop k)
  rw [List.take_append_drop] at h
  have : val (W.take k) ≤ val (W.take k) * 10 ^ (W.drop k).length := Nat.le_mul_of_pos_right _ (Nat.pow_pos (by decide))
  omega
/-- The reference's test for a number that is too small. -/
theorem low_test (v k : Nat) (hv : v ≤ 9223372036854775808) (hk : k < 10) : (-(v : Int) < Int.tdiv (-9223372036854775808 + (k : Int)) 10) ↔ ¬ (v * 10 + k ≤ 9223372036854775808) := by
  have h1 : Int.tdiv (-9223372036854775808 + (k : Int)) 10 = -((9223372036854775808 - k : Nat) / 10 : Nat) := by
    rw [show (-9223372036854775808 + (k : Int)) = -((9223372036854775808 - k : Nat) : Int) by omega, Int.neg_tdiv]
    rfl
  rw [h1]
  omega
end Go.Proofs.YtjncjcellpbhcaaGreatDoor.dec

/- The reference's OfInt, and what its ToInt is read by. -/

/- Contract of the reference's ToInt. -/
namespace Go.Proofs.YtjncjcellpbhcaaGreatDoor.dec
open Go.ChangeShapes Go.WideShapes Go.ChangeAt Go.RowKit kit
set_option linter.unusedVariables false
set_option linter.unusedSimpArgs false
/-- The text of a whole number's last part. -/
theorem tail_two {a : ByteArray} {L P : List UInt8} (h : a.data.toList = L ++ 46 :: P) (hP : 0 < P.length) (hD : allD P = true) : 2 ≤ a.size ∧ ((a.extract (a.size - 2) a.size).data.toList = [46, 48] ↔ P = [48]) ∧ (P = [48] → (a.extract 0 (a.size - 2)).data.toList = L) := by
  have hs : a.size = L.length + (P.length + 1) := by
    have := congrArg List.length h
    have e1 : a.data.toList.length = a.size := by simp
    rw [e1, List.length_append, List.length_cons] at this
    exact this
  refine ⟨by omega, ?_, ?_⟩
  · rw [ByteArray.data_extract, Array.toList_extract, h]
    rw [show a.size - 2 = L.length + (P.length - 1) by omega]
    constructor
    · intro he
      have hd := congrArg (List.take 2) he
      cases P with
      | nil => simp at hP
      | cons c r =>
        cases r with
        | nil =>
          simp [List.extract_eq_take_drop, hs] at he
          rw [he]
        | cons c2 r2 =>
          exfalso
          have hlast : ∃ x y, (c :: c2 :: r2).drop (r2.length) = [x, y] := by
            have hl : ((c :: c2 :: r2).drop (r2.length)).length = 2 := by simp; omega
            match hm : (c :: c2 :: r2).drop (r2.length), hl with
            | [x, y], _ => exact ⟨x, y, rfl⟩
          obtain ⟨x, y, hxy⟩ := hlast
          have hx : isD x = true := by
            have : x ∈ (c :: c2 :: r2) := List.mem_of_mem_drop (by rw [hxy]; simp)
            exact List.all_eq_true.1 hD x this
          simp only [List.extract_eq_take_drop, List.length_cons, hs] at he
          rw [List.drop_append, List.drop_eq_nil_of_le (by omega), List.nil_append, show L.length + (r2.length + 1 + 1 - 1) - L.length = r2.length + 1 by omega, List.drop_succ_cons, hxy] at he
          have h1 : x = 46 := by
            rw [show L.length + (r2.length + 1 + 1 + 1) - (L.length + (r2.length + 1 + 1 - 1)) = 2 by omega] at he
            simp at he
            exact he.1
          rw [h1] at hx
          exact absurd hx (by decide)
    · rintro rfl
      simp [List.extract_eq_take_drop, hs]
  · rintro rfl
    rw [ByteArray.data_extract, Array.toList_extract, h]
    simp [List.extract_eq_take_drop, hs]
set_option maxRecDepth 100000 in
set_option maxHeartbeats 4000000 in
theorem rtoInt_any (a : ByteArray) (w : World) (hs : a.size ≤ 50000) :
    Calls Tryz.prog 101 #[.string a] w fun e w' => e = .returned (.tuple #[.int .i64 (toIR a.data.toList).1, .bool (toIR a.data.toList).2]) ∧ Below w.heap.size w w' := by
  have hck := fun w => rcheck_any a w hs
  have hai : (a.size : Int) ≤ 50000 := by omega
  cases hc : chk a.data.toList
  · rw [hc] at hck
    have hR : toIR a.data.toList = (0, false) := by unfold toIR; rw [hc]; rfl
    rw [hR]
    replace hck := Lib.hid hck
    clear hc hR
    go_enter Tryz.func101, Tryz.ntmps101
    go_wp2_with (go_at_call 69; refine (hck.out _).mono ?_; rintro e w1 ⟨rfl, hb1⟩)
    go_ret2
    exact ⟨rfl, hb1⟩
  · rw [hc] at hck
    obtain ⟨neg, W, P, hsh, hW, hWl, hP, hPl, hl, h22, hR⟩ := whole_parts _ hc
    have hsz : a.size = (if neg then 1 else 0) + (W.length + (P.length + 1)) := by
      have := congrArg List.length hsh
      have e1 : a.data.toList.length = a.size := by simp
      rw [e1, List.length_append, List.length_append, List.length_cons] at this
      rw [this]; cases neg <;> rfl
    obtain ⟨h2s, htl, hhd⟩ := tail_two (a := a) (L := (if neg then [45] else []) ++ W) (P := P) (by rw [hsh, List.append_assoc]) hPl hP
    rw [hR]
    generalize chk a.data.toList = ck at *
    clear hR hsh hP hl
    replace hck := Lib.hid hck
    by_cases h25 : 25 < a.size
    · have h25i : (25 : Int) < (a.size : Int) := by omega
      have e : ¬ (P = [48] ∧ val W ≤ wmax neg) := by
        rintro ⟨e1, e2⟩
        have h3 : 22 < W.length := by rw [e1] at hsz; cases neg <;> simp at hsz <;> omega
        have h4 := h22 h3
        unfold wmax at e2
        have h5 : (10 : Nat) ^ 22 = 10000000000000000000000 := by decide
        cases neg <;> simp at e2 <;> omega
      rw [if_neg e]
      clear e h22 htl hhd hsz
      go_enter Tryz.func101, Tryz.ntmps101
      go_wp2_with (go_at_call 69; refine (hck.out _).mono ?_; rintro e w1 ⟨rfl, hb1⟩)
      go_ret2
      exact ⟨rfl, hb1⟩
    · have h25i : ¬ (25 : Int) < (a.size : Int) := by omega
      by_cases hP8 : P = [48]
      · have htf : ((a.extract (a.size - 2) a.size).toList == [46, 48]) = true := by
          rw [Go.ByteArray.toList_eq, htl.2 hP8]; rfl
        obtain ⟨t, ht⟩ : ∃ t, a.extract 0 (a.size - 2) = t := ⟨_, rfl⟩
        have hhd2 := hhd hP8
        rw [ht] at hhd2
        have hts : t.size = (if neg then 1 else 0) + W.length := by
          have e1 : t.data.toList.length = t.size := by simp
          rw [← e1, hhd2, List.length_append]
          cases neg <;> rfl
        have hP1 : P.length = 1 := by rw [hP8]; rfl
        have hWl2 : W.length ≤ 24 := by cases neg <;> simp at hsz <;> omega
        have hRe : (if P = [48] ∧ val W ≤ wmax neg then (signed neg (val W), true) else ((0 : Int), false)) = if val W ≤ wmax neg then (signed neg (val W), true) else ((0 : Int), false) := by
          by_cases e : val W ≤ wmax neg
          · rw [if_pos ⟨hP8, e⟩, if_pos e]
          · rw [if_neg (fun h => e h.2), if_neg e]
        rw [hRe]
        clear hRe htl hhd hsz hP1 hP8 h22 hPl
        have hti : (t.size : Int) ≤ 50000 := by rw [hts]; cases neg <;> simp <;> omega
        have ht0 : 0 < t.size := by rw [hts]; omega
        have ht0i : (0 : Int) < (t.size : Int) := by omega
        have ht1i : (1 : Int) ≤ (t.size : Int) := by omega
        cases neg
        · have hu : t.data.toList = W := hhd2
          have hus : t.size = W.length := by simpa using hts
          obtain ⟨n, hn⟩ : ∃ n, t[0].toNat = n := ⟨_, rfl⟩
          have hn5 : ((n : Int) == 45) = false := by
            obtain ⟨r, hr, _⟩ := first_tail ht0
            rw [hu] at hr
            have h1 : isD t[0] = true := by
              rw [hr] at hW
              rw [allD_cons, Bool.and_eq_true] at hW
              exact hW.1
            unfold isD at h1
            rw [hn] at h1
            have := of_decide_eq_true h1
            exact beq_eq_false_iff_ne.2 (by omega)
          obtain ⟨r, hrr⟩ : ∃ r, (if val W ≤ wmax false then (signed false (val W), true) else ((0 : Int), false)) = r := ⟨_, rfl⟩
          rw [hrr]
          replace hrr := Lib.hid hrr
          clear hhd2 hts
          replace hu := Lib.hid hu
          replace hW := Lib.hid hW
          go_enter Tryz.func101, Tryz.ntmps101
          go_upto_region 8 with (go_at_call 69; refine (hck.out _).mono ?_; rintro e w1 ⟨rfl, hb1⟩)
          obtain ⟨u, rfl⟩ : ∃ u : ByteArray, u = t := ⟨_, rfl⟩
          rw [ht] at *
          clear ht
          replace htf := Lib.hid htf
          have huz : u.size = W.length := by rw [← hu.out]; simp
          have hui : (u.size : Int) ≤ 24 := by omega
          go_wp2_with fail
          go_loop [4, 7] (fun v4 v7 => ∃ i v : Nat, i ≤ u.size ∧ v7 = .int .i64 i ∧ v4 = .int .i64 (-(v : Int)) ∧ Hid (v = val (W.take i)) ∧ v ≤ 9223372036854775808) (fun _ v7 => u.size - (intOf v7).toNat)
          case atStart => exact ⟨0, 0, by omega, rfl, rfl, rfl, by omega⟩
          case round =>
            obtain ⟨i, v, hi, rfl, rfl, hv, hv63⟩ := hrel
            have hii : (i : Int) ≤ 24 := by omega
            by_cases hlt : i < u.size
            · have hlti : (i : Int) < (u.size : Int) := by omega
              have htk := take_at hu.out i hlt
              have hdr := drop_at hu.out i hlt
              obtain ⟨n, hn⟩ : ∃ n, (u[i]'hlt).toNat = n := ⟨_, rfl⟩
              have hid : isD (u[i]'hlt) = true := by
                have h1 := allD_drop i hW.out
                rw [hdr, allD_cons, Bool.and_eq_true] at h1
                exact h1.1
              have hdv : dv (u[i]'hlt) = n - 48 := by unfold dv; rw [hn]
              unfold isD at hid
              rw [hn] at hid
              have hn48 := of_decide_eq_true hid
              have hw48 := wrap48 hn48
              have hv2 : val (W.take (i + 1)) = v * 10 + (n - 48) := by rw [htk, val_snoc, ← hv.out, hdv]
              have hle := val_take_le W (i + 1)
              rw [hv2] at hle
              have htest := low_test v (n - 48) hv63 (by omega)
              obtain ⟨k, hk⟩ : ∃ k, n - 48 = k := ⟨_, rfl⟩
              rw [hk] at hv2 hle htest hw48
              have hk10 : k < 10 := by omega
              clear hdv hid hdr htk
              have hkn : (k : Int) = (n : Int) - 48 := by omega
              rw [hkn] at htest
              have hn57 : (n : Int) ≤ 57 := by omega
              have hn47 : 48 ≤ (n : Int) := by omega
              replace hv2 := Lib.hid hv2
              by_cases hov : v * 10 + k ≤ 9223372036854775808
              · have hte : ¬ (-(v : Int) < Int.tdiv (-9223372036854775808 + ((n : Int) - 48)) 10) := fun e => htest.1 e hov
                clear htest
                go_wp2
                refine ⟨⟨i + 1, v * 10 + k, by omega, congrArg _ (by omega), congrArg _ (by omega), hv2.out.symm, hov⟩, ?_⟩
                simp only [intOf]
                omega
              · have hte : (-(v : Int) < Int.tdiv (-9223372036854775808 + ((n : Int) - 48)) 10) := htest.2 hov
                have hr2 := hrr.out
                rw [if_neg (by unfold wmax; simp; omega)] at hr2
                subst hr2
                clear htest
                go_wp2
                go_ret2
                exact ⟨rfl, hb1⟩
            · obtain rfl : i = u.size := by omega
              have hvv : v = val W := by rw [hv.out, List.take_of_length_le (by omega)]
              have hr2 := hrr.out
              rw [← hvv] at hr2
              clear hvv
          
              by_cases hmx : v = 9223372036854775808
              · have hmi : ((-(v : Int)) == -9223372036854775808) = true := by rw [hmx]; rfl
                rw [if_neg (by unfold wmax; simp; omega)] at hr2
                subst hr2
                go_wp2
                go_ret2
                exact ⟨rfl, hb1⟩
              · have hmi : ((-(v : Int)) == -9223372036854775808) = false := beq_eq_false_iff_ne.2 (by omega)
                rw [if_pos (by unfold wmax; simp; omega)] at hr2
                subst hr2
                go_wp2
                go_ret2
                exact ⟨by simp [signed], hb1⟩
        · have hsp : t.data.toList = 45 :: W := hhd2
          obtain ⟨hu, hul⟩ := tail_list hsp
          have hus : t.size = W.length + 1 := by simp at hts; omega
          obtain ⟨n, hn⟩ : ∃ n, t[0].toNat = n := ⟨_, rfl⟩
          obtain rfl : n = 45 := by rw [← hn]; exact first_eq hsp ht0
          obtain ⟨r, hrr⟩ : ∃ r, (if val W ≤ wmax true then (signed true (val W), true) else ((0 : Int), false)) = r := ⟨_, rfl⟩
          rw [hrr]
          replace hrr := Lib.hid hrr
          clear hhd2 hts hsp
          replace hu := Lib.hid hu
          replace hW := Lib.hid hW
          go_enter Tryz.func101, Tryz.ntmps101
          go_upto_region 8 with (go_at_call 69; refine (hck.out _).mono ?_; rintro e w1 ⟨rfl, hb1⟩)
          generalize t.extract 1 (W.length + 1) = u at *
          rw [ht] at *
          clear ht
          replace htf := Lib.hid htf
          have huz : u.size = W.length := by rw [← hu.out]; simp
          have hui : (u.size : Int) ≤ 24 := by omega
          go_wp2_with fail
          go_loop [4, 7] (fun v4 v7 => ∃ i v : Nat, i ≤ u.size ∧ v7 = .int .i64 i ∧ v4 = .int .i64 (-(v : Int)) ∧ Hid (v = val (W.take i)) ∧ v ≤ 9223372036854775808) (fun _ v7 => u.size - (intOf v7).toNat)
          case atStart => exact ⟨0, 0, by omega, rfl, rfl, rfl, by omega⟩
          case round =>
            obtain ⟨i, v, hi, rfl, rfl, hv, hv63⟩ := hrel
            have hii : (i : Int) ≤ 24 := by omega
            by_cases hlt : i < u.size
            · have hlti : (i : Int) < (u.size : Int) := by omega
              have htk := take_at hu.out i hlt
              have hdr := drop_at hu.out i hlt
              obtain ⟨n, hn⟩ : ∃ n, (u[i]'hlt).toNat = n := ⟨_, rfl⟩
              have hid : isD (u[i]'hlt) = true := by
                have h1 := allD_drop i hW.out
                rw [hdr, allD_cons, Bool.and_eq_true] at h1
                exact h1.1
              have hdv : dv (u[i]'hlt) = n - 48 := by unfold dv; rw [hn]
              unfold isD at hid
              rw [hn] at hid
              have hn48 := of_decide_eq_true hid
              have hw48 := wrap48 hn48
              have hv2 : val (W.take (i + 1)) = v * 10 + (n - 48) := by rw [htk, val_snoc, ← hv.out, hdv]
              have hle := val_take_le W (i + 1)
              rw [hv2] at hle
              have htest := low_test v (n - 48) hv63 (by omega)
              obtain ⟨k, hk⟩ : ∃ k, n - 48 = k := ⟨_, rfl⟩
              rw [hk] at hv2 hle htest hw48
              have hk10 : k < 10 := by omega
              clear hdv hid hdr htk
              have hkn : (k : Int) = (n : Int) - 48 := by omega
              rw [hkn] at htest
              have hn57 : (n : Int) ≤ 57 := by omega
              have hn47 : 48 ≤ (n : Int) := by omega
              replace hv2 := Lib.hid hv2
              by_cases hov : v * 10 + k ≤ 9223372036854775808
              · have hte : ¬ (-(v : Int) < Int.tdiv (-9223372036854775808 + ((n : Int) - 48)) 10) := fun e => htest.1 e hov
                clear htest
                go_wp2
                refine ⟨⟨i + 1, v * 10 + k, by omega, congrArg _ (by omega), congrArg _ (by omega), hv2.out.symm, hov⟩, ?_⟩
                simp only [intOf]
                omega
              · have hte : (-(v : Int) < Int.tdiv (-9223372036854775808 + ((n : Int) - 48)) 10) := htest.2 hov
                have hr2 := hrr.out
                rw [if_neg (by unfold wmax; simp; omega)] at hr2
                subst hr2
                clear htest
                go_wp2
                go_ret2
                exact ⟨rfl, hb1⟩
            · obtain rfl : i = u.size := by omega
              have hvv : v = val W := by rw [hv.out, List.take_of_length_le (by omega)]
              have hr2 := hrr.out
              rw [← hvv] at hr2
              clear hvv
          
              by_cases hmx : v ≤ 9223372036854775808
              · rw [if_pos (by unfold wmax; simpa using hmx)] at hr2
                subst hr2
                go_wp2
                go_ret2
                exact ⟨rfl, hb1⟩
              · exact absurd hv63 hmx
      · rw [if_neg (fun e => hP8 e.1)]
        have htf : ((a.extract (a.size - 2) a.size).toList == [46, 48]) = false := by
          rw [Go.ByteArray.toList_eq]
          exact beq_eq_false_iff_ne.2 (fun e => hP8 (htl.1 e))
        clear h22 htl hhd hsz
        go_enter Tryz.func101, Tryz.ntmps101
        go_wp2_with (go_at_call 69; refine (hck.out _).mono ?_; rintro e w1 ⟨rfl, hb1⟩)
        go_ret2
        exact ⟨rfl, hb1⟩
end Go.Proofs.YtjncjcellpbhcaaGreatDoor.dec

/- Contract of the reference's OfInt. -/
namespace Go.Proofs.YtjncjcellpbhcaaGreatDoor.dec
open Go.ChangeShapes Go.WideShapes Go.ChangeAt Go.RowKit kit
set_option linter.unusedVariables false
set_option linter.unusedSimpArgs false
/-- What the reference's OfInt has told so far. -/
structure OI (n m : Int) (s : ByteArray) (w wr : World) : Prop where
  tell : Lib.decDigits m.natAbs ++ s.data.toList = Lib.decDigits n.natAbs
  lo : -9223372036854775808 ≤ m
  hi : m ≤ 9223372036854775807
  below : Below w.heap.size w wr
theorem tmod10 (m : Int) : (m < 0 → m.tmod 10 = -((m.natAbs % 10 : Nat) : Int)) ∧ (0 ≤ m → m.tmod 10 = ((m.natAbs % 10 : Nat) : Int)) := by
  constructor
  · intro h
    conv => lhs; rw [show m = -((m.natAbs : Nat) : Int) by omega, Int.neg_tmod]
    rfl
  · intro h
    conv => lhs; rw [show m = ((m.natAbs : Nat) : Int) by omega]
    rfl
theorem tdiv10 (m : Int) : (m.tdiv 10).natAbs = m.natAbs / 10 := by
  rw [Int.natAbs_tdiv]; rfl
theorem tdiv10_in (m : Int) (h0 : -9223372036854775808 ≤ m) (h1 : m ≤ 9223372036854775807) : -9223372036854775808 ≤ m.tdiv 10 ∧ m.tdiv 10 ≤ 9223372036854775807 := by
  have := tdiv10 m
  omega
theorem dec_len (n : Int) (h0 : -9223372036854775808 ≤ n) (h1 : n ≤ 9223372036854775807) : (Lib.decDigits n.natAbs).length ≤ 62 := by
  have h2 := canon_len (n * E20) (ofInt_small n h0 h1)
  rw [← itoa_canon n, List.length_append] at h2
  unfold Lib.itoa at h2
  split at h2
  · simp at h2; omega
  · rw [show n.toNat = n.natAbs by omega] at h2; simp at h2; omega
set_option maxRecDepth 100000 in
set_option maxHeartbeats 4000000 in
theorem rofInt_any (n : Int) (w : World) (h0 : -9223372036854775808 ≤ n) (h1 : n ≤ 9223372036854775807) :
    Calls Tryz.prog 65 #[.int .i64 n] w fun e w' => e = .returned (.string (tx (canon (n * E20)))) ∧ Below w.heap.size w w' := by
  have hci := itoa_canon n
  have hdl := dec_len n h0 h1
  generalize canon (n * E20) = R at *
  have hneg : n < 0 → ∀ s : ByteArray, s.data.toList = Lib.decDigits n.natAbs → (⟨#[45]⟩ ++ s) ++ ⟨#[46, 48]⟩ = tx R := fun h s hs => by
    apply ba_ext
    rw [← hci]
    unfold Lib.itoa
    rw [if_pos h, ← hs]
    simp
  have hpos : ¬ n < 0 → ∀ s : ByteArray, s.data.toList = Lib.decDigits n.natAbs → s ++ ⟨#[46, 48]⟩ = tx R := fun h s hs => by
    apply ba_ext
    rw [← hci]
    unfold Lib.itoa
    rw [if_neg h, show n.toNat = n.natAbs by omega, ← hs]
    simp
  clear hci
  replace hneg := Lib.hid hneg
  replace hpos := Lib.hid hpos
  go_enter Tryz.func65, Tryz.ntmps65
  go_wp2
  go_loopw [3, 4] (fun v3 v4 wr => ∃ (m : Int) (s : ByteArray), v3 = .string s ∧ v4 = .int .i64 m ∧ Hid (OI n m s w wr)) (fun _ v4 _ => (intOf v4).natAbs)
  case atStart => exact ⟨n, _, rfl, rfl, ⟨by show _ ++ [] = _; rw [List.append_nil], h0, h1, Below.refl _ _⟩⟩
  case round =>
    obtain ⟨m, s, rfl, rfl, hr⟩ := hrel
    obtain ⟨ht, m0, m1, hbe⟩ := hr.out
    have hss : s.size ≤ 62 := by
      have := congrArg List.length ht
      rw [List.length_append] at this
      have : s.data.toList.length = s.size := by simp
      omega
    obtain ⟨d, hd⟩ : ∃ d : Nat, m.natAbs % 10 = d := ⟨_, rfl⟩
    have hd10 : d < 10 := by omega
    have hst := tell_step m.natAbs s.data.toList _ ht
    have hm1 := tmod10 m
    have hq1 := tdiv10 m
    have hq2 := tdiv10_in m m0 m1
    rw [hd] at hst hm1
    have hdi : (d : Int) < 10 := by omega
    replace hr := Lib.hid hr
    replace ht := Lib.hid ht
    replace hst := Lib.hid hst
    replace hbe := Lib.hid hbe
    go_upto_if 10 with (fail)
    go_cut [5] (fun v wx => v = .int .i64 d ∧ wx = wr)
    case first =>
      as_aux_lemma =>
        by_cases hm : m < 0
        · have e := hm1.1 hm
          by_cases hd0 : d = 0
          · have e2 : m.tmod 10 = 0 := by omega
            rw [e2]
            subst hd0
            go_wp2
            go_meet
            exact ⟨rfl, rfl⟩
          · have e2 : m.tmod 10 < 0 := by omega
            go_wp2
            go_meet
            first | exact ⟨by rw [e]; congr 1; omega, rfl⟩ | exact ⟨rfl, rfl⟩
        · have e := hm1.2 (by omega)
          have e2 : ¬ m.tmod 10 < 0 := by omega
          rw [e] at e2 ⊢
          go_wp2
          go_meet
          exact ⟨rfl, rfl⟩
    obtain ⟨rfl, hwx⟩ := hcut
    rw [hwx]; clear hwx
    have hcb : (convert 23 9 (.slice (some ⟨wr.heap.size, 0, none⟩) 1 1)).run Tryz.prog (wr.alloc (.cells #[.int .u8 (48 + (d : Int))] 5)) = .ok (.string ⟨#[dg d]⟩) (wr.alloc (.cells #[.int .u8 (48 + (d : Int))] 5)) :=
      run_convert_bytes_back (P := Tryz.prog) (wr.alloc (.cells #[.int .u8 (48 + (d : Int))] 5)) 23 9 5 ⟨wr.heap.size, 0, none⟩ 1 [dg d] Tryz.underlying23 Tryz.underlying5 Tryz.underlying9 (fun j hj => by
        obtain rfl : j = 0 := by simpa using hj
        rw [news_one wr (.int .u8 (48 + (d : Int))) 5 0 _ rfl]
        simp [dg_toNat hd10])
    have hsz : ((⟨#[dg d]⟩ : ByteArray).size : Int) + (s.size : Int) ≤ 9223372036854775807 := by
      have : (⟨#[dg d]⟩ : ByteArray).size = 1 := rfl
      rw [this]; omega
    have hbe2 := Lib.hid (hbe.out.alloc hbe.out.size (.cells #[.int .u8 (48 + (d : Int))] 5))
    obtain ⟨s2, hs2⟩ : ∃ s2 : ByteArray, (⟨#[dg d]⟩ : ByteArray) ++ s = s2 := ⟨_, rfl⟩
    have hs2l : s2.data.toList = dg d :: s.data.toList := by rw [← hs2]; simp
    have hs2s : s2.size ≤ 63 := by
      have := congrArg List.length hs2l
      have e1 : s2.data.toList.length = s2.size := by simp
      have e2 : s.data.toList.length = s.size := by simp
      rw [List.length_cons] at this
      omega
    rw [← hs2l] at hst
    clear hs2l
    replace hs2 := Lib.hid hs2
    go_upto_region 7 with (fail)
    generalize wr.alloc (.cells #[.int .u8 (48 + (d : Int))] 5) = w2 at *
    clear hcb
    rw [hs2.out]
    clear hs2
    by_cases hz : m.natAbs < 10
    · have e : m.tdiv 10 = 0 := by omega
      have hdone := hst.out.1 hz
      clear hq1 hq2 hst hm1 hr ht
      by_cases hn : n < 0
      · have hR := hneg.out hn s2 hdone
        have z1 : ((⟨#[45]⟩ : ByteArray).size : Int) + (s2.size : Int) ≤ 9223372036854775807 := by
          have : (⟨#[45]⟩ : ByteArray).size = 1 := rfl
          rw [this]; omega
        have z2 : (((⟨#[45]⟩ : ByteArray) ++ s2).size : Int) + ((⟨#[46, 48]⟩ : ByteArray).size : Int) ≤ 9223372036854775807 := by
          have h3 : (⟨#[45]⟩ : ByteArray).size = 1 := rfl
          have h4 : (⟨#[46, 48]⟩ : ByteArray).size = 2 := rfl
          rw [ByteArray.size_append, h3, h4]; omega
        replace hR := Lib.hid hR
        go_wp2
        go_ret
        exact ⟨by rw [hR.out]; rfl, hbe2.out⟩
      · have hR := hpos.out (by omega) s2 hdone
        have z2 : (s2.size : Int) + ((⟨#[46, 48]⟩ : ByteArray).size : Int) ≤ 9223372036854775807 := by
          have h4 : (⟨#[46, 48]⟩ : ByteArray).size = 2 := rfl
          rw [h4]; omega
        replace hR := Lib.hid hR
        go_wp2
        go_ret
        exact ⟨by rw [hR.out]; rfl, hbe2.out⟩
    · have e : (m.tdiv 10 == 0) = false := beq_eq_false_iff_ne.2 (by omega)
      have hnx : OI n (m.tdiv 10) s2 w w2 := ⟨by rw [hq1]; exact hst.out.2 (by omega), hq2.1, hq2.2, hbe2.out⟩
      replace hnx := Lib.hid hnx
      have hlt2 : (m.tdiv 10).natAbs < m.natAbs := by omega
      clear hst hm1 hr ht
      go_wp2
      go_roundw
      case rel => exact ⟨m.tdiv 10, s2, rfl, rfl, hnx⟩
      case measure => exact hlt2
end Go.Proofs.YtjncjcellpbhcaaGreatDoor.dec
