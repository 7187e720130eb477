/- Bits of whole numbers that are sets. -/
import Derived.Laws.BitsAllLaws
import Derived.IntWalk
import Derived.Test.YtnocncmjdhlmkaaHypB
namespace Go.Proofs.Ytnocncmjdhlmkaa.hyp
set_option linter.unusedVariables false
theorem ofInt_i64 (a : Nat) (ha : a < 65536) : (BitVec.ofInt 64 (a : Int)).toNat = a := by
  rw [BitVec.ofInt_natCast, BitVec.toNat_ofNat]; exact Nat.mod_eq_of_lt (by omega)
theorem i64_small (n : Nat) (h : n < 65536) : IntKind.i64.wrap (n : Int) = n := IntWalk.i64_in _ (by omega)
theorem i64_and_nat (a b : Nat) (ha : a < 65536) (hb : b < 65536) : Go.bits .and .i64 (a : Int) (b : Int) = ((a &&& b : Nat) : Int) := by
  have hx : a &&& b < 65536 := Nat.lt_of_le_of_lt Nat.and_le_left ha
  show IntKind.i64.wrap ((BitVec.ofInt 64 (a : Int) &&& BitVec.ofInt 64 (b : Int)).toNat : Int) = _
  rw [BitVec.toNat_and, ofInt_i64 a ha, ofInt_i64 b hb, i64_small _ hx]
theorem i64_or_nat (a b : Nat) (ha : a < 65536) (hb : b < 65536) : Go.bits .or .i64 (a : Int) (b : Int) = ((a ||| b : Nat) : Int) := by
  have hx : a ||| b < 65536 := or_lt ha hb
  show IntKind.i64.wrap ((BitVec.ofInt 64 (a : Int) ||| BitVec.ofInt 64 (b : Int)).toNat : Int) = _
  rw [BitVec.toNat_or, ofInt_i64 a ha, ofInt_i64 b hb, i64_small _ hx]
theorem i64_andNot_nat (a b : Nat) (ha : a < 65536) (hb : b < 65536) : Go.bits .andNot .i64 (a : Int) (b : Int) = ((minus a b : Nat) : Int) := by
  have hx : minus a b < 65536 := minus_lt a b ha
  show IntKind.i64.wrap ((BitVec.ofInt 64 (a : Int) &&& ~~~BitVec.ofInt 64 (b : Int)).toNat : Int) = _
  have e : (BitVec.ofInt 64 (a : Int) &&& ~~~BitVec.ofInt 64 (b : Int)).toNat = minus a b := by
    rw [BitVec.toNat_and, BitVec.toNat_not, ofInt_i64 a ha, ofInt_i64 b hb]
    apply Nat.eq_of_testBit_eq
    intro i
    rw [testBit_minus ha hb, Nat.testBit_and]
    have := Nat.testBit_two_pow_sub_succ (x := b) (n := 64) (by omega) i
    rw [show (2 ^ 64 - (b + 1) : Nat) = 2 ^ 64 - 1 - b by omega] at this
    rw [this]
    cases h : a.testBit i
    · rfl
    · have := lt16 ha h
      simp
      omega
  rw [e, i64_small _ hx]
/-- A bit asked for by a shift. -/
theorem shift_bit (s k : Nat) : (s / 2 ^ k) % 2 = if s.testBit k then 1 else 0 := by
  rw [Nat.testBit_eq_decide_div_mod_eq]
  split
  · rename_i h; simpa using h
  · rename_i h
    have : ¬ s / 2 ^ k % 2 = 1 := by simpa using h
    omega
end Go.Proofs.Ytnocncmjdhlmkaa.hyp
