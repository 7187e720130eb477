/- Contracts of decimal.told, numeral, Read, Check. -/
import Derived.Test.YthecgifgjagmaaaGreatDoorDecTold
import Derived.Shelf.Strings.SlTrimAscii
namespace Go.Proofs.YthecgifgjagmaaaGreatDoor.dec
open Go.ChangeShapes Go.WideShapes Go.ChangeAt Go.RowKit kit
set_option linter.unusedVariables false

/-- A text and an error's number, as a call's two results. -/
def rv (p : List UInt8 × Int) : Value := .tuple #[.string (tx p.1), .int .i64 p.2]
theorem toldP_eq (neg : Bool) (l : List UInt8) (k sc : Nat) (hl : l.length = k + sc) (hd : allD l = true) :
    (toldL neg (trimL (l.take k)) (trimR ((l.drop k).take sc)), toldE neg (trimL (l.take k)) (trimR ((l.drop k).take sc))) = toldP neg (val l) sc := by
  have e1 : (l.drop k).take sc = l.drop k := List.take_of_length_le (by rw [List.length_drop]; omega)
  have e2 : val l = val (l.take k) * 10 ^ sc + val (l.drop k) := by
    conv => lhs; rw [← List.take_append_drop k l]
    rw [val_append, List.length_drop, hl, Nat.add_sub_cancel_left]
  have e3 : val (l.drop k) < 10 ^ sc := by have := val_lt (allD_drop k hd); rwa [List.length_drop, hl, Nat.add_sub_cancel_left] at this
  have e4 : val l / 10 ^ sc = val (l.take k) := by rw [e2, Nat.add_comm, Nat.add_mul_div_right _ _ (Nat.pow_pos (by decide)), Nat.div_eq_of_lt e3, Nat.zero_add]
  have e5 : trimL (l.take k) = digs (val l / 10 ^ sc) := by rw [trimL_eq (allD_take k hd), e4]
  have e6 : trimR (l.drop k) = frac sc (val l) := by
    rw [trimR_eq (allD_drop k hd), List.length_drop, hl, Nat.add_sub_cancel_left, ← frac_mod sc (val l), e2, Nat.add_comm, Nat.add_mul_mod_self_right, Nat.mod_eq_of_lt e3]
  have e7 : (digs (val l / 10 ^ sc) = [] ∧ frac sc (val l) = []) ↔ val l = 0 := by
    rw [digs_nil, frac_nil]
    have h0 : 0 < 10 ^ sc := Nat.pow_pos (by decide)
    constructor
    · intro ⟨h1, h2⟩
      have := Nat.div_add_mod (val l) (10 ^ sc)
      rw [h1, h2] at this; simpa using this.symm
    · intro h; rw [h]; simp
  rw [e1, e5, e6]
  unfold toldP told toldL toldE
  by_cases hc : 40 < (digs (val l / 10 ^ sc)).length ∨ 20 < (frac sc (val l)).length
  · simp only [if_pos hc]
  · simp only [if_neg hc, e7]

theorem told_any (neg : Bool) (s : ByteArray) (sc : Nat) (w : World) (hd : allD s.data.toList = true) (hsz : s.size ≤ 100000) (hsc : sc ≤ 100000) :
    Calls Tryz.prog 143 #[.bool neg, .string s, .int .i64 sc] w fun e w' => e = .returned (rv (toldP neg (val s.data.toList) sc)) ∧ Below w.heap.size w w' := by
  have hlen : s.data.toList.length = s.size := rfl
  by_cases h : sc < s.size
  · obtain ⟨k, hk⟩ : ∃ k, s.size = k + sc := ⟨s.size - sc, by omega⟩
    have := toldP_eq neg s.data.toList k sc (by omega) hd
    rw [← this]
    exact told_walk neg s k sc w hk (by omega) (by omega) hsc
  · have hl : allD (List.replicate (sc + 1 - s.size) 48 ++ s.data.toList) = true := by simp [allD_replicate, hd]
    have := toldP_eq neg (List.replicate (sc + 1 - s.size) 48 ++ s.data.toList) 1 sc (by rw [List.length_append, List.length_replicate]; omega) hl
    rw [val_append, val_replicate, Nat.zero_mul, Nat.zero_add, List.drop_one] at this
    rw [← this]
    exact told_walk2 neg s sc w (by omega) hsc _ rfl

/-! ### numeral -/
def numB (l : List UInt8) : Bool := !l.isEmpty && allD l
def digits10 : ByteArray := ⟨#[48, 49, 50, 51, 52, 53, 54, 55, 56, 57]⟩
theorem in_digits_fin : ∀ n : Fin 256, digits10.data.toList.contains (UInt8.ofNat n.val) = isD (UInt8.ofNat n.val) := by decide +kernel
theorem in_digits (c : UInt8) : digits10.data.toList.contains c = isD c := by
  have := in_digits_fin ⟨c.toNat, c.toNat_lt⟩
  simpa using this
theorem dw_nil (p : UInt8 → Bool) (m : List UInt8) : (m.dropWhile p).isEmpty = m.all p := by
  induction m with
  | nil => rfl
  | cons a m ih =>
    by_cases h : p a = true
    · rw [List.dropWhile_cons_of_pos h, ih, List.all_cons, h, Bool.true_and]
    · rw [List.dropWhile_cons_of_neg h, List.all_cons, Bool.eq_false_iff.2 h]; rfl
theorem dw_all (p : UInt8 → Bool) (m : List UInt8) : (m.dropWhile p).all p = m.all p := by
  induction m with
  | nil => rfl
  | cons a m ih =>
    by_cases h : p a = true
    · rw [List.dropWhile_cons_of_pos h, ih, List.all_cons, h, Bool.true_and]
    · rw [List.dropWhile_cons_of_neg h]
theorem trimS_nil (l : List UInt8) : (Lib.trimS l digits10.data.toList).isEmpty = allD l := by
  unfold Lib.trimS Lib.trimLeftS Lib.trimRightS
  rw [dw_nil, List.all_reverse, dw_all, List.all_reverse]
  unfold allD
  congr 1
  funext c
  exact in_digits c
theorem numeral_any (s : ByteArray) (w : World) (hs : s.size ≤ 9223372036854775807) :
    Calls Tryz.prog 160 #[.string s] w fun e w' => e = .returned (.bool (numB s.data.toList)) ∧ Below w.heap.size w w' := by
  have hb := trimS_nil s.data.toList
  by_cases h : s.data.toList = []
  · have h1 : s.toList.isEmpty = true := by rw [Go.ByteArray.toList_eq, h]; rfl
    have h2 : s.toList = [] := by rw [Go.ByteArray.toList_eq]; exact h
    have e : numB s.data.toList = false := by unfold numB; rw [h]; rfl
    replace e := Lib.hid e
    clear h hb
    go_enter Tryz.func160, Tryz.ntmps160
    go_wp2
    go_ret
    exact ⟨ret_bool e.out.symm, Below.refl _ _⟩
  · have h1 : s.toList.isEmpty = false := by rw [Go.ByteArray.toList_eq]; exact Bool.eq_false_iff.2 (fun e => h (List.isEmpty_iff.1 e))
    have e : numB s.data.toList = (Lib.trimS s.data.toList digits10.data.toList).isEmpty := by
      rw [hb]; unfold numB
      cases hl : s.data.toList with
      | nil => exact absurd hl h
      | cons c l => rfl
    replace e := Lib.hid e
    clear h hb
    go_enter Tryz.func160, Tryz.ntmps160
    go_wp2_with fail
    refine (Any.strings_Trim_laid Tryz.lays160 (by kernel_rfl) s digits10 _ hs (by decide) (ascii_of_all (by decide))).mono ?_
    rintro e' w' ⟨rfl, hb⟩
    go_wp2
    go_ret
    exact ⟨ret_bool e.out.symm, hb⟩
end Go.Proofs.YthecgifgjagmaaaGreatDoor.dec
