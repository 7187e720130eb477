/- Texts VIntsP, RIntsP, VArithP, one behind the other. -/
import Derived.Test.YtjncjcellpbhcaaGreatDoorVJoinA
import Derived.IntWalk
import Derived.Test.YtjncjcellpbhcaaGreatDoorRefIntA
import Derived.Test.YtjncjcellpbhcaaGreatDoorDecC
import Derived.Test.YtjncjcellpbhcaaGreatDoorRefOpsA
import Derived.Test.YtjncjcellpbhcaaGreatDoorVKit
/- Plain: which sums, differences, products and quotients of whole numbers fit. -/
namespace Go.Proofs.YtjncjcellpbhcaaGreatDoor.val
open Go.ChangeShapes Go.WideShapes Go.ChangeAt Go.RowKit kit dec
set_option linter.unusedVariables false
set_option linter.unusedSimpArgs false
/-- A whole number told, or that it does not fit. -/
def inR (n : Int) : Value := if -9223372036854775808 ≤ n ∧ n ≤ 9223372036854775807 then .tuple #[.agg #[.int .i64 2, .bool false, .int .i64 n, .string ByteArray.empty, .string ByteArray.empty, .slice none 0 0], .int .i64 0] else .tuple #[zeroV, .int .i64 2]
/-- What an operation makes of two whole numbers. -/
def intsR (s : Bool) (op a b : Int) : Value :=
  if op = 17 then inR (a + b) else if op = 18 then inR (a - b) else if op = 19 then inR (a * b)
  else if b = 0 then .tuple #[zeroV, .int .i64 3]
  else if op = 21 then inR (a.tmod b)
  else if op = 20 ∧ s = true then wholeR (divT (canon (a * E20)) (canon (b * E20)))
  else inR (a.tdiv b)
theorem inR_yes {n : Int} (h : -9223372036854775808 ≤ n ∧ n ≤ 9223372036854775807) : inR n = .tuple #[.agg #[.int .i64 2, .bool false, .int .i64 n, .string ByteArray.empty, .string ByteArray.empty, .slice none 0 0], .int .i64 0] := by unfold inR; rw [if_pos h]
theorem inR_no {n : Int} (h : ¬ (-9223372036854775808 ≤ n ∧ n ≤ 9223372036854775807)) : inR n = .tuple #[zeroV, .int .i64 2] := by unfold inR; rw [if_neg h]
theorem add_fits (a b : Int) (ha : In64 a) (hb : In64 b) : ∃ m, IntKind.i64.wrap (a + b) = m ∧ ((-9223372036854775808 ≤ a + b ∧ a + b ≤ 9223372036854775807) → m = a + b ∧ (decide (a < m) == decide (0 < b)) = true) ∧ (¬ (-9223372036854775808 ≤ a + b ∧ a + b ≤ 9223372036854775807) → (decide (a < m) == decide (0 < b)) = false) := by
  refine ⟨_, rfl, ?_, ?_⟩
  · intro h
    rw [IntWalk.i64_in _ h]
    refine ⟨rfl, ?_⟩
    simp; omega
  · intro h
    unfold In64 at ha hb
    rw [IntKind.wrap_i64]
    by_cases h1 : 0 < b
    · rw [decide_eq_true h1, decide_eq_false (by omega)]; rfl
    · rw [decide_eq_false h1, decide_eq_true (by omega)]; rfl
theorem sub_fits (a b : Int) (ha : In64 a) (hb : In64 b) : ∃ m, IntKind.i64.wrap (a - b) = m ∧ ((-9223372036854775808 ≤ a - b ∧ a - b ≤ 9223372036854775807) → m = a - b ∧ (decide (m < a) == decide (0 < b)) = true) ∧ (¬ (-9223372036854775808 ≤ a - b ∧ a - b ≤ 9223372036854775807) → (decide (m < a) == decide (0 < b)) = false) := by
  refine ⟨_, rfl, ?_, ?_⟩
  · intro h
    rw [IntWalk.i64_in _ h]
    refine ⟨rfl, ?_⟩
    simp; omega
  · intro h
    unfold In64 at ha hb
    rw [IntKind.wrap_i64]
    by_cases h1 : 0 < b
    · rw [decide_eq_true h1, decide_eq_false (by omega)]; rfl
    · rw [decide_eq_false h1, decide_eq_true (by omega)]; rfl
theorem mul_in (a b : Int) (h0 : a ≠ 0) (h : -9223372036854775808 ≤ a * b ∧ a * b ≤ 9223372036854775807) (hb : In64 b) : IntKind.i64.wrap (a * b) = a * b ∧ IntKind.i64.wrap ((a * b).tdiv a) = b ∧ ¬ (a = -1 ∧ b = -9223372036854775808) := by
  refine ⟨IntWalk.i64_in _ h, ?_, ?_⟩
  · rw [Int.mul_tdiv_cancel_left b h0]; exact IntWalk.i64_in _ hb
  · rintro ⟨rfl, rfl⟩; omega
theorem mul_out (a b : Int) (ha : In64 a) (hb : In64 b) (h0 : a ≠ 0) (h : ¬ (-9223372036854775808 ≤ a * b ∧ a * b ≤ 9223372036854775807)) (h1 : ¬ (a = -1 ∧ b = -9223372036854775808)) : IntKind.i64.wrap ((IntKind.i64.wrap (a * b)).tdiv a) ≠ b := by
  unfold In64 at ha hb
  by_cases hm : a = -1
  · subst hm; omega
  obtain ⟨n, hn⟩ : ∃ n, IntKind.i64.wrap (a * b) = n := ⟨_, rfl⟩
  have hn2 : -9223372036854775808 ≤ n ∧ n ≤ 9223372036854775807 ∧ ∃ k : Int, n = a * b + 18446744073709551616 * k := by
    rw [IntKind.wrap_i64] at hn
    generalize a * b = p at *
    exact ⟨by omega, by omega, ⟨-((p + 9223372036854775808) / 18446744073709551616), by omega⟩⟩
  rw [hn]
  obtain ⟨hn0, hn1, k, hk⟩ := hn2
  have hd : -9223372036854775808 ≤ n.tdiv a ∧ n.tdiv a ≤ 9223372036854775807 := by
    have h2 : (n.tdiv a).natAbs = n.natAbs / a.natAbs := Int.natAbs_tdiv _ _
    by_cases h3 : a = 1
    · subst h3; rw [Int.tdiv_one]; omega
    · have h4 : n.natAbs / a.natAbs ≤ n.natAbs / 2 := Nat.div_le_div_left (by omega) (by decide)
      omega
  rw [IntWalk.i64_in _ hd]
  intro he
  have h2 := Int.mul_tdiv_add_tmod n a
  have h3 : (n.tmod a).natAbs = n.natAbs % a.natAbs := Int.natAbs_tmod _ _
  have h4 : n.natAbs % a.natAbs < a.natAbs := Nat.mod_lt _ (by omega)
  rw [he] at h2
  generalize a * b = p at *
  generalize n.tmod a = r at *
  omega
theorem tmod_in (a b : Int) (ha : In64 a) (h0 : b ≠ 0) : -9223372036854775808 ≤ a.tmod b ∧ a.tmod b ≤ 9223372036854775807 := by
  unfold In64 at ha
  have h3 : (a.tmod b).natAbs = a.natAbs % b.natAbs := Int.natAbs_tmod _ _
  have h4 : a.natAbs % b.natAbs ≤ a.natAbs := Nat.mod_le _ _
  by_cases h : 0 ≤ a
  · have := Int.tmod_nonneg b h; omega
  · have h5 : a.tmod b ≤ 0 := by
      have h6 := Int.tmod_nonneg b (show 0 ≤ -a by omega)
      rw [Int.neg_tmod] at h6
      omega
    omega
theorem tdiv_in (a b : Int) (ha : In64 a) (h0 : b ≠ 0) (h1 : ¬ (b = -1 ∧ a = -9223372036854775808)) : -9223372036854775808 ≤ a.tdiv b ∧ a.tdiv b ≤ 9223372036854775807 := by
  unfold In64 at ha
  have h2 : (a.tdiv b).natAbs = a.natAbs / b.natAbs := Int.natAbs_tdiv _ _
  have h5 : a.natAbs / b.natAbs ≤ a.natAbs := Nat.div_le_self _ _
  by_cases h3 : b = -1
  · subst h3
    have : a.tdiv (-1) = -a := by rw [Int.tdiv_neg, Int.tdiv_one]
    omega
  by_cases h6 : b = 1
  · subst h6; rw [Int.tdiv_one]; omega
  have h4 : a.natAbs / b.natAbs ≤ a.natAbs / 2 := Nat.div_le_div_left (by omega) (by decide)
  omega
theorem tdiv_out : ¬ (-9223372036854775808 ≤ (-9223372036854775808 : Int).tdiv (-1) ∧ (-9223372036854775808 : Int).tdiv (-1) ≤ 9223372036854775807) := by decide
end Go.Proofs.YtjncjcellpbhcaaGreatDoor.val

/- Plain: two whole numbers added, taken away, multiplied as decimals are what they are as whole numbers. -/
namespace Go.Proofs.YtjncjcellpbhcaaGreatDoor.val
open Go.ChangeShapes Go.WideShapes Go.ChangeAt Go.RowKit kit dec
set_option linter.unusedVariables false
set_option linter.unusedSimpArgs false
theorem addR_zz {x y : Int} (hx : small x) (hy : small y) : addR (canon x) (canon y) = txt (x + y) := by unfold addR; rw [chk_canon x hx, chk_canon y hy, zof_canon x hx, zof_canon y hy]; rfl
theorem subR_zz {x y : Int} (hx : small x) (hy : small y) : subR (canon x) (canon y) = txt (x - y) := by unfold subR; rw [chk_canon x hx, chk_canon y hy, zof_canon x hx, zof_canon y hy]; rfl
theorem mulT_zz {x y : Int} (hx : small x) (hy : small y) : mulT (canon x) (canon y) = mulR x y := by unfold mulT; rw [chk_canon x hx, chk_canon y hy, zof_canon x hx, zof_canon y hy]; rfl
theorem toIR_z (z : Int) (hz : small (z * E20)) : toIR (canon (z * E20)) = if -9223372036854775808 ≤ z ∧ z ≤ 9223372036854775807 then (z, true) else (0, false) := by
  unfold toIR
  rw [chk_canon _ hz, if_pos rfl, zof_canon _ hz]
  unfold toI
  have e1 : (z * (E20 : Int)).natAbs % E20 = 0 := by rw [Int.natAbs_mul]; simp
  have e2 : z * (E20 : Int) / (E20 : Int) = z := Int.mul_ediv_cancel _ (by have := E20_pos; omega)
  rw [e2]
  by_cases h : -9223372036854775808 ≤ z ∧ z ≤ 9223372036854775807
  · rw [if_pos ⟨e1, h⟩, if_pos h]
  · rw [if_neg (fun e => h e.2), if_neg h]
theorem big_small (n : Int) (h : n.natAbs ≤ 85070591730234615865843651857942052864) : small (n * E20) := by
  unfold small
  have ha : (n * E20).natAbs = n.natAbs * E20 := by rw [Int.natAbs_mul]; simp
  have h3 : 85070591730234615865843651857942052864 * E20 < top := by unfold E20 top; decide
  rw [ha]
  exact Nat.lt_of_le_of_lt (Nat.mul_le_mul_right _ h) h3
/-- What the reference makes of two whole numbers by decimals. -/
def decI (op a b : Int) : List UInt8 × Int := if op = 17 then addR (canon (a * E20)) (canon (b * E20)) else if op = 18 then subR (canon (a * E20)) (canon (b * E20)) else mulT (canon (a * E20)) (canon (b * E20))
def opI (op a b : Int) : Int := if op = 17 then a + b else if op = 18 then a - b else a * b
theorem decI_eq (op a b : Int) (ha : In64 a) (hb : In64 b) : decI op a b = (canon (opI op a b * E20), 0) ∧ small (opI op a b * E20) := by
  unfold In64 at ha hb
  have sa := ofInt_small a ha.1 ha.2
  have sb := ofInt_small b hb.1 hb.2
  unfold decI opI
  by_cases h1 : op = 17
  · rw [if_pos h1, if_pos h1, addR_zz sa sb, ← Int.add_mul]
    have := big_small (a + b) (by omega)
    exact ⟨txt_ok this, this⟩
  rw [if_neg h1, if_neg h1]
  by_cases h2 : op = 18
  · rw [if_pos h2, if_pos h2, subR_zz sa sb, ← Int.sub_mul]
    have := big_small (a - b) (by omega)
    exact ⟨txt_ok this, this⟩
  rw [if_neg h2, if_neg h2, mulT_zz sa sb]
  have hm : (a * b).natAbs ≤ 85070591730234615865843651857942052864 := by
    rw [Int.natAbs_mul]
    have h3 : a.natAbs ≤ 9223372036854775808 := by omega
    have h4 : b.natAbs ≤ 9223372036854775808 := by omega
    exact Nat.le_trans (Nat.mul_le_mul h3 h4) (by decide)
  have := big_small (a * b) hm
  refine ⟨?_, this⟩
  rw [(mulR_eq (a * E20) (b * E20)).1 (a * b * E20) (by rw [Int.mul_assoc, Int.mul_assoc, Int.mul_assoc, Int.mul_left_comm (E20 : Int) b])]
  exact txt_ok this
theorem toI_decI (op a b : Int) (ha : In64 a) (hb : In64 b) : toIR (decI op a b).1 = if -9223372036854775808 ≤ opI op a b ∧ opI op a b ≤ 9223372036854775807 then (opI op a b, true) else (0, false) := by
  obtain ⟨h1, h2⟩ := decI_eq op a b ha hb
  rw [h1]
  exact toIR_z _ h2
end Go.Proofs.YtjncjcellpbhcaaGreatDoor.val

/- Plain: what an operation makes of two values. -/
namespace Go.Proofs.YtjncjcellpbhcaaGreatDoor.val
open Go.ChangeShapes Go.WideShapes Go.ChangeAt Go.RowKit kit dec
set_option linter.unusedVariables false
set_option linter.unusedSimpArgs false
def val6 : V → Value → Value
  | .mk k b n t x _, s => agg6 k b n t x s
def zV : V := .mk 0 false 0 ByteArray.empty ByteArray.empty []
/-- A value without a list, and an error. -/
def tupR (r : V × Int) : Value := .tuple #[val6 r.1 (.slice none 0 0), .int .i64 r.2]
def inV (n : Int) : V × Int := if -9223372036854775808 ≤ n ∧ n ≤ 9223372036854775807 then (.mk 2 false n ByteArray.empty ByteArray.empty [], 0) else (zV, 2)
def wholeV (p : List UInt8 × Int) : V × Int := if p.2 = 0 then (.mk 3 false 0 (tx p.1) ByteArray.empty [], 0) else (zV, p.2)
def decV (op x y : Int) : V × Int := wholeV (decP op (canon x) (canon y))
def intsV (s : Bool) (op a b : Int) : V × Int :=
  if op = 17 then inV (a + b) else if op = 18 then inV (a - b) else if op = 19 then inV (a * b)
  else if b = 0 then (zV, 3)
  else if op = 21 then inV (a.tmod b)
  else if op = 20 ∧ s = true then wholeV (divT (canon (a * E20)) (canon (b * E20)))
  else inV (a.tdiv b)
theorem inR_V (n : Int) : inR n = tupR (inV n) := by unfold inR inV; split <;> rfl
theorem wholeR_V (p : List UInt8 × Int) : wholeR p = tupR (wholeV p) := by unfold wholeR wholeV; split <;> rfl
theorem intsR_V (s : Bool) (op a b : Int) : intsR s op a b = tupR (intsV s op a b) := by
  unfold intsR intsV
  simp only [inR_V, wholeR_V]
  repeat' split
  all_goals rfl
/-- What an operation makes of two values (s: in S). -/
def arithV (s : Bool) (op : Int) : V → V → V × Int
  | .mk k b n t x l, .mk k2 b2 n2 t2 x2 l2 =>
    if ¬ (17 ≤ op ∧ op ≤ 21) ∨ mayV (.mk k b n t x l) = false ∨ mayV (.mk k2 b2 n2 t2 x2 l2) = false then (zV, 1)
    else if k = 0 ∨ k2 = 0 then (zV, if s then 5 else 0)
    else if s = false ∧ op = 17 ∧ k = k2 ∧ (k = 4 ∨ k = 5) then (if 1048576 < t.size + t2.size ∨ 4096 < l.length + l2.length then (zV, 2) else (.mk k false 0 (t ++ t2) ByteArray.empty (l ++ l2), 0))
    else if isNum k = false ∨ isNum k2 = false then (zV, 4)
    else if k = 2 ∧ k2 = 2 then intsV s op n n2
    else decV op (numV k n t) (numV k2 n2 t2)
/-- A value and an error are told; the value's list lies in memory of its own. -/
def AR (w : World) (N : Nat) (r : V × Int) (e : Ending) (w' : World) : Prop := ∃ sv, e = .returned (.tuple #[val6 r.1 sv, .int .i64 r.2]) ∧ Below w.heap.size w w' ∧ LF w' N (Fr w.heap.size w') sv (kids r.1)
theorem AR.plain {w w' : World} {N : Nat} {r : V × Int} (h : kids r.1 = []) (hb : Below w.heap.size w w') : AR w N r (.returned (tupR r)) w' :=
  ⟨_, rfl, hb, by rw [h]; exact LF.nil _ _ _⟩
theorem inV_kids (n : Int) : kids (inV n).1 = [] := by unfold inV; split <;> rfl
theorem wholeV_kids (p : List UInt8 × Int) : kids (wholeV p).1 = [] := by unfold wholeV; split <;> rfl
theorem decV_kids (op x y : Int) : kids (decV op x y).1 = [] := wholeV_kids _
theorem intsV_kids (s : Bool) (op a b : Int) : kids (intsV s op a b).1 = [] := by
  unfold intsV
  repeat' split
  all_goals first | exact inV_kids _ | exact wholeV_kids _ | rfl
/-- Texts that may be, and are the same amount, are one text. -/
theorem text_of {u : ByteArray} {z : Int} (hc : chk u.data.toList = true) (hz : zof u.data.toList = z) : u.data.toList = canon z := by
  obtain ⟨y, hy, h⟩ := (chk_iff _).1 hc
  rw [h] at hz ⊢
  rw [zof_canon y hy] at hz
  rw [hz]
theorem may_text {k : Int} (h4 : k = 4) {b : Bool} {n : Int} {t x : ByteArray} {l : List V} (h : mayV (.mk k b n t x l) = true) : l = [] ∧ t.size ≤ 1048576 := by
  subst h4
  unfold mayV chkV chkW at h
  simp at h
  exact ⟨by have := h.1.2; exact List.eq_nil_of_length_eq_zero (by simpa using this), by have := h.2; exact this⟩
theorem may_list {k : Int} (h5 : k = 5) {b : Bool} {n : Int} {t x : ByteArray} {l : List V} (h : mayV (.mk k b n t x l) = true) : t = ByteArray.empty ∧ l.length ≤ 4096 := by
  subst h5
  unfold mayV chkV chkW at h
  simp [emp] at h
  exact ⟨by have := h.1.1.1.2; simpa using this, by have := h.1.2; exact this⟩
end Go.Proofs.YtjncjcellpbhcaaGreatDoor.val
