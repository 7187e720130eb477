/- The functions that the laws on decimals call, in one world's words; what the laws end in. -/
import Derived.Test.YtnnojhgnfmieoaaGreatDoorDecCmp
import Derived.Test.YtnnojhgnfmieoaaGreatDoorDecDiv
import Derived.Test.YtnnojhgnfmieoaaGreatDoorDecNeg
import Derived.Test.YtnnojhgnfmieoaaGreatDoorDecFrame
namespace Go.Proofs.YtnnojhgnfmieoaaGreatDoor.dec
open Go.ChangeShapes Go.WideShapes Go.ChangeAt Go.RowKit kit
set_option linter.unusedVariables false
set_option linter.unusedSimpArgs false
/-- A world of the law's walk: nothing of V has turned. -/
def LW (V w : World) : Prop := Below V.heap.size V w ∧ Env V
theorem LW.env {V w : World} (h : LW V w) : Env w := h.2.below h.1
theorem LW.step {V w w' : World} (h : LW V w) (hb : Below w.heap.size w w') : LW V w' := ⟨h.1.trans (hb.mono h.1.size), h.2⟩
theorem LW.drewN {V w : World} (n : Nat) (h : LW V w) : LW V (w.drewN n) := ⟨Below_drewN n h.1, h.2⟩
theorem LW.cell {V w : World} (h : LW V w) {p : Addr} (hp : p.block < V.heap.size) : w.cell? p = V.cell? p := h.1.cell hp
def sh (s : ByteArray) : Bool := decide ((s.size : Int) ≤ 300)
theorem short_call (s : ByteArray) (w : World) : Calls Tryz.prog 7 #[.string s] w fun e w' => e = .returned (.bool (sh s)) ∧ w' = w := by
  go_enter Tryz.func7, Tryz.ntmps7
  go_wp2
  go_ret
  exact ⟨rfl, rfl⟩
section
variable {V w : World}
theorem chk_l (s : ByteArray) (h : LW V w) : Calls Tryz.prog 26 #[.string s] w fun e w' => e = .returned (.bool (chk s.data.toList)) ∧ LW V w' := (chk_any s w h.env).mono fun e w' ⟨he, hb⟩ => ⟨he, h.step hb⟩
theorem cmp_l (a b : ByteArray) (r : Int) (hr : cmpR a.data.toList b.data.toList = r) (h : LW V w) : Calls Tryz.prog 10 #[.string a, .string b] w fun e w' => e = .returned (.int .i64 r) ∧ LW V w' := hr ▸ (cmp_call a b w h.env).mono fun e w' ⟨he, hb⟩ => ⟨he, h.step hb⟩
theorem add_l (a b : ByteArray) (r : List UInt8 × Int) (hr : addR a.data.toList b.data.toList = r) (h : LW V w) : Calls Tryz.prog 12 #[.string a, .string b] w fun e w' => e = .returned (.tuple #[.string (tx r.1), .int .i64 r.2]) ∧ LW V w' := hr ▸ (add_call a b w h.env).mono fun e w' ⟨he, hb⟩ => ⟨he, h.step hb⟩
theorem sub_l (a b : ByteArray) (r : List UInt8 × Int) (hr : subR a.data.toList b.data.toList = r) (h : LW V w) : Calls Tryz.prog 14 #[.string a, .string b] w fun e w' => e = .returned (.tuple #[.string (tx r.1), .int .i64 r.2]) ∧ LW V w' := hr ▸ (sub_call a b w h.env).mono fun e w' ⟨he, hb⟩ => ⟨he, h.step hb⟩
theorem mul_l (a b : ByteArray) (r : List UInt8 × Int) (hr : mulT a.data.toList b.data.toList = r) (h : LW V w) : Calls Tryz.prog 16 #[.string a, .string b] w fun e w' => e = .returned (.tuple #[.string (tx r.1), .int .i64 r.2]) ∧ LW V w' := hr ▸ (mul_call a b w h.env).mono fun e w' ⟨he, hb⟩ => ⟨he, h.step hb⟩
theorem div_l (a b : ByteArray) (r : List UInt8 × Int) (hr : divT a.data.toList b.data.toList = r) (h : LW V w) : Calls Tryz.prog 18 #[.string a, .string b] w fun e w' => e = .returned (.tuple #[.string (tx r.1), .int .i64 r.2]) ∧ LW V w' := hr ▸ (div_call a b w h.env).mono fun e w' ⟨he, hb⟩ => ⟨he, h.step hb⟩
theorem neg_l (a : ByteArray) (r : List UInt8 × Int) (hr : negR a.data.toList = r) (h : LW V w) : Calls Tryz.prog 20 #[.string a] w fun e w' => e = .returned (.tuple #[.string (tx r.1), .int .i64 r.2]) ∧ LW V w' := hr ▸ (neg_call a w h.env).mono fun e w' ⟨he, hb⟩ => ⟨he, h.step hb⟩
theorem read_l (a : ByteArray) (hs : a.size ≤ 50000) (r : List UInt8 × Int) (hr : readP a.data.toList = r) (h : LW V w) : Calls Tryz.prog 22 #[.string a] w fun e w' => e = .returned (.tuple #[.string (tx r.1), .int .i64 r.2]) ∧ LW V w' := hr ▸ (read_any a w h.env hs).mono fun e w' ⟨he, hb⟩ => ⟨he, h.step hb⟩
theorem ofInt_l (n : Int) (h0 : -9223372036854775808 ≤ n) (h1 : n ≤ 9223372036854775807) (t : ByteArray) (ht : canon (n * E20) = t.data.toList) (h : LW V w) : Calls Tryz.prog 28 #[.int .i64 n] w fun e w' => e = .returned (.string t) ∧ LW V w' :=
  (ofInt_call n w h.env h0 h1).mono fun e w' ⟨he, hb⟩ => ⟨by rw [he, ht]; rfl, h.step hb⟩
end
/-! ### Of canonical decimals -/
theorem cmpR_z {x y : Int} (hx : small x) (hy : small y) : cmpR (canon x) (canon y) = cmpI x y := by unfold cmpR; rw [chk_canon x hx, chk_canon y hy, zof_canon x hx, zof_canon y hy]; rfl
theorem addR_z {x y : Int} (hx : small x) (hy : small y) : addR (canon x) (canon y) = txt (x + y) := by unfold addR; rw [chk_canon x hx, chk_canon y hy, zof_canon x hx, zof_canon y hy]; rfl
theorem subR_z {x y : Int} (hx : small x) (hy : small y) : subR (canon x) (canon y) = txt (x - y) := by unfold subR; rw [chk_canon x hx, chk_canon y hy, zof_canon x hx, zof_canon y hy]; rfl
theorem mulT_z {x y : Int} (hx : small x) (hy : small y) : mulT (canon x) (canon y) = mulR x y := by unfold mulT; rw [chk_canon x hx, chk_canon y hy, zof_canon x hx, zof_canon y hy]; rfl
theorem divT_z {x y : Int} (hx : small x) (hy : small y) (h0 : y ≠ 0) : divT (canon x) (canon y) = txt (quo x y) := by unfold divT; rw [chk_canon x hx, chk_canon y hy, zof_canon x hx, zof_canon y hy, if_neg h0]; rfl
theorem negR_z {x : Int} (hx : small x) : negR (canon x) = txt (-x) := by unfold negR; rw [chk_canon x hx, zof_canon x hx]; rfl
theorem small_neg {x : Int} (hx : small x) : small (-x) := by unfold small at *; omega
theorem canon_0 : canon 0 = [48, 46, 48] := by kernel_rfl
theorem small_0 : small 0 := by unfold small top; decide
/-- A text that may be is a canonical one. -/
theorem chk_z {a : ByteArray} (h : chk a.data.toList = true) : ∃ x, small x ∧ a = tx (canon x) := by
  obtain ⟨z, hz, hl⟩ := (chk_iff _).1 h
  exact ⟨z, hz, ba_ext hl⟩

/-! ### What the laws end in -/
theorem canon_E (n : Nat) : canon ((n : Int) * E20) = Lib.itoa n ++ [46, 48] := (itoa_canon n).symm
theorem w1 : canon 10000000000000000000 = [48, 46, 49] := by kernel_rfl
theorem w2 : canon 20000000000000000000 = [48, 46, 50] := by kernel_rfl
theorem w3 : canon 30000000000000000000 = [48, 46, 51] := by kernel_rfl
theorem dd (d : Nat) (h : d < 10) : Lib.decDigits d = [dg d] := by rw [Lib.decDigits, dif_pos h]; rfl
theorem w4 : canon (1 * E20) = [49, 46, 48] := by rw [← itoa_canon, show Lib.itoa 1 = Lib.decDigits 1 from rfl, dd 1 (by decide)]; decide
theorem w5 : canon (3 * E20) = [51, 46, 48] := by rw [← itoa_canon, show Lib.itoa 3 = Lib.decDigits 3 from rfl, dd 3 (by decide)]; decide
theorem w6 : canon (-7 * E20) = [45, 55, 46, 48] := by rw [← itoa_canon, show Lib.itoa (-7) = 45 :: Lib.decDigits 7 from rfl, dd 7 (by decide)]; decide
theorem w7 : canon 33333333333333333333 = [48, 46, 51, 51, 51, 51, 51, 51, 51, 51, 51, 51, 51, 51, 51, 51, 51, 51, 51, 51, 51, 51] := by kernel_rfl
theorem sm (z : Int) (h : z.natAbs ≤ 1000000000000000000000) : small z := by
  have : 1000000000000000000000 < top := by unfold top; decide
  unfold small; omega
theorem wakes1 : addR [48, 46, 49] [48, 46, 50] = ([48, 46, 51], 0) := by
  rw [← w1, ← w2, addR_z (sm _ (by decide)) (sm _ (by decide)), ← w3]; exact txt_ok (sm _ (by decide))
theorem quo13 : quo (1 * E20) (3 * E20) = 33333333333333333333 := by kernel_rfl
theorem wakes2 : divT [49, 46, 48] [51, 46, 48] = ([48, 46, 51, 51, 51, 51, 51, 51, 51, 51, 51, 51, 51, 51, 51, 51, 51, 51, 51, 51, 51, 51], 0) := by
  rw [← w4, ← w5, divT_z (sm _ (by decide)) (sm _ (by decide)) (by decide), quo13, ← w7]; exact txt_ok (sm _ (by decide))
theorem tx_toList (l : List UInt8) : (tx l).toList = l := by rw [Go.ByteArray.toList_eq]; rfl
set_option maxHeartbeats 1000000 in
set_option maxRecDepth 100000 in
theorem wakes_l {V w : World} (h : LW V w) : Calls Tryz.prog 6 #[] w fun e w' => e = .returned (.bool true) ∧ LW V w' := by
  have hx := tx_toList
  go_enter Tryz.func6, Tryz.ntmps6
  go_wp2_with fail
  refine (add_l ⟨#[48, 46, 49]⟩ ⟨#[48, 46, 50]⟩ _ wakes1 h).mono ?_
  rintro e w1 ⟨rfl, h1⟩
  go_wp2_with fail
  refine (div_l ⟨#[49, 46, 48]⟩ ⟨#[51, 46, 48]⟩ _ wakes2 h1).mono ?_
  rintro e w2 ⟨rfl, h2⟩
  go_wp2_with fail
  refine (ofInt_l (-7) (by decide) (by decide) ⟨#[45, 55, 46, 48]⟩ w6 h2).mono ?_
  rintro e w3 ⟨rfl, h3⟩
  go_wp2_with fail
  go_ret
  exact ⟨rfl, h3⟩
end Go.Proofs.YtnnojhgnfmieoaaGreatDoor.dec
