/- Contracts of decimal.Neg, OfInt. -/
import Derived.Test.YtnnojhgnfmieoaaGreatDoorDecAdd
import Derived.ShutString
namespace Go.Proofs.YtnnojhgnfmieoaaGreatDoor.dec
open Go.ChangeShapes Go.WideShapes Go.ChangeAt Go.RowKit kit
set_option linter.unusedVariables false
set_option linter.unusedSimpArgs false
/-- The world behind load: a number in a block of the call's own. -/
structure N1 (w W : World) (B : Nat) (s : Bool) (f : Nat → Nat) : Prop where
  keep : Keep [] w W
  le : w.heap.size ≤ B
  b0 : Blk W B (nv s f) 42
theorem N1.made {w w1 : World} (hb : Below w.heap.size w w1) (s : Bool) (f : Nat → Nat) : N1 w ((w1.alloc (.cells (nv false fun _ => 0) 42)).setRow w1.heap.size (nv s f)) w1.heap.size s f :=
  have hs := hb.size
  ⟨(((Keep.ofBelow hb).alloc _).setRow (by omega) _), hs, (Blk.new _ _ _).setRow⟩
theorem N1.neg {w W : World} {B : Nat} {s : Bool} {f : Nat → Nat} (h : N1 w W B s f) (u : Bool) : N1 w (W.setCell ⟨B, 0, none⟩ (.bool u)) B u f :=
  ⟨h.keep.setCell (by have := h.le; simp; omega) _, h.le, by have := h.b0.set 0 (.bool u); rwa [nv_flip] at this⟩
theorem N1.below {w W W' : World} {B : Nat} {s : Bool} {f : Nat → Nat} (h : N1 w W B s f) (hb : Below W.heap.size W W') : N1 w W' B s f :=
  ⟨h.keep.trans (Keep.ofBelow hb) (by simp), h.le, h.b0.keep (Keep.ofBelow hb) (by simp)⟩
def negR (a : List UInt8) : List UInt8 × Int := if chk a then txt (-zof a) else ([], 1)
set_option maxHeartbeats 2000000 in
set_option maxRecDepth 100000 in
theorem neg_call (a : ByteArray) (w : World) (hE : Env w) :
    Calls Tryz.prog 20 #[.string a] w fun e w' => e = .returned (rv (negR a.data.toList)) ∧ Below w.heap.size w w' := by
  have hl := fun w hE => load_any a w hE
  have hN' := small_lt (zof_small a.data.toList)
  have hfin : toldP (!decide (zof a.data.toList < 0)) (zof a.data.toList).natAbs 20 = txt (-zof a.data.toList) := by rw [toldP_20, signed_not, signed_self]
  unfold negR
  generalize txt (-zof a.data.toList) = R at *
  cases hc : chk a.data.toList
  · rw [hc, num_eq] at hl
    generalize decide (zof a.data.toList < 0) = s at *
    generalize wd (zof a.data.toList).natAbs = f at *
    clear hfin hN'
    replace hl := Lib.hid hl
    replace hE := Lib.hid hE
    rw [if_neg (by decide)]
    go_enter Tryz.func20, Tryz.ntmps20
    go_wp2_with fail
    refine (hl.out _ hE.out).mono ?_
    rintro e w1 ⟨rfl, hb1⟩
    have q0 : Blk (w1.alloc (.cells (nv false fun _ => 0) 42)) w1.heap.size (nv false fun _ => 0) 42 := Blk.new _ _ _
    have nw := N1.made hb1 s f
    rw [nv_falses] at q0 nw
    replace q0 := Lib.hid q0
    replace nw := Lib.hid nw
    go_wp2_with (first | (with_reducible refine wpList_store_rowTo rfl 42 (.tmp 4) (.tmp 9) rfl rfl w1.heap.size (nv s f) rfl rfl 42 _ (Blk.eq q0.out) (by rw [nv_size]; exact Tryz.infoN) (zerosTo s f) (nv_one _ _) ?_))
    go_ret2
    exact ⟨rfl, nw.out.keep.below⟩
  · rw [hc, num_eq] at hl
    rw [if_pos rfl]
    generalize decide (zof a.data.toList < 0) = s at *
    generalize (zof a.data.toList).natAbs = N at *
    obtain ⟨f, hf⟩ : ∃ f, wd N = f := ⟨_, rfl⟩
    rw [hf] at hl
    replace hl := Lib.hid hl
    replace hE := Lib.hid hE
    replace hf := Lib.hid hf
    replace hN' := Lib.hid hN'
    replace hfin := Lib.hid hfin
    go_enter Tryz.func20, Tryz.ntmps20
    go_wp2_with fail
    refine (hl.out _ hE.out).mono ?_
    rintro e w1 ⟨rfl, hb1⟩
    have q0 : Blk (w1.alloc (.cells (nv false fun _ => 0) 42)) w1.heap.size (nv false fun _ => 0) 42 := Blk.new _ _ _
    have nw := N1.made hb1 s f
    rw [nv_falses] at q0 nw
    replace q0 := Lib.hid q0
    replace nw := Lib.hid nw
    go_upto_region 4 with (first | (with_reducible refine wpList_store_rowTo rfl 42 (.tmp 4) (.tmp 9) rfl rfl w1.heap.size (nv s f) rfl rfl 42 _ (Blk.eq q0.out) (by rw [nv_size]; exact Tryz.infoN) (zerosTo s f) (nv_one _ _) ?_))
    generalize (w1.alloc (.cells #[.bool false, .int .u64 0, .int .u64 0, .int .u64 0, .int .u64 0, .int .u64 0, .int .u64 0, .int .u64 0, .int .u64 0, .int .u64 0, .int .u64 0, .int .u64 0, .int .u64 0, .int .u64 0, .int .u64 0, .int .u64 0, .int .u64 0] 42)).setRow w1.heap.size (nv s f) = W at *
    clear q0
    have c0 : W.cell? ⟨w1.heap.size, 0, none⟩ = some (.bool s) := nw.out.b0.cell _ (nv_zero _ _)
    have fz : W.frozen? ⟨w1.heap.size, 0, none⟩ = false := nw.out.b0.free 0
    have nn := nw.out.neg (!s)
    replace nn := Lib.hid nn
    go_wp2_with (first | (with_reducible refine wpList_load_row rfl 42 (.tmp 4) rfl (w1.heap.size) rfl 42 _ (0, 0) _ (Blk.eq nn.out.b0) Tryz.underlying42 rfl (by rw [nv_size]; exact Tryz.infoN) ?_))
    rw [← hf.out]
    have hE2 := hE.out.below nn.out.keep.below
    refine (text_any (!s) N _ hE2 hN'.out).mono ?_
    rintro e w3 ⟨rfl, hb3⟩
    rw [hfin.out]
    go_wp2
    go_ret2
    exact ⟨rfl, (nn.out.below hb3).keep.below⟩
/-- A whole number's decimal. -/
theorem itoa_canon (n : Int) : Lib.itoa n ++ [46, 48] = canon (n * E20) := by
  have hd : ∀ k : Nat, Lib.decDigits k = orZero (digs k) := by
    intro k
    unfold orZero
    by_cases h : k = 0
    · subst h; rw [if_pos (by rfl), Lib.decDigits]; rfl
    · rw [if_neg (fun e => h (digs_nil.1 e))]; unfold digs; rw [if_neg h]
  have hp := E20_pos
  have ha : (n * E20).natAbs = n.natAbs * E20 := by rw [Int.natAbs_mul]; simp
  have h1 : (n * E20).natAbs / 10 ^ 20 = n.natAbs := by rw [ha]; exact Nat.mul_div_cancel _ hp
  have h2 : frac 20 (n * E20).natAbs = [] := by
    rw [frac_nil, ha]; exact Nat.mul_mod_left _ _
  have h3 : decide (n * E20 < 0) = decide (n < 0) := by
    rw [decide_eq_decide]
    have hE : (0 : Int) < (E20 : Int) := by omega
    constructor
    · intro h
      apply Classical.byContradiction
      intro hc
      have := Int.mul_nonneg (show 0 ≤ n by omega) (Int.le_of_lt hE)
      omega
    · intro h; exact Int.mul_neg_of_neg_of_pos h hE
  rw [canon_shape, h1, h2, h3, ← hd]
  unfold Lib.itoa
  by_cases hn : n < 0
  · rw [decide_eq_true hn]; simp [hn, orZero]
  · rw [decide_eq_false hn]; simp [hn, orZero]
    try rw [show n.toNat = n.natAbs by omega]
theorem ofInt_small (n : Int) (h0 : -9223372036854775808 ≤ n) (h1 : n ≤ 9223372036854775807) : small (n * E20) := by
  unfold small
  have ha : (n * E20).natAbs = n.natAbs * E20 := by rw [Int.natAbs_mul]; simp
  have h2 : n.natAbs ≤ 9223372036854775808 := by omega
  have h3 : 9223372036854775808 * E20 < top := by unfold E20 top; decide
  rw [ha]
  exact Nat.lt_of_le_of_lt (Nat.mul_le_mul_right _ h2) h3
set_option maxHeartbeats 2000000 in
set_option maxRecDepth 100000 in
theorem ofInt_call (n : Int) (w : World) (hE : Env w) (h0 : -9223372036854775808 ≤ n) (h1 : n ≤ 9223372036854775807) :
    Calls Tryz.prog 28 #[.int .i64 n] w fun e w' => e = .returned (.string (tx (canon (n * E20)))) ∧ Below w.heap.size w w' := by
  have hf := Tryz.strconv_FormatInt_10 n h0 h1 w hE.pow
  have hc := itoa_canon n
  have hlen : (Lib.itoa n).length ≤ 62 := by
    have h2 := canon_len (n * E20) (ofInt_small n h0 h1)
    rw [← hc, List.length_append] at h2
    omega
  have hsz : ((⟨(Lib.itoa n).toArray⟩ : ByteArray).size : Int) + ((⟨#[46, 48]⟩ : ByteArray).size : Int) ≤ 9223372036854775807 := by
    have a1 : (⟨(Lib.itoa n).toArray⟩ : ByteArray).size = (Lib.itoa n).length := rfl
    have a2 : (⟨#[46, 48]⟩ : ByteArray).size = 2 := rfl
    rw [a1, a2]; omega
  obtain ⟨t, ht⟩ : ∃ t : ByteArray, (⟨(Lib.itoa n).toArray⟩ : ByteArray) = t := ⟨_, rfl⟩
  have htl : t ++ ⟨#[46, 48]⟩ = tx (canon (n * E20)) := by rw [← hc, ← ht]; apply ba_ext; simp
  rw [ht] at hf hsz
  clear hc ht hE
  replace hf := Lib.hid hf
  replace htl := Lib.hid htl
  go_enter Tryz.func28, Tryz.ntmps28
  go_wp2_with fail
  refine hf.out.mono ?_
  rintro e w1 ⟨rfl, k, os, rfl⟩
  go_wp2_with fail
  go_ret
  exact ⟨ret_val (by show Value.string _ = _; first | rfl | rw [htl.out]), below_grow0 _ _ _⟩
end Go.Proofs.YtnnojhgnfmieoaaGreatDoor.dec
