/- Contracts of decimal.Add, Sub, Neg. -/
import Derived.Test.YthecgifgjagmaaaGreatDoorDecBoth2
import Derived.Test.YthecgifgjagmaaaGreatDoorDecZ
namespace Go.Proofs.YthecgifgjagmaaaGreatDoor.dec
open Go.ChangeShapes Go.WideShapes Go.ChangeAt Go.RowKit kit
set_option linter.unusedVariables false
theorem num_eq (z : Int) : num z = nv (decide (z < 0)) (wd z.natAbs) := rfl
theorem top2 : top + top ≤ B9 ^ 16 := by unfold top B9; decide
theorem plusP_lt (s : Bool) (N : Nat) (t : Bool) (M : Nat) (hN : N < top) (hM : M < top) : (plusP s N t M).2 < B9 ^ 16 := by
  have h := top2
  unfold plusP
  split
  · show N + M < _; omega
  · split
    · show M - N < _; omega
    · show N - M < _; omega
theorem nv_flip (t u : Bool) (g : Nat → Nat) : (nv t g).setIfInBounds 0 (.bool u) = nv u g := by simp [nv]
/-- The world behind both: two numbers in blocks of the call's own. -/
structure NW (w W : World) (B : Nat) (s t : Bool) (f g : Nat → Nat) : Prop where
  keep : Keep [] w W
  le : w.heap.size ≤ B
  b0 : Blk W B (nv s f) 92
  b1 : Blk W (B + 1) (nv t g) 92
theorem NW.neg {w W : World} {B : Nat} {s t : Bool} {f g : Nat → Nat} (h : NW w W B s t f g) (u : Bool) : NW w (W.setCell ⟨B + 1, 0, none⟩ (.bool u)) B s u f g :=
  ⟨h.keep.setCell (by have := h.le; simp; omega) _, h.le, h.b0.set_other _ (by simp) _, by have := h.b1.set 0 (.bool u); rwa [nv_flip] at this⟩
theorem NW.below {w W W' : World} {B : Nat} {s t : Bool} {f g : Nat → Nat} (h : NW w W B s t f g) (hb : Below W.heap.size W W') : NW w W' B s t f g :=
  ⟨h.keep.trans (Keep.ofBelow hb) (by simp), h.le, h.b0.keep (Keep.ofBelow hb) (by simp), h.b1.keep (Keep.ofBelow hb) (by simp)⟩
theorem NW.cells {w W : World} {B : Nat} {s t : Bool} {f g : Nat → Nat} (h : NW w W B s t f g) : W.cell? ⟨B, 0, none⟩ = some (.bool s) ∧ W.cell? ⟨B + 1, 0, none⟩ = some (.bool t) ∧ W.frozen? ⟨B + 1, 0, none⟩ = false :=
  ⟨h.b0.cell _ (nv_zero _ _), h.b1.cell _ (nv_zero _ _), h.b1.free 0⟩
theorem NW.made {w w1 : World} (hb : Below w.heap.size w w1) (s t : Bool) (f g : Nat → Nat) : NW w ((((w1.alloc (.cells (nv false fun _ => 0) 92)).alloc (.cells (nv false fun _ => 0) 92)).setRow w1.heap.size (nv s f)).setRow (w1.heap.size + 1) (nv t g)) w1.heap.size s t f g := by
  have q0 : Blk ((w1.alloc (.cells (nv false fun _ => 0) 92)).alloc (.cells (nv false fun _ => 0) 92)) w1.heap.size (nv false fun _ => 0) 92 := (Blk.new _ _ _).alloc _
  have q1 : Blk (((w1.alloc (.cells (nv false fun _ => 0) 92)).alloc (.cells (nv false fun _ => 0) 92)).setRow w1.heap.size (nv s f)) (w1.heap.size + 1) (nv false fun _ => 0) 92 := by
    have := Blk.new (w1.alloc (.cells (nv false fun _ => 0) 92)) (nv false fun _ => 0) 92
    rw [World.size_alloc] at this
    exact this.setRow_other (by omega)
  have hs := hb.size
  exact ⟨((((Keep.ofBelow hb).alloc _).alloc _).setRow (by omega) _).setRow (by omega) _, hs, (q0.setRow).setRow_other (by omega), q1.setRow⟩
/- Behind both, up to region $4: the function $1; the slots $2, $3 of the two numbers; the call's result in $5, $6. -/
/- The results of both, the refusal: $1 the walk's function, $2 $3 slots. -/
set_option maxHeartbeats 2000000 in
set_option maxRecDepth 100000 in
theorem add_no (a b : ByteArray) (w : World) (hE : Env w) (hc : (chk a.data.toList && chk b.data.toList) = false) :
    Calls Tryz.prog 113 #[.string a, .string b] w fun e w' => e = .returned (rv ([], 1)) ∧ Below w.heap.size w w' := by
  have hb := fun w hE => both_any a b w hE
  rw [hc, num_eq, num_eq] at hb
  generalize decide (zof a.data.toList < 0) = s at *
  generalize decide (zof b.data.toList < 0) = t at *
  generalize wd (zof a.data.toList).natAbs = f at *
  generalize wd (zof b.data.toList).natAbs = g at *
  replace hb := Lib.hid hb
  replace hE := Lib.hid hE
  go_enter Tryz.func113, Tryz.ntmps113
  go_wp2_with fail
  refine (hb.out _ hE.out).mono ?_
  rintro e w1 ⟨rfl, hb1⟩
  have q0 : Blk ((w1.alloc (.cells (nv false fun _ => 0) 92)).alloc (.cells (nv false fun _ => 0) 92)) w1.heap.size (nv false fun _ => 0) 92 := (Blk.new _ _ _).alloc _
  have q1 : Blk (((w1.alloc (.cells (nv false fun _ => 0) 92)).alloc (.cells (nv false fun _ => 0) 92)).setRow w1.heap.size (nv s f)) (w1.heap.size + 1) (nv false fun _ => 0) 92 := by
    have := Blk.new (w1.alloc (.cells (nv false fun _ => 0) 92)) (nv false fun _ => 0) 92
    rw [World.size_alloc] at this
    exact this.setRow_other (by omega)
  have nw := NW.made hb1 s t f g
  rw [nv_falses] at q0 q1 nw
  replace q0 := Lib.hid q0
  replace q1 := Lib.hid q1
  replace nw := Lib.hid nw
  go_wp2_with (first | (with_reducible refine wpList_store_rowTo rfl 92 (.tmp 6) (.tmp 13) rfl rfl w1.heap.size (nv s f) rfl rfl 92 _ (Blk.eq q0.out) (by rw [nv_size]; exact Tryz.infoN) (zerosTo s f) (nv_one _ _) ?_) | (with_reducible refine wpList_store_rowTo rfl 92 (.tmp 7) (.tmp 14) rfl rfl (w1.heap.size + 1) (nv t g) rfl rfl 92 _ (Blk.eq q1.out) (by rw [nv_size]; exact Tryz.infoN) (zerosTo t g) (nv_one _ _) ?_))
  go_ret2
  exact ⟨rfl, nw.out.keep.below⟩
set_option maxHeartbeats 2000000 in
set_option maxRecDepth 100000 in
theorem sub_no (a b : ByteArray) (w : World) (hE : Env w) (hc : (chk a.data.toList && chk b.data.toList) = false) :
    Calls Tryz.prog 114 #[.string a, .string b] w fun e w' => e = .returned (rv ([], 1)) ∧ Below w.heap.size w w' := by
  have hb := fun w hE => both_any a b w hE
  rw [hc, num_eq, num_eq] at hb
  generalize decide (zof a.data.toList < 0) = s at *
  generalize decide (zof b.data.toList < 0) = t at *
  generalize wd (zof a.data.toList).natAbs = f at *
  generalize wd (zof b.data.toList).natAbs = g at *
  replace hb := Lib.hid hb
  replace hE := Lib.hid hE
  go_enter Tryz.func114, Tryz.ntmps114
  go_wp2_with fail
  refine (hb.out _ hE.out).mono ?_
  rintro e w1 ⟨rfl, hb1⟩
  have q0 : Blk ((w1.alloc (.cells (nv false fun _ => 0) 92)).alloc (.cells (nv false fun _ => 0) 92)) w1.heap.size (nv false fun _ => 0) 92 := (Blk.new _ _ _).alloc _
  have q1 : Blk (((w1.alloc (.cells (nv false fun _ => 0) 92)).alloc (.cells (nv false fun _ => 0) 92)).setRow w1.heap.size (nv s f)) (w1.heap.size + 1) (nv false fun _ => 0) 92 := by
    have := Blk.new (w1.alloc (.cells (nv false fun _ => 0) 92)) (nv false fun _ => 0) 92
    rw [World.size_alloc] at this
    exact this.setRow_other (by omega)
  have nw := NW.made hb1 s t f g
  rw [nv_falses] at q0 q1 nw
  replace q0 := Lib.hid q0
  replace q1 := Lib.hid q1
  replace nw := Lib.hid nw
  go_wp2_with (first | (with_reducible refine wpList_store_rowTo rfl 92 (.tmp 6) (.tmp 13) rfl rfl w1.heap.size (nv s f) rfl rfl 92 _ (Blk.eq q0.out) (by rw [nv_size]; exact Tryz.infoN) (zerosTo s f) (nv_one _ _) ?_) | (with_reducible refine wpList_store_rowTo rfl 92 (.tmp 7) (.tmp 14) rfl rfl (w1.heap.size + 1) (nv t g) rfl rfl 92 _ (Blk.eq q1.out) (by rw [nv_size]; exact Tryz.infoN) (zerosTo t g) (nv_one _ _) ?_))
  go_ret2
  exact ⟨rfl, nw.out.keep.below⟩
/- The results of both, both decimals, with what their sum is ($1 the second's sign, $2 the sum). -/
set_option maxHeartbeats 2000000 in
set_option maxRecDepth 100000 in
theorem add_yes (a b : ByteArray) (w : World) (hE : Env w) (hc : (chk a.data.toList && chk b.data.toList) = true) :
    Calls Tryz.prog 113 #[.string a, .string b] w fun e w' => e = .returned (rv (txt (zof a.data.toList + zof b.data.toList))) ∧ Below w.heap.size w w' := by
  have hb := fun w hE => both_any a b w hE
  rw [hc, num_eq, num_eq] at hb
  have hN : (zof a.data.toList).natAbs < top := zof_small _
  have hM : (zof b.data.toList).natAbs < top := zof_small _
  have hN' := small_lt (zof_small a.data.toList)
  have hM' := small_lt (zof_small b.data.toList)
  have hfin : toldP (plusP (decide (zof a.data.toList < 0)) (zof a.data.toList).natAbs (decide (zof b.data.toList < 0)) (zof b.data.toList).natAbs).1 (plusP (decide (zof a.data.toList < 0)) (zof a.data.toList).natAbs (decide (zof b.data.toList < 0)) (zof b.data.toList).natAbs).2 20 = txt (zof a.data.toList + zof b.data.toList) := by
    rw [toldP_20, plusP_signed, signed_self, signed_self]
  generalize txt (zof a.data.toList + zof b.data.toList) = R at *
  generalize decide (zof a.data.toList < 0) = s at *
  generalize decide (zof b.data.toList < 0) = t at *
  generalize (zof a.data.toList).natAbs = N at *
  generalize (zof b.data.toList).natAbs = M at *
  obtain ⟨f, hf⟩ : ∃ f, wd N = f := ⟨_, rfl⟩
  obtain ⟨g, hg⟩ : ∃ g, wd M = g := ⟨_, rfl⟩
  rw [hf, hg] at hb
  replace hb := Lib.hid hb
  replace hE := Lib.hid hE
  replace hN := Lib.hid hN
  replace hM := Lib.hid hM
  replace hN' := Lib.hid hN'
  replace hM' := Lib.hid hM'
  replace hf := Lib.hid hf
  replace hg := Lib.hid hg
  replace hfin := Lib.hid hfin
  go_enter Tryz.func113, Tryz.ntmps113
  go_wp2_with fail
  refine (hb.out _ hE.out).mono ?_
  rintro e w1 ⟨rfl, hb1⟩
  have q0 : Blk ((w1.alloc (.cells (nv false fun _ => 0) 92)).alloc (.cells (nv false fun _ => 0) 92)) w1.heap.size (nv false fun _ => 0) 92 := (Blk.new _ _ _).alloc _
  have q1 : Blk (((w1.alloc (.cells (nv false fun _ => 0) 92)).alloc (.cells (nv false fun _ => 0) 92)).setRow w1.heap.size (nv s f)) (w1.heap.size + 1) (nv false fun _ => 0) 92 := by
    have := Blk.new (w1.alloc (.cells (nv false fun _ => 0) 92)) (nv false fun _ => 0) 92
    rw [World.size_alloc] at this
    exact this.setRow_other (by omega)
  have nw := NW.made hb1 s t f g
  rw [nv_falses] at q0 q1 nw
  replace q0 := Lib.hid q0
  replace q1 := Lib.hid q1
  replace nw := Lib.hid nw
  go_upto_region 4 with (first | (with_reducible refine wpList_store_rowTo rfl 92 (.tmp 6) (.tmp 13) rfl rfl w1.heap.size (nv s f) rfl rfl 92 _ (Blk.eq q0.out) (by rw [nv_size]; exact Tryz.infoN) (zerosTo s f) (nv_one _ _) ?_) | (with_reducible refine wpList_store_rowTo rfl 92 (.tmp 7) (.tmp 14) rfl rfl (w1.heap.size + 1) (nv t g) rfl rfl 92 _ (Blk.eq q1.out) (by rw [nv_size]; exact Tryz.infoN) (zerosTo t g) (nv_one _ _) ?_))
  generalize (((w1.alloc (.cells #[.bool false, .int .u64 0, .int .u64 0, .int .u64 0, .int .u64 0, .int .u64 0, .int .u64 0, .int .u64 0, .int .u64 0, .int .u64 0, .int .u64 0, .int .u64 0, .int .u64 0, .int .u64 0, .int .u64 0, .int .u64 0, .int .u64 0] 92)).alloc (.cells #[.bool false, .int .u64 0, .int .u64 0, .int .u64 0, .int .u64 0, .int .u64 0, .int .u64 0, .int .u64 0, .int .u64 0, .int .u64 0, .int .u64 0, .int .u64 0, .int .u64 0, .int .u64 0, .int .u64 0, .int .u64 0, .int .u64 0] 92)).setRow w1.heap.size (nv s f)).setRow (w1.heap.size + 1) (nv t g) = W at *; clear q0 q1
  go_wp2_with (first | (with_reducible refine wpList_load_row rfl 92 (.tmp 6) rfl (w1.heap.size) rfl 92 _ (0, 0) _ (Blk.eq nw.out.b0) Tryz.underlying92 rfl (by rw [nv_size]; exact Tryz.infoN) ?_) | (with_reducible refine wpList_load_row rfl 92 (.tmp 7) rfl (w1.heap.size + 1) rfl 92 _ (0, 0) _ (Blk.eq nw.out.b1) Tryz.underlying92 rfl (by rw [nv_size]; exact Tryz.infoN) ?_))
  rw [← hf.out, ← hg.out]
  refine (plus_any s t N M _ hN'.out hM'.out).mono ?_
  rintro e w2 ⟨rfl, hb2⟩
  have nk := nw.out.below hb2
  have hE2 := hE.out.below nk.keep.below
  replace nk := Lib.hid nk
  replace hE2 := Lib.hid hE2
  clear hb2
  go_wp2_with fail
  refine (text_any _ _ _ hE2.out (plusP_lt _ _ _ _ hN.out hM.out)).mono ?_
  rintro e w3 ⟨rfl, hb3⟩
  rw [hfin.out]
  go_wp2
  go_ret2
  exact ⟨rfl, (nk.out.below hb3).keep.below⟩
theorem signed_not (t : Bool) (M : Nat) : signed (!t) M = - signed t M := by cases t <;> simp [signed]
set_option maxHeartbeats 2000000 in
set_option maxRecDepth 100000 in
theorem sub_yes (a b : ByteArray) (w : World) (hE : Env w) (hc : (chk a.data.toList && chk b.data.toList) = true) :
    Calls Tryz.prog 114 #[.string a, .string b] w fun e w' => e = .returned (rv (txt (zof a.data.toList - zof b.data.toList))) ∧ Below w.heap.size w w' := by
  have hb := fun w hE => both_any a b w hE
  rw [hc, num_eq, num_eq] at hb
  have hN : (zof a.data.toList).natAbs < top := zof_small _
  have hM : (zof b.data.toList).natAbs < top := zof_small _
  have hN' := small_lt (zof_small a.data.toList)
  have hM' := small_lt (zof_small b.data.toList)
  have hfin : toldP (plusP (decide (zof a.data.toList < 0)) (zof a.data.toList).natAbs (!decide (zof b.data.toList < 0)) (zof b.data.toList).natAbs).1 (plusP (decide (zof a.data.toList < 0)) (zof a.data.toList).natAbs (!decide (zof b.data.toList < 0)) (zof b.data.toList).natAbs).2 20 = txt (zof a.data.toList - zof b.data.toList) := by
    rw [toldP_20, plusP_signed, signed_not, signed_self, signed_self, Int.sub_eq_add_neg]
  generalize txt (zof a.data.toList - zof b.data.toList) = R at *
  generalize decide (zof a.data.toList < 0) = s at *
  generalize decide (zof b.data.toList < 0) = t at *
  generalize (zof a.data.toList).natAbs = N at *
  generalize (zof b.data.toList).natAbs = M at *
  obtain ⟨f, hf⟩ : ∃ f, wd N = f := ⟨_, rfl⟩
  obtain ⟨g, hg⟩ : ∃ g, wd M = g := ⟨_, rfl⟩
  rw [hf, hg] at hb
  replace hb := Lib.hid hb
  replace hE := Lib.hid hE
  replace hN := Lib.hid hN
  replace hM := Lib.hid hM
  replace hN' := Lib.hid hN'
  replace hM' := Lib.hid hM'
  replace hf := Lib.hid hf
  replace hg := Lib.hid hg
  replace hfin := Lib.hid hfin
  go_enter Tryz.func114, Tryz.ntmps114
  go_wp2_with fail
  refine (hb.out _ hE.out).mono ?_
  rintro e w1 ⟨rfl, hb1⟩
  have q0 : Blk ((w1.alloc (.cells (nv false fun _ => 0) 92)).alloc (.cells (nv false fun _ => 0) 92)) w1.heap.size (nv false fun _ => 0) 92 := (Blk.new _ _ _).alloc _
  have q1 : Blk (((w1.alloc (.cells (nv false fun _ => 0) 92)).alloc (.cells (nv false fun _ => 0) 92)).setRow w1.heap.size (nv s f)) (w1.heap.size + 1) (nv false fun _ => 0) 92 := by
    have := Blk.new (w1.alloc (.cells (nv false fun _ => 0) 92)) (nv false fun _ => 0) 92
    rw [World.size_alloc] at this
    exact this.setRow_other (by omega)
  have nw := NW.made hb1 s t f g
  rw [nv_falses] at q0 q1 nw
  replace q0 := Lib.hid q0
  replace q1 := Lib.hid q1
  replace nw := Lib.hid nw
  go_upto_region 4 with (first | (with_reducible refine wpList_store_rowTo rfl 92 (.tmp 6) (.tmp 13) rfl rfl w1.heap.size (nv s f) rfl rfl 92 _ (Blk.eq q0.out) (by rw [nv_size]; exact Tryz.infoN) (zerosTo s f) (nv_one _ _) ?_) | (with_reducible refine wpList_store_rowTo rfl 92 (.tmp 7) (.tmp 14) rfl rfl (w1.heap.size + 1) (nv t g) rfl rfl 92 _ (Blk.eq q1.out) (by rw [nv_size]; exact Tryz.infoN) (zerosTo t g) (nv_one _ _) ?_))
  generalize (((w1.alloc (.cells #[.bool false, .int .u64 0, .int .u64 0, .int .u64 0, .int .u64 0, .int .u64 0, .int .u64 0, .int .u64 0, .int .u64 0, .int .u64 0, .int .u64 0, .int .u64 0, .int .u64 0, .int .u64 0, .int .u64 0, .int .u64 0, .int .u64 0] 92)).alloc (.cells #[.bool false, .int .u64 0, .int .u64 0, .int .u64 0, .int .u64 0, .int .u64 0, .int .u64 0, .int .u64 0, .int .u64 0, .int .u64 0, .int .u64 0, .int .u64 0, .int .u64 0, .int .u64 0, .int .u64 0, .int .u64 0, .int .u64 0] 92)).setRow w1.heap.size (nv s f)).setRow (w1.heap.size + 1) (nv t g) = W at *; clear q0 q1
  obtain ⟨c0, c1, fz⟩ := nw.out.cells
  have nn := nw.out.neg (!t)
  replace nn := Lib.hid nn
  go_wp2_with (first | (with_reducible refine wpList_load_row rfl 92 (.tmp 6) rfl (w1.heap.size) rfl 92 _ (0, 0) _ (Blk.eq nn.out.b0) Tryz.underlying92 rfl (by rw [nv_size]; exact Tryz.infoN) ?_) | (with_reducible refine wpList_load_row rfl 92 (.tmp 7) rfl (w1.heap.size + 1) rfl 92 _ (0, 0) _ (Blk.eq nn.out.b1) Tryz.underlying92 rfl (by rw [nv_size]; exact Tryz.infoN) ?_))
  rw [← hf.out, ← hg.out]
  refine (plus_any s (!t) N M _ hN'.out hM'.out).mono ?_
  rintro e w2 ⟨rfl, hb2⟩
  have nk := nn.out.below hb2
  have hE2 := hE.out.below nk.keep.below
  replace nk := Lib.hid nk
  replace hE2 := Lib.hid hE2
  clear hb2
  go_wp2_with fail
  refine (text_any _ _ _ hE2.out (plusP_lt _ _ _ _ hN.out hM.out)).mono ?_
  rintro e w3 ⟨rfl, hb3⟩
  rw [hfin.out]
  go_wp2
  go_ret2
  exact ⟨rfl, (nk.out.below hb3).keep.below⟩
def addR (a b : List UInt8) : List UInt8 × Int := if chk a && chk b then txt (zof a + zof b) else ([], 1)
def subR (a b : List UInt8) : List UInt8 × Int := if chk a && chk b then txt (zof a - zof b) else ([], 1)
theorem add_call (a b : ByteArray) (w : World) (hE : Env w) : Calls Tryz.prog 113 #[.string a, .string b] w fun e w' => e = .returned (rv (addR a.data.toList b.data.toList)) ∧ Below w.heap.size w w' := by
  unfold addR
  cases hc : (chk a.data.toList && chk b.data.toList)
  · exact add_no a b w hE hc
  · exact add_yes a b w hE hc
theorem sub_call (a b : ByteArray) (w : World) (hE : Env w) : Calls Tryz.prog 114 #[.string a, .string b] w fun e w' => e = .returned (rv (subR a.data.toList b.data.toList)) ∧ Below w.heap.size w w' := by
  unfold subR
  cases hc : (chk a.data.toList && chk b.data.toList)
  · exact sub_no a b w hE hc
  · exact sub_yes a b w hE hc
end Go.Proofs.YthecgifgjagmaaaGreatDoor.dec
