/- Texts DecCmp, ValNum, one behind the other. -/
import Derived.Test.YtidplkfhodpdhaaGreatDoorDecC
import Derived.ChangeKeysEq
import Derived.Test.YtidplkfhodpdhaaGreatDoorValBA
namespace Go.Proofs.YtidplkfhodpdhaaGreatDoor.dec
open Go.ChangeShapes Go.WideShapes Go.ChangeAt Go.RowKit kit
set_option linter.unusedVariables false
def allZ (f : Nat → Nat) : Bool := (List.range 16).all fun i => f i == 0
theorem eqItems_words (d : Nat) (f g : Nat → Nat) (w : World) (is : List Nat) (h : ∀ i ∈ is, i < 16) :
 (Op.eqItems (d + 1) 157 1 (wv f) (wv g) is).run Tryz.prog w = .ok (is.all fun i => f i == g i) w := by
 induction is with
 | nil => rfl
 | cons i is ih =>
  have hi := h i (by simp)
  have px : ∀ f : Nat → Nat, (part 157 (wv f) (i * 1)).run Tryz.prog w = .ok (.int .u64 (f i : Nat)) w := by
   intro f
   have := wv_get f i hi
   simp [part, isAgg, run_underlying Tryz.underlying157, this]
  have pe : (Op.equalIn (d + 1) 157 (.int .u64 (f i : Nat)) (.int .u64 (g i : Nat))).run Tryz.prog w = .ok (f i == g i) w := by
   rw [run_equalIn_int w d 157 .u64 .u64 _ _ Tryz.underlying157]
   congr 1
   rw [Bool.eq_iff_iff]; simp; omega
  simp only [Op.eqItems, Sem.run_bind, px, pe, Result.andThen_ok, List.all_cons]
  cases f i == g i
  ·simp
  ·simpa using ih fun j hj => h j (by simp [hj])
theorem eq_words (f : Nat → Nat) (w : World) : (Op.equalIn 10000 159 (.agg (wv f)) (.agg #[.int .u64 0, .int .u64 0, .int .u64 0, .int .u64 0, .int .u64 0, .int .u64 0, .int .u64 0, .int .u64 0, .int .u64 0, .int .u64 0, .int .u64 0, .int .u64 0, .int .u64 0, .int .u64 0, .int .u64 0, .int .u64 0])).run Tryz.prog w = .ok (allZ f) w := by
 obtain ⟨i, hi, _⟩ := Option.map_eq_some_iff.1 (show (Tryz.prog.info? 157).map (·.size) = some 1 by kernel_rfl)
 have hc : Tryz.prog.cellsOf 157 = 1 := by kernel_rfl
 have := run_equalIn_array (P := Tryz.prog) w 9999 (wv f) (wv fun _ => 0) Tryz.underlying159 hi
 rw [hc, eqItems_words 9998 f (fun _ => 0) w (List.range 16) (fun i hi => List.mem_range.1 hi)] at this
 rw [← wv_zero]
 exact this
theorem allZ_wd (N : Nat) (hN : N < B9 ^ 16) : allZ (wd N) = decide (N = 0) := by
 unfold allZ
 by_cases h : N = 0
 ·subst h; rw [wd_zero]; rfl
 ·rw [decide_eq_false h]
  apply Bool.eq_false_iff.2
  intro hall
  have h0 : ∀ n, n ≤ 16 → vs (wd N) n = 0 := by
   intro n
   induction n with
   | zero => intro _; rfl
   | succ n ih =>
    intro hn
    have h1 := List.all_eq_true.1 hall n (List.mem_range.2 (by omega))
    have h2 : wd N n = 0 := by simpa using h1
    rw [vs, ih (by omega), h2, Nat.zero_mul]
  have := h0 16 (Nat.le_refl _)
  rw [vs_wd, Nat.mod_eq_of_lt hN] at this
  exact h this
set_option maxHeartbeats 2000000 in
set_option maxRecDepth 100000 in
theorem cmp_no (a b : ByteArray) (w : World) (hE : Env w) (hc : (chk a.data.toList && chk b.data.toList) = false) :
 Calls Tryz.prog 125 #[.string a, .string b] w fun e w' => e = .returned (.int .i64 0) ∧ Below w.heap.size w w' := by
 have hb := fun w hE => both_any a b w hE
 rw [hc, num_eq, num_eq] at hb
 generalize decide (zof a.data.toList < 0) = s at *
 generalize decide (zof b.data.toList < 0) = t at *
 generalize wd (zof a.data.toList).natAbs = f at *
 generalize wd (zof b.data.toList).natAbs = g at *
 replace hb := Lib.hid hb
 replace hE := Lib.hid hE
 go_enter Tryz.func125, Tryz.ntmps125
 go_wp2_with fail
 refine (hb.out _ hE.out).mono ?_
 rintro e w1 ⟨rfl, hb1⟩
 have q0 : Blk ((w1.alloc (.cells (nv false fun _ => 0) 161)).alloc (.cells (nv false fun _ => 0) 161)) w1.heap.size (nv false fun _ => 0) 161 := (Blk.new _ _ _).alloc _
 have q1 : Blk (((w1.alloc (.cells (nv false fun _ => 0) 161)).alloc (.cells (nv false fun _ => 0) 161)).setRow w1.heap.size (nv s f)) (w1.heap.size + 1) (nv false fun _ => 0) 161 := by
  have := Blk.new (w1.alloc (.cells (nv false fun _ => 0) 161)) (nv false fun _ => 0) 161
  rw [World.size_alloc] at this
  exact this.setRow_other (by omega)
 have nw := NW.made hb1 s t f g
 rw [nv_falses] at q0 q1 nw
 replace q0 := Lib.hid q0
 replace q1 := Lib.hid q1
 replace nw := Lib.hid nw
 go_wp2_with (first | (with_reducible refine wpList_store_rowTo rfl 161 (.tmp 5) (.tmp 13) rfl rfl w1.heap.size (nv s f) rfl rfl 161 _ (Blk.eq q0.out) (by rw [nv_size]; exact Tryz.infoN) (zerosTo s f) (nv_one _ _) ?_) | (with_reducible refine wpList_store_rowTo rfl 161 (.tmp 6) (.tmp 14) rfl rfl (w1.heap.size + 1) (nv t g) rfl rfl 161 _ (Blk.eq q1.out) (by rw [nv_size]; exact Tryz.infoN) (zerosTo t g) (nv_one _ _) ?_))
 go_ret
 exact ⟨rfl, nw.out.keep.below⟩
def cmpD (s : Bool) (N : Nat) : Int := if N = 0 then 0 else if s then -1 else 1
theorem cmpD_signed (s : Bool) (N : Nat) (x y : Int) (h : signed s N = x - y) : cmpD s N = cmpI x y := by
 unfold cmpD cmpI
 unfold signed at h
 by_cases hN : N = 0
 ·subst hN
  have : x = y := by cases s <;> simp at h <;> omega
  rw [if_pos rfl, if_pos this]
 ·cases s
  ·have h1 : (N : Int) = x - y := by simpa using h
   rw [if_neg hN, if_neg (by decide), if_neg (by omega), if_neg (by omega)]
  ·have h1 : -(N : Int) = x - y := by simpa using h
   rw [if_neg hN, if_pos rfl, if_neg (by omega), if_pos (by omega)]
set_option maxHeartbeats 2000000 in
set_option maxRecDepth 100000 in
theorem cmp_yes (a b : ByteArray) (w : World) (hE : Env w) (hc : (chk a.data.toList && chk b.data.toList) = true) :
 Calls Tryz.prog 125 #[.string a, .string b] w fun e w' => e = .returned (.int .i64 (cmpI (zof a.data.toList) (zof b.data.toList))) ∧ Below w.heap.size w w' := by
 have hb := fun w hE => both_any a b w hE
 rw [hc, num_eq, num_eq] at hb
 have hN : (zof a.data.toList).natAbs < top := zof_small _
 have hM : (zof b.data.toList).natAbs < top := zof_small _
 have hN' := small_lt (zof_small a.data.toList)
 have hM' := small_lt (zof_small b.data.toList)
 have hfin : cmpD (plusP (decide (zof a.data.toList < 0)) (zof a.data.toList).natAbs (!decide (zof b.data.toList < 0)) (zof b.data.toList).natAbs).1 (plusP (decide (zof a.data.toList < 0)) (zof a.data.toList).natAbs (!decide (zof b.data.toList < 0)) (zof b.data.toList).natAbs).2 = cmpI (zof a.data.toList) (zof b.data.toList) := by
  apply cmpD_signed
  rw [plusP_signed, signed_not, signed_self, signed_self, Int.sub_eq_add_neg]
 generalize cmpI (zof a.data.toList) (zof b.data.toList) = R at *
 generalize decide (zof a.data.toList < 0) = s at *
 generalize decide (zof b.data.toList < 0) = t at *
 generalize (zof a.data.toList).natAbs = N at *
 generalize (zof b.data.toList).natAbs = M at *
 obtain ⟨f, hf⟩ : ∃ f, wd N = f := ⟨_, rfl⟩
 obtain ⟨g, hg⟩ : ∃ g, wd M = g := ⟨_, rfl⟩
 rw [hf, hg] at hb
 replace hb := Lib.hid hb
 replace hE := Lib.hid hE
 replace hN := Lib.hid hN
 replace hM := Lib.hid hM
 replace hN' := Lib.hid hN'
 replace hM' := Lib.hid hM'
 replace hf := Lib.hid hf
 replace hg := Lib.hid hg
 replace hfin := Lib.hid hfin
 go_enter Tryz.func125, Tryz.ntmps125
 go_wp2_with fail
 refine (hb.out _ hE.out).mono ?_
 rintro e w1 ⟨rfl, hb1⟩
 have q0 : Blk ((w1.alloc (.cells (nv false fun _ => 0) 161)).alloc (.cells (nv false fun _ => 0) 161)) w1.heap.size (nv false fun _ => 0) 161 := (Blk.new _ _ _).alloc _
 have q1 : Blk (((w1.alloc (.cells (nv false fun _ => 0) 161)).alloc (.cells (nv false fun _ => 0) 161)).setRow w1.heap.size (nv s f)) (w1.heap.size + 1) (nv false fun _ => 0) 161 := by
  have := Blk.new (w1.alloc (.cells (nv false fun _ => 0) 161)) (nv false fun _ => 0) 161
  rw [World.size_alloc] at this
  exact this.setRow_other (by omega)
 have nw := NW.made hb1 s t f g
 rw [nv_falses] at q0 q1 nw
 replace q0 := Lib.hid q0
 replace q1 := Lib.hid q1
 replace nw := Lib.hid nw
 go_upto_region 4 with (first | (with_reducible refine wpList_store_rowTo rfl 161 (.tmp 5) (.tmp 13) rfl rfl w1.heap.size (nv s f) rfl rfl 161 _ (Blk.eq q0.out) (by rw [nv_size]; exact Tryz.infoN) (zerosTo s f) (nv_one _ _) ?_) | (with_reducible refine wpList_store_rowTo rfl 161 (.tmp 6) (.tmp 14) rfl rfl (w1.heap.size + 1) (nv t g) rfl rfl 161 _ (Blk.eq q1.out) (by rw [nv_size]; exact Tryz.infoN) (zerosTo t g) (nv_one _ _) ?_))
 generalize (((w1.alloc (.cells #[.bool false, .int .u64 0, .int .u64 0, .int .u64 0, .int .u64 0, .int .u64 0, .int .u64 0, .int .u64 0, .int .u64 0, .int .u64 0, .int .u64 0, .int .u64 0, .int .u64 0, .int .u64 0, .int .u64 0, .int .u64 0, .int .u64 0] 161)).alloc (.cells #[.bool false, .int .u64 0, .int .u64 0, .int .u64 0, .int .u64 0, .int .u64 0, .int .u64 0, .int .u64 0, .int .u64 0, .int .u64 0, .int .u64 0, .int .u64 0, .int .u64 0, .int .u64 0, .int .u64 0, .int .u64 0, .int .u64 0] 161)).setRow w1.heap.size (nv s f)).setRow (w1.heap.size + 1) (nv t g) = W at *; clear q0 q1
 obtain ⟨c0, c1, fz⟩ := nw.out.cells
 have nn := nw.out.neg (!t)
 replace nn := Lib.hid nn
 go_wp2_with (first | (with_reducible refine wpList_load_row rfl 161 (.tmp 5) rfl (w1.heap.size) rfl 161 _ (0, 0) _ (Blk.eq nn.out.b0) Tryz.underlying161 rfl (by rw [nv_size]; exact Tryz.infoN) ?_) | (with_reducible refine wpList_load_row rfl 161 (.tmp 6) rfl (w1.heap.size + 1) rfl 161 _ (0, 0) _ (Blk.eq nn.out.b1) Tryz.underlying161 rfl (by rw [nv_size]; exact Tryz.infoN) ?_))
 rw [← hf.out, ← hg.out]
 refine (plus_any s (!t) N M _ hN'.out hM'.out).mono ?_
 rintro e w2 ⟨rfl, hb2⟩
 have nk := nn.out.below hb2
 have hlt := plusP_lt s N (!t) M hN.out hM.out
 generalize plusP s N (!t) M = p at *
 obtain ⟨s', D⟩ := p
 have hR : cmpD s' D = R := hfin.out
 have hz : allZ (wd D) = decide (D = 0) := allZ_wd D hlt
 have heq := eq_words (wd D)
 dsimp only
 clear hfin hlt hb2 nn nw c0 c1 fz
 generalize wd D = d at *
 have r0 : Blk (w2.alloc (.cells (nv false fun _ => 0) 161)) w2.heap.size (nv false fun _ => 0) 161 := Blk.new _ _ _
 have b3 : Blk ((w2.alloc (.cells (nv false fun _ => 0) 161)).setRow w2.heap.size (nv s' d)) w2.heap.size (nv s' d) 161 := r0.setRow
 have k3 : Keep [] w ((w2.alloc (.cells (nv false fun _ => 0) 161)).setRow w2.heap.size (nv s' d)) := (nk.keep.alloc _).setRow (by have := nk.keep.size; omega) _
 rw [nv_falses] at r0 b3 k3
 replace nk := Lib.hid nk
 replace r0 := Lib.hid r0
 replace b3 := Lib.hid b3
 replace k3 := Lib.hid k3
 replace hR := Lib.hid hR
 replace hz := Lib.hid hz
 go_upto_region 6 with (first | (with_reducible refine wpList_store_rowTo rfl 161 (.tmp 8) (.tmp 24) rfl rfl w2.heap.size (nv s' d) rfl rfl 161 _ (Blk.eq r0.out) (by rw [nv_size]; exact Tryz.infoN) (zerosTo s' d) (nv_one _ _) ?_))
 clear r0
 generalize (w2.alloc (.cells #[.bool false, .int .u64 0, .int .u64 0, .int .u64 0, .int .u64 0, .int .u64 0, .int .u64 0, .int .u64 0, .int .u64 0, .int .u64 0, .int .u64 0, .int .u64 0, .int .u64 0, .int .u64 0, .int .u64 0, .int .u64 0, .int .u64 0] 161)).setRow w2.heap.size (nv s' d) = W3 at *
 replace b3 := b3.out
 have c3 : W3.cell? ⟨w2.heap.size, 0, none⟩ = some (.bool s') := b3.cell _ (nv_zero _ _)
 by_cases h0 : D = 0
 ·have hz' : allZ d = true := by rw [hz.out, decide_eq_true h0]
  have hR' : Hid ((0 : Int) = R) := by have := hR.out; unfold cmpD at this; rw [if_pos h0] at this; exact this
  rw [hz'] at heq
  clear hR hz h0 hz'
  have hR := hR'
  clear hR'
  go_wp2_with (first | (with_reducible refine wpList_load_mid rfl 159 (.tmp 26) rfl (w2.heap.size) 1 rfl _ _ (nv_range b3) Tryz.underlying159 rfl (by rw [wv_len]; exact Tryz.infoW) ?_))
  go_ret
  exact ⟨ret_int hR.out, k3.out.below⟩
 ·have hz' : allZ d = false := by rw [hz.out, decide_eq_false h0]
  rw [hz'] at heq
  have hR' : (if s' = true then (-1 : Int) else 1) = R := by have := hR.out; unfold cmpD at this; rw [if_neg h0] at this; exact this
  clear hR hz h0 hz'
  cases s'
  ·have hR : Hid ((1 : Int) = R) := hR'
   clear hR'
   go_wp2_with (first | (with_reducible refine wpList_load_mid rfl 159 (.tmp 26) rfl (w2.heap.size) 1 rfl _ _ (nv_range b3) Tryz.underlying159 rfl (by rw [wv_len]; exact Tryz.infoW) ?_))
   go_ret
   exact ⟨ret_int hR.out, k3.out.below⟩
  ·have hR : Hid ((-1 : Int) = R) := hR'
   clear hR'
   go_wp2_with (first | (with_reducible refine wpList_load_mid rfl 159 (.tmp 26) rfl (w2.heap.size) 1 rfl _ _ (nv_range b3) Tryz.underlying159 rfl (by rw [wv_len]; exact Tryz.infoW) ?_))
   go_ret
   exact ⟨ret_int hR.out, k3.out.below⟩
def cmpR (a b : List UInt8) : Int := if chk a && chk b then cmpI (zof a) (zof b) else 0
theorem cmp_call (a b : ByteArray) (w : World) (hE : Env w) : Calls Tryz.prog 125 #[.string a, .string b] w fun e w' => e = .returned (.int .i64 (cmpR a.data.toList b.data.toList)) ∧ Below w.heap.size w w' := by
 unfold cmpR
 cases hc : (chk a.data.toList && chk b.data.toList)
 ·exact cmp_no a b w hE hc
 ·exact cmp_yes a b w hE hc
end Go.Proofs.YtidplkfhodpdhaaGreatDoor.dec
namespace Go.Proofs.YtidplkfhodpdhaaGreatDoor.val
open Go.ChangeShapes Go.WideShapes Go.ChangeAt Go.RowKit kit dec
set_option linter.unusedVariables false
set_option linter.unusedSimpArgs false
theorem nan_any (a : Int) (w : World) : Calls Tryz.prog 128 #[.int .i64 a] w fun e w' => e = .returned (.bool false) ∧ w' = w := by
 go_enter Tryz.func128, Tryz.ntmps128
 go_wp2
 go_ret
 exact ⟨ret_bool (by simp), rfl⟩
set_option maxRecDepth 100000 in
theorem cmp64_any (a b : Int) (w : World) : Calls Tryz.prog 106 #[.int .i64 a, .int .i64 b] w fun e w' => e = .returned (.int .i64 (cmpI a b)) ∧ w' = w := by
 by_cases h : a < b
 ·have hc : cmpI a b = -1 := by unfold cmpI; rw [if_neg (by omega), if_pos h]
  rw [hc]
  clear hc
  go_enter Tryz.func106, Tryz.ntmps106
  go_wp2_with (go_at_call 128; refine (nan_any _ _).mono ?_; rintro e w' ⟨rfl, rfl⟩)
  go_ret
  exact ⟨rfl, rfl⟩
 ·by_cases h2 : b < a
  ·have hc : cmpI a b = 1 := by unfold cmpI; rw [if_neg (by omega), if_neg h]
   rw [hc]
   clear hc
   go_enter Tryz.func106, Tryz.ntmps106
   go_wp2_with (go_at_call 128; refine (nan_any _ _).mono ?_; rintro e w' ⟨rfl, rfl⟩)
   go_ret
   exact ⟨rfl, rfl⟩
  ·have hc : cmpI a b = 0 := by unfold cmpI; rw [if_pos (by omega)]
   rw [hc]
   clear hc
   go_enter Tryz.func106, Tryz.ntmps106
   go_wp2_with (go_at_call 128; refine (nan_any _ _).mono ?_; rintro e w' ⟨rfl, rfl⟩)
   go_ret
   exact ⟨rfl, rfl⟩
end Go.Proofs.YtidplkfhodpdhaaGreatDoor.val
