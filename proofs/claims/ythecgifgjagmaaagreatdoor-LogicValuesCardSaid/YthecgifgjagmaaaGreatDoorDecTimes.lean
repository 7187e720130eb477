/- Contract of decimal's words: times. -/
import Derived.Test.YthecgifgjagmaaaGreatDoorDecWords
namespace Go.Proofs.YthecgifgjagmaaaGreatDoor.dec
open Go.ChangeShapes Go.WideShapes Go.ChangeAt Go.RowKit kit
set_option linter.unusedVariables false
def upd (o : Nat → Nat) (j x : Nat) : Nat → Nat := fun i => if i = j then x else o i
theorem wv_upd (o : Nat → Nat) (j x : Nat) (h : j < 16) : (wv o).setIfInBounds j (.int .u64 (x : Nat)) = wv (upd o j x) := by
  apply Array.ext_getElem?
  intro i
  rw [Array.getElem?_setIfInBounds, wv_size]
  by_cases hi : i < 16
  · rw [wv_get o i hi, wv_get _ i hi]
    unfold upd
    by_cases hj : j = i
    · subst hj; rw [if_pos rfl, if_pos h, if_pos rfl]
    · rw [if_neg hj, if_neg (fun e => hj e.symm)]
  · rw [if_neg (by omega), Array.getElem?_eq_none (by rw [wv_size]; omega), Array.getElem?_eq_none (by rw [wv_size]; omega)]
theorem wv_one (o : Nat → Nat) : (wv o).all (·.oneCell') = true := by
  simp only [wv, List.all_toArray, List.all_map, List.all_eq_true]; intro i _; rfl
theorem wv_zero : wv (fun _ => 0) = #[.int .u64 0, .int .u64 0, .int .u64 0, .int .u64 0, .int .u64 0, .int .u64 0, .int .u64 0, .int .u64 0, .int .u64 0, .int .u64 0, .int .u64 0, .int .u64 0, .int .u64 0, .int .u64 0, .int .u64 0, .int .u64 0] := rfl

/-- The product's words, place i of f done up to k, and the carry. -/
def inn (f g : Nat → Nat) (i : Nat) (o : Nat → Nat) : Nat → (Nat → Nat) × Nat
  | 0 => (o, 0)
  | k + 1 => (upd (inn f g i o k).1 (i + k) (((inn f g i o k).1 (i + k) + f i * g k + (inn f g i o k).2) % 1000000000), ((inn f g i o k).1 (i + k) + f i * g k + (inn f g i o k).2) / 1000000000)
def outT (f g : Nat → Nat) : Nat → Nat → Nat
  | 0 => fun _ => 0
  | i + 1 => (inn f g i (outT f g i) (16 - i)).1
theorem inn_lt (f g : Nat → Nat) (hf : ∀ i, f i < 1000000000) (hg : ∀ i, g i < 1000000000) (i : Nat) (o : Nat → Nat) (ho : ∀ j, o j < 1000000000) (k : Nat) : (∀ j, (inn f g i o k).1 j < 1000000000) ∧ (inn f g i o k).2 < 1000000000 := by
  induction k with
  | zero => exact ⟨ho, by simp [inn]⟩
  | succ k ih =>
    obtain ⟨h1, h2⟩ := ih
    have hm : f i * g k ≤ 999999999 * 999999999 := Nat.mul_le_mul (by have := hf i; omega) (by have := hg k; omega)
    have := h1 (i + k)
    refine ⟨fun j => ?_, ?_⟩
    · simp only [inn, upd]; split
      · exact Nat.mod_lt _ (by decide)
      · exact h1 j
    · simp only [inn]; omega
theorem outT_lt (f g : Nat → Nat) (hf : ∀ i, f i < 1000000000) (hg : ∀ i, g i < 1000000000) (i : Nat) : ∀ j, outT f g i j < 1000000000 := by
  induction i with
  | zero => intro j; simp [outT]
  | succ i ih => intro j; exact (inn_lt f g hf hg i _ ih _).1 j

theorem Tryz.infoW : (Tryz.prog.info? 90).map (·.size) = some 16 := by kernel_rfl

/-- The world between two rounds: the two factors, the result's place, the product so far. -/
def TW (w : World) (f g o : Nat → Nat) (W : World) : Prop := Keep [] w W ∧ Blk W w.heap.size (wv f) 90 ∧ Blk W (w.heap.size + 1) (wv g) 90 ∧
  Blk W (w.heap.size + 1 + 1) (wv fun _ => 0) 90 ∧ Blk W (w.heap.size + 1 + 1 + 1) (wv o) 90
theorem TW.put {w W : World} {f g o : Nat → Nat} (h : TW w f g o W) (n j x : Nat) (hj : j < 16) : TW w f g (upd o j x) ((W.drewN n).setCell ⟨w.heap.size + 1 + 1 + 1, j, none⟩ (.int .u64 (x : Nat))) := by
  obtain ⟨h0, h1, h2, h3, h4⟩ := h
  refine ⟨(h0.drewN _).setCell (by simp; omega) _, (h1.drewN _).set_other _ (by simp; omega) _, (h2.drewN _).set_other _ (by simp) _, (h3.drewN _).set_other _ (by simp) _, ?_⟩
  rw [← wv_upd _ _ _ hj]; exact (h4.drewN _).set _ _

set_option maxRecDepth 100000 in
set_option maxHeartbeats 2000000 in
theorem times_any (f g : Nat → Nat) (w : World) (hf : ∀ i, f i < 1000000000) (hg : ∀ i, g i < 1000000000) :
    Calls Tryz.prog 144 #[.agg (wv f), .agg (wv g)] w fun e w' => e = .returned (.agg (wv (outT f g 16))) ∧ Below w.heap.size w w' := by
  replace hf := Lib.hid hf
  replace hg := Lib.hid hg
  go_enter Tryz.func144, Tryz.ntmps144
  go_wp2
  have hz := wv_zero
  rw [← hz]; clear hz
  obtain ⟨W, hW⟩ : ∃ W, (((w.alloc (.cells (wv f) 90)).alloc (.cells (wv g) 90)).alloc (.cells (wv fun _ => 0) 90)).alloc (.cells (wv fun _ => 0) 90) = W := ⟨_, rfl⟩
  have k0 : Keep [] w W := by rw [← hW]; exact ((((Keep.refl _ _).alloc _).alloc _).alloc _).alloc _
  have b0 : Blk W w.heap.size (wv f) 90 := by rw [← hW]; exact (((Blk.new _ _ _).alloc _).alloc _).alloc _
  have b1 : Blk W (w.heap.size + 1) (wv g) 90 := by
    rw [← hW]; have := ((Blk.new (w.alloc (.cells (wv f) 90)) (wv g) 90).alloc (.cells (wv fun _ => 0) 90)).alloc (.cells (wv fun _ => 0) 90)
    rwa [World.size_alloc] at this
  have b2 : Blk W (w.heap.size + 1 + 1) (wv fun _ => 0) 90 := by
    rw [← hW]; have := (Blk.new ((w.alloc (.cells (wv f) 90)).alloc (.cells (wv g) 90)) (wv fun _ => 0) 90).alloc (.cells (wv fun _ => 0) 90)
    rwa [World.size_alloc, World.size_alloc] at this
  have b3 : Blk W (w.heap.size + 1 + 1 + 1) (wv fun _ => 0) 90 := by
    rw [← hW]; have := Blk.new (((w.alloc (.cells (wv f) 90)).alloc (.cells (wv g) 90)).alloc (.cells (wv fun _ => 0) 90)) (wv fun _ => 0) 90
    rwa [World.size_alloc, World.size_alloc, World.size_alloc] at this
  rw [hW]
  have tw : TW w f g (fun _ => 0) W := ⟨k0, b0, b1, b2, b3⟩
  clear hW k0 b0 b1 b2 b3
  go_loopw [10] (fun vi wr => ∃ i : Nat, i ≤ 16 ∧ vi = .int .i64 i ∧ TW w f g (outT f g i) wr) (fun vi _ => 16 - (intOf vi).toNat)
  case atStart => exact ⟨0, by omega, rfl, tw⟩
  case round =>
    clear tw
    obtain ⟨i, hi, rfl, tw⟩ := hrel
    by_cases hlt : i < 16
    · have hfi : ((f i : Nat) : Int) ≤ 999999999 := by have := hf.out i; omega
      go_wp2
      go_loopw [7, 8] (fun vc vk wr => ∃ k : Nat, i + k ≤ 16 ∧ vk = .int .i64 k ∧ vc = .int .u64 ((inn f g i (outT f g i) k).2 : Nat) ∧ TW w f g (inn f g i (outT f g i) k).1 wr) (fun _ vk _ => 16 - (intOf vk).toNat)
      case atStart => exact ⟨0, by omega, rfl, rfl, tw⟩
      case round =>
        obtain ⟨k, hk, rfl, rfl, tk⟩ := hrel
        by_cases hlk : i + k < 16
        · have hc1 : wr.cell? ⟨w.heap.size + 1 + 1 + 1, i + k, none⟩ = some (.int .u64 ((inn f g i (outT f g i) k).1 (i + k) : Nat)) := tk.2.2.2.2.cell _ (wv_get _ _ hlk)
          have hc2 : wr.cell? ⟨w.heap.size, i, none⟩ = some (.int .u64 (f i : Nat)) := tk.2.1.cell _ (wv_get _ _ hlt)
          have hc3 : wr.cell? ⟨w.heap.size + 1, k, none⟩ = some (.int .u64 (g k : Nat)) := tk.2.2.1.cell _ (wv_get _ _ (by omega))
          have hfz := tk.2.2.2.2.free (i + k)
          have hin := inn_lt f g hf.out hg.out i _ (outT_lt f g hf.out hg.out i) k
          have hstep : inn f g i (outT f g i) (k + 1) = (upd (inn f g i (outT f g i) k).1 (i + k) (((inn f g i (outT f g i) k).1 (i + k) + f i * g k + (inn f g i (outT f g i) k).2) % 1000000000), ((inn f g i (outT f g i) k).1 (i + k) + f i * g k + (inn f g i (outT f g i) k).2) / 1000000000) := rfl
          have hbx := hin.1 (i + k)
          have hbc := hin.2
          have hbg := hg.out k
          have hm : f i * g k ≤ 999999999 * 999999999 := Nat.mul_le_mul (by omega) (by omega)
          have hmi : ((f i : Nat) : Int) * ((g k : Nat) : Int) ≤ 999999998000000001 := by
            have := Int.ofNat_le.2 hm; simpa using this
          have hm0 : 0 ≤ ((f i : Nat) : Int) * ((g k : Nat) : Int) := Int.mul_nonneg (by omega) (by omega)
          replace tk := Lib.hid tk
          replace tw := Lib.hid tw
          replace hstep := Lib.hid hstep
          clear hin hm
          generalize (inn f g i (outT f g i) k).1 (i + k) = x at *
          generalize (inn f g i (outT f g i) k).2 = c at *
          generalize f i = a at *
          generalize g k = y at *
          go_wp2
          go_quiet (fail)
          go_wp2
          go_roundw
          case rel =>
            refine ⟨k + 1, by omega, by go_num, by rw [hstep.out]; simp, ?_⟩
            rw [hstep.out]
            have := tk.out.put nq (i + k) ((x + a * y + c) % 1000000000) hlk
            simpa using this
          case measure => simp [intOf]; omega
        · obtain rfl : k = 16 - i := by omega
          have tk' : TW w f g (outT f g (i + 1)) wr := tk
          clear tk tw
          have hnl : ¬ ((i : Int) + ((16 - i : Nat) : Int) < 16) := by omega
          go_wp2
          go_roundw
          case rel => exact ⟨i + 1, by omega, by go_num, tk'⟩
          case measure => simp [intOf]; omega
    · obtain rfl : i = 16 := by omega
      obtain ⟨h0, h1, h2, h3, h4⟩ := tw
      replace h3 := Lib.hid h3
      replace h4 := Lib.hid h4
      replace h0 := Lib.hid h0
      clear h1 h2
      go_wp2_with (first
        | (with_reducible refine wpList_load_row rfl 90 _ rfl (w.heap.size + 1 + 1 + 1) rfl 90 _ (0, 0) _ h4.out.eq Tryz.underlying90 rfl (by rw [wv_size]; exact Tryz.infoW) ?_)
        | (with_reducible refine wpList_store_row rfl 90 _ _ rfl (w.heap.size + 1 + 1) _ rfl rfl 90 _ h3.out.eq (by rw [wv_size]; exact Tryz.infoW) (by rw [wv_size, wv_size]) (wv_one _) ?_))
      exact bodyPost_ret (v := .agg (wv (outT f g 16))) (results_cell_row rfl _ _ (w.heap.size + 1 + 1) 90 _ (0, 0) _ rfl h3.out.setRow.eq Tryz.underlying90 rfl (by rw [wv_size]; exact Tryz.infoW)) rfl
        ⟨rfl, (h0.out.setRow (by omega) _).below⟩
end Go.Proofs.YthecgifgjagmaaaGreatDoor.dec
