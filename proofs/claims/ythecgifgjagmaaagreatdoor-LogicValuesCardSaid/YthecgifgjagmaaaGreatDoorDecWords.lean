/- Contracts of decimal's words: add, sub, compare, times: what they compute, nine digits to a word. -/
import Derived.Test.YthecgifgjagmaaaGreatDoorKit
import Derived.Test.YthecgifgjagmaaaGreatDoorDecNum
namespace Go.Proofs.YthecgifgjagmaaaGreatDoor.dec
open Go.ChangeShapes Go.WideShapes Go.ChangeAt Go.RowKit kit
set_option linter.unusedVariables false

/-- Sixteen words. -/
def wv (f : Nat → Nat) : Array Value := ((List.range 16).map fun i => Value.int .u64 (f i : Nat)).toArray
theorem wv_size (f : Nat → Nat) : (wv f).size = 16 := by simp [wv]
theorem wv_get (f : Nat → Nat) (i : Nat) (h : i < 16) : (wv f)[i]? = some (.int .u64 (f i : Nat)) := by simp [wv, h]
/-- k words of an array written over, from off on. -/
def putW (cs : Array Value) (off : Nat) (h : Nat → Nat) (k : Nat) : Array Value := (List.range k).foldl (fun a i => a.setIfInBounds (off + i) (.int .u64 (h i : Nat))) cs
theorem putW_succ (cs : Array Value) (off : Nat) (h : Nat → Nat) (k : Nat) : putW cs off h (k + 1) = (putW cs off h k).setIfInBounds (off + k) (.int .u64 (h k : Nat)) := by
  unfold putW; rw [List.range_succ, List.foldl_append]; rfl
theorem putW_size (cs : Array Value) (off : Nat) (h : Nat → Nat) (k : Nat) : (putW cs off h k).size = cs.size := by
  induction k with
  | zero => rfl
  | succ k ih => rw [putW_succ, Array.size_setIfInBounds, ih]
theorem putW_get (cs : Array Value) (off : Nat) (h : Nat → Nat) (k j : Nat) : (putW cs off h k)[j]? = if off ≤ j ∧ j < off + k ∧ j < cs.size then some (.int .u64 (h (j - off) : Nat)) else cs[j]? := by
  induction k with
  | zero => rw [if_neg (by omega)]; rfl
  | succ k ih =>
    rw [putW_succ, Array.getElem?_setIfInBounds, putW_size, ih]
    by_cases h1 : off + k = j
    · subst h1
      by_cases h2 : off + k < cs.size
      · rw [if_pos rfl, if_pos h2, if_pos ⟨by omega, by omega, h2⟩, show off + k - off = k by omega]
      · rw [if_pos rfl, if_neg h2, if_neg (by omega), Array.getElem?_eq_none (by omega)]
    · rw [if_neg h1]
      by_cases h2 : off ≤ j ∧ j < off + k ∧ j < cs.size
      · rw [if_pos h2, if_pos (by omega)]
      · rw [if_neg h2, if_neg (by omega)]
theorem putW_wv (f h : Nat → Nat) : putW (wv f) 0 h 16 = wv h := by
  apply Array.ext_getElem?
  intro j
  rw [putW_get, wv_size]
  by_cases hj : j < 16
  · rw [if_pos (by omega), Nat.sub_zero, wv_get h j hj]
  · rw [if_neg (by omega), Array.getElem?_eq_none (by rw [wv_size]; omega), Array.getElem?_eq_none (by rw [wv_size]; omega)]

def base : Nat := 1000000000
/-- The carry ahead of word k. -/
def carry (f g : Nat → Nat) : Nat → Nat
  | 0 => 0
  | k + 1 => (f k + g k + carry f g k) / 1000000000
def sumW (f g : Nat → Nat) (k : Nat) : Nat := (f k + g k + carry f g k) % 1000000000
theorem carry_le (f g : Nat → Nat) (hf : ∀ i, f i < 1000000000) (hg : ∀ i, g i < 1000000000) (k : Nat) : carry f g k ≤ 1 := by
  induction k with
  | zero => simp [carry]
  | succ k ih => have := hf k; have := hg k; simp only [carry]; omega

set_option maxRecDepth 100000 in
set_option maxHeartbeats 1000000 in
theorem add_any (b off : Nat) (cs : Array Value) (T : TypeId) (f g : Nat → Nat) (w : World) (hB : Blk w b cs T) (hcs : ∀ i, i < 16 → cs[off + i]? = some (.int .u64 (f i : Nat)))
    (hf : ∀ i, f i < 1000000000) (hg : ∀ i, g i < 1000000000) :
    Calls Tryz.prog 122 #[.pointer (some ⟨b, off, none⟩), .agg (wv g)] w fun e w' => e = .returned (.tuple #[]) ∧ Keep [b] w w' ∧ Blk w' b (putW cs off (sumW f g) 16) T := by
  replace hf := Lib.hid hf
  replace hg := Lib.hid hg
  replace hcs := Lib.hid hcs
  have hbl := hB.lt
  go_enter Tryz.func122, Tryz.ntmps122
  go_wp2
  go_loopw [4, 7] (fun vc vi wr => (∃ k : Nat, k ≤ 16 ∧ vi = .int .i64 k ∧ vc = .int .u64 (carry f g k : Nat) ∧ Blk wr b (putW cs off (sumW f g) k) T) ∧ Keep [b] w wr ∧ Blk wr w.heap.size (wv g) 90) (fun _ vi _ => 16 - (intOf vi).toNat)
  case atStart => exact ⟨⟨0, by omega, rfl, rfl, hB.alloc _⟩, (Keep.refl _ _).alloc _, Blk.new _ _ _⟩
  case round =>
    obtain ⟨⟨k, hk, rfl, rfl, hblk⟩, hkeep, hx⟩ := hrel
    by_cases hlt : k < 16
    · have hc1 : wr.cell? ⟨b, off + k, none⟩ = some (.int .u64 (f k : Nat)) := hblk.cell _ (by rw [putW_get, if_neg (by omega)]; exact hcs.out k hlt)
      have hc2 : wr.cell? ⟨w.heap.size, k, none⟩ = some (.int .u64 (g k : Nat)) := hx.cell _ (wv_get g k hlt)
      have hfz := hblk.free (off + k)
      have b1 : ((f k : Nat) : Int) ≤ 999999999 := by have := hf.out k; omega
      have b2 : ((g k : Nat) : Int) ≤ 999999999 := by have := hg.out k; omega
      have b3 : ((carry f g k : Nat) : Int) ≤ 1 := by have := carry_le f g hf.out hg.out k; omega
      have hs : sumW f g k = (f k + g k + carry f g k) % 1000000000 := rfl
      have hc : carry f g (k + 1) = (f k + g k + carry f g k) / 1000000000 := rfl
      replace hs := Lib.hid hs
      replace hc := Lib.hid hc
      replace hblk := Lib.hid hblk
      replace hx := Lib.hid hx
      replace hkeep := Lib.hid hkeep
      generalize f k = x at *
      generalize g k = y at *
      generalize carry f g k = c at *
      go_wp2
      go_quiet (fail)
      go_wp2
      go_roundw
      case rel =>
        refine ⟨⟨k + 1, by omega, by go_num, by rw [hc.out]; rfl, ?_⟩, (hkeep.out.drewN _).setCell (by simp) _, ((hx.out.drewN _).set_other _ (by simp; omega) _)⟩
        rw [putW_succ, hs.out]
        exact (hblk.out.drewN _).set _ _
      case measure => simp [intOf]; omega
    · obtain rfl : k = 16 := by omega
      go_wp2
      go_end0
      exact ⟨rfl, hkeep, hblk⟩

/-! ### sub -/
def borrow (f g : Nat → Nat) : Nat → Nat
  | 0 => 0
  | k + 1 => 1 - (f k + 1000000000 - g k - borrow f g k) / 1000000000
def subW (f g : Nat → Nat) (k : Nat) : Nat := (f k + 1000000000 - g k - borrow f g k) % 1000000000
theorem borrow_le (f g : Nat → Nat) (k : Nat) : borrow f g k ≤ 1 := by
  cases k with
  | zero => simp [borrow]
  | succ k => simp only [borrow]; omega
set_option maxRecDepth 100000 in
set_option maxHeartbeats 1000000 in
theorem sub_any (b off : Nat) (cs : Array Value) (T : TypeId) (f g : Nat → Nat) (w : World) (hB : Blk w b cs T) (hcs : ∀ i, i < 16 → cs[off + i]? = some (.int .u64 (f i : Nat)))
    (hf : ∀ i, f i < 1000000000) (hg : ∀ i, g i < 1000000000) :
    Calls Tryz.prog 124 #[.pointer (some ⟨b, off, none⟩), .agg (wv g)] w fun e w' => e = .returned (.tuple #[]) ∧ Keep [b] w w' ∧ Blk w' b (putW cs off (subW f g) 16) T := by
  replace hf := Lib.hid hf
  replace hg := Lib.hid hg
  replace hcs := Lib.hid hcs
  have hbl := hB.lt
  go_enter Tryz.func124, Tryz.ntmps124
  go_wp2
  go_loopw [4, 7] (fun vc vi wr => (∃ k : Nat, k ≤ 16 ∧ vi = .int .i64 k ∧ vc = .int .u64 (borrow f g k : Nat) ∧ Blk wr b (putW cs off (subW f g) k) T) ∧ Keep [b] w wr ∧ Blk wr w.heap.size (wv g) 90) (fun _ vi _ => 16 - (intOf vi).toNat)
  case atStart => exact ⟨⟨0, by omega, rfl, rfl, hB.alloc _⟩, (Keep.refl _ _).alloc _, Blk.new _ _ _⟩
  case round =>
    obtain ⟨⟨k, hk, rfl, rfl, hblk⟩, hkeep, hx⟩ := hrel
    by_cases hlt : k < 16
    · have hc1 : wr.cell? ⟨b, off + k, none⟩ = some (.int .u64 (f k : Nat)) := hblk.cell _ (by rw [putW_get, if_neg (by omega)]; exact hcs.out k hlt)
      have hc2 : wr.cell? ⟨w.heap.size, k, none⟩ = some (.int .u64 (g k : Nat)) := hx.cell _ (wv_get g k hlt)
      have hfz := hblk.free (off + k)
      have b1 : ((f k : Nat) : Int) ≤ 999999999 := by have := hf.out k; omega
      have b2 : ((g k : Nat) : Int) ≤ 999999999 := by have := hg.out k; omega
      have b3 : ((borrow f g k : Nat) : Int) ≤ 1 := by have := borrow_le f g k; omega
      have hs : ((subW f g k : Nat) : Int) = ((f k : Nat) + 1000000000 - (g k : Nat) - (borrow f g k : Nat) : Int) % 1000000000 := by unfold subW; omega
      have hc : ((borrow f g (k + 1) : Nat) : Int) = 1 - ((f k : Nat) + 1000000000 - (g k : Nat) - (borrow f g k : Nat) : Int) / 1000000000 := by simp only [borrow]; omega
      replace hs := Lib.hid hs
      replace hc := Lib.hid hc
      replace hblk := Lib.hid hblk
      replace hx := Lib.hid hx
      replace hkeep := Lib.hid hkeep
      generalize f k = x at *
      generalize g k = y at *
      generalize borrow f g k = c at *
      go_wp2
      go_quiet (fail)
      go_wp2
      go_roundw
      case rel =>
        refine ⟨⟨k + 1, by omega, by go_num, by rw [hc.out], ?_⟩, (hkeep.out.drewN _).setCell (by simp) _, ((hx.out.drewN _).set_other _ (by simp; omega) _)⟩
        rw [putW_succ, hs.out]
        exact (hblk.out.drewN _).set _ _
      case measure => simp [intOf]; omega
    · obtain rfl : k = 16 := by omega
      go_wp2
      go_end0
      exact ⟨rfl, hkeep, hblk⟩

/-! ### compare -/
/-- The sign of f against g, by the words below k, the highest first. -/
def cmpW (f g : Nat → Nat) : Nat → Int
  | 0 => 0
  | k + 1 => if f k < g k then -1 else if g k < f k then 1 else cmpW f g k
set_option maxRecDepth 100000 in
set_option maxHeartbeats 1000000 in
theorem compare_any (f g : Nat → Nat) (w : World) :
    Calls Tryz.prog 123 #[.agg (wv f), .agg (wv g)] w fun e w' => e = .returned (.int .i64 (cmpW f g 16)) ∧ Below w.heap.size w w' := by
  go_enter Tryz.func123, Tryz.ntmps123
  go_wp2
  go_loopw [5] (fun vi wr => (∃ k : Nat, k ≤ 16 ∧ vi = .int .i64 ((k : Int) - 1) ∧ Hid (cmpW f g k = cmpW f g 16)) ∧ Keep [] w wr ∧ Blk wr w.heap.size (wv f) 90 ∧ Blk wr (w.heap.size + 1) (wv g) 90) (fun vi _ => ((intOf vi) + 1).toNat)
  case atStart => exact ⟨⟨16, by omega, rfl, rfl⟩, ((Keep.refl _ _).alloc _).alloc _, (Blk.new _ _ _).alloc _, by have := Blk.new (w.alloc (.cells (wv f) 90)) (wv g) 90; rwa [World.size_alloc] at this⟩
  case round =>
    obtain ⟨⟨k1, hk, rfl, hcmp⟩, hkeep, hx, hy⟩ := hrel
    by_cases h0 : k1 = 0
    · subst h0
      go_wp2
      go_ret
      exact ⟨ret_int hcmp.out, hkeep.below⟩
    · obtain ⟨k, rfl⟩ : ∃ k, k1 = k + 1 := ⟨k1 - 1, by omega⟩
      have hc1 : wr.cell? ⟨w.heap.size, k, none⟩ = some (.int .u64 (f k : Nat)) := hx.cell _ (wv_get f k (by omega))
      have hc2 : wr.cell? ⟨w.heap.size + 1, k, none⟩ = some (.int .u64 (g k : Nat)) := hy.cell _ (wv_get g k (by omega))
      have hcm := hcmp.out
      rw [cmpW] at hcm
      rw [show (((k + 1 : Nat) : Int) - 1) = (k : Int) by omega]
      replace hx := Lib.hid hx
      replace hy := Lib.hid hy
      replace hkeep := Lib.hid hkeep
      clear hcmp
      by_cases l1 : f k < g k
      · rw [if_pos l1] at hcm
        replace hcm := Lib.hid hcm
        have t1 : decide (f k < g k) = true := by simpa using l1
        clear l1
        generalize f k = x at *
        generalize g k = y at *
        go_wp2
        go_quiet (fail)
        go_wp2
        go_ret
        exact ⟨ret_int hcm.out, Below_drewN _ hkeep.out.below⟩
      · rw [if_neg l1] at hcm
        have t1 : decide (f k < g k) = false := by simpa using l1
        by_cases l2 : g k < f k
        · rw [if_pos l2] at hcm
          replace hcm := Lib.hid hcm
          have t2 : decide (g k < f k) = true := by simpa using l2
          clear l1 l2
          generalize f k = x at *
          generalize g k = y at *
          go_wp2
          go_quiet (fail)
          go_wp2
          go_quiet (fail)
          go_wp2
          go_ret
          exact ⟨ret_int hcm.out, Below_drewN _ (Below_drewN _ hkeep.out.below)⟩
        · rw [if_neg l2] at hcm
          have t2 : decide (g k < f k) = false := by simpa using l2
          replace hcm := Lib.hid hcm
          clear l1 l2
          generalize f k = x at *
          generalize g k = y at *
          go_wp2
          go_quiet (fail)
          go_wp2
          go_quiet (fail)
          go_wp2
          go_roundw
          case rel => exact ⟨⟨k, by omega, rfl, hcm.out⟩, hkeep.out.drewN _, hx.out.drewN _, hy.out.drewN _⟩
          case measure => simp [intOf]
end Go.Proofs.YthecgifgjagmaaaGreatDoor.dec
