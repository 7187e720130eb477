/- Texts DecBuilder, DecWords, DecTimes, DecVal, DecDigits, DecWordsOf, one behind the other. -/
import Derived.Test.YtjncjcellpbhcaaGreatDoorDecA
import Derived.Test.YtjncjcellpbhcaaGreatDoorKit
import Derived.Test.YtjncjcellpbhcaaGreatDoorDecNum
/- Contracts of the library's Builder.WriteString and of FormatUint at base 10. -/
namespace Go.Proofs.YtjncjcellpbhcaaGreatDoor.dec
open Go.ChangeShapes Go.WideShapes Go.ChangeAt Go.RowKit kit
set_option linter.unusedVariables false

theorem infoB : (Tryz.prog.info? 109).map (·.size) = some 2 := by kernel_rfl
theorem infoByte : (Tryz.prog.info? 5).map (fun i => (i.zero, i.size, i.bytes)) = some (some (.int .u8 0), 1, 1) := by kernel_rfl

set_option maxHeartbeats 1000000 in
set_option maxRecDepth 100000 in
theorem copyCheck_used (b : Nat) (w : World) (h0 : w.cell? ⟨b, 0, none⟩ = some (.pointer (some ⟨b, 0, none⟩))) :
    Calls Tryz.prog 116 #[.pointer (some ⟨b, 0, none⟩)] w fun e w' => e = .returned (.tuple #[]) ∧ w' = w := by
  obtain ⟨j, hj, _⟩ := Option.map_eq_some_iff.1 infoB
  go_enter Tryz.func116, Tryz.ntmps116
  go_wp2
  rw [Lib.run_neq_ptr_same w _ Tryz.underlying107 hj]
  go_wp2
  go_end0
  exact ⟨rfl, rfl⟩
set_option maxHeartbeats 1000000 in
set_option maxRecDepth 100000 in
theorem copyCheck_fresh (b : Nat) (w : World) (h0 : w.cell? ⟨b, 0, none⟩ = some (.pointer none)) (hsh : w.shape? b = some (109, 2)) (hfz : w.frozen? ⟨b, 0, none⟩ = false) :
    Calls Tryz.prog 116 #[.pointer (some ⟨b, 0, none⟩)] w fun e w' => e = .returned (.tuple #[]) ∧ w' = w.setCell ⟨b, 0, none⟩ (.pointer (some ⟨b, 0, none⟩)) := by
  obtain ⟨j, hj, hjs⟩ := Option.map_eq_some_iff.1 infoB
  go_enter Tryz.func116, Tryz.ntmps116
  go_wp2
  rw [Lib.run_to_unsafe w ⟨b, 0, none⟩ Tryz.underlying107 Tryz.underlying167 hj (by rw [hjs]; decide) hsh (Nat.zero_lt_succ 1)]
  simp only [Result.andThen]
  rw [Oper.upon_value]
  go_wp2
  rw [run_callFunc_extern Tryz.func137 (by kernel_rfl) (by kernel_rfl) (by kernel_rfl) (e := Extern.AbiNoEscape.same) (by kernel_rfl)]
  rw [Lib.run_noEscape]
  simp only [Result.andThen]
  rw [Oper.upon_value]
  go_wp2
  rw [Lib.run_from_unsafe w ⟨b, 0, none⟩ Tryz.underlying167 Tryz.underlying107 hj hsh (by kernel_rfl)]
  simp only [Result.andThen]
  rw [Oper.upon_value]
  go_wp2
  go_end0
  exact ⟨rfl, rfl⟩
theorem copyCheck_any (B b : Nat) (bs : List Value) (w : World) (h : Lib.IsBuilder 109 5 B b bs w) :
    Calls Tryz.prog 116 #[.pointer (some ⟨b, 0, none⟩)] w fun e w' => e = .returned (.tuple #[]) ∧ (Lib.BuilderAt 109 5 B b (.pointer (some ⟨b, 0, none⟩)) bs w' ∧ Below B w w') := by
  rcases h with h | h
  · refine (copyCheck_fresh b w h.cell0 h.shape h.frozen0).mono ?_
    rintro e w' ⟨rfl, rfl⟩
    exact ⟨rfl, h.used _, (Below.refl B w).setCell (p := ⟨b, 0, none⟩) h.1 _⟩
  · refine (copyCheck_used b w h.cell0).mono ?_
    rintro e w' ⟨rfl, rfl⟩
    exact ⟨rfl, h, Below.refl B _⟩
set_option maxHeartbeats 2000000 in
set_option maxRecDepth 100000 in
theorem writeString_any (B b : Nat) (bs : List Value) (s : ByteArray) (w : World) (h : Lib.IsBuilder 109 5 B b bs w) (hlen : bs.length + s.size ≤ 140737488355328) (hBw : B ≤ w.heap.size) :
    Calls Tryz.prog 89 #[.pointer (some ⟨b, 0, none⟩), .string s] w fun e w' => e = .returned (.tuple #[.int .i64 s.size, .nilIface]) ∧ (Lib.BuilderAt 109 5 B b (.pointer (some ⟨b, 0, none⟩)) (bs ++ Lib.strCells s) w' ∧ Below B w w') := by
  obtain ⟨i0, hi, hz0, hz1, hz2⟩ := info_parts infoByte
  go_enter Tryz.func89, Tryz.ntmps89
  go_wp2_with (go_at_call 116; refine (copyCheck_any B b bs _ h).mono ?_)
  rintro e w1 ⟨rfl, h1, hb1⟩
  obtain ⟨hB, v, hbk, hown, hne⟩ := h1
  have c0 : w1.cell? ⟨b, 0, none⟩ = some (.pointer (some ⟨b, 0, none⟩)) := by rw [Lib.cell_of_heap hbk]; rfl
  have c1 : w1.cell? ⟨b, 1, none⟩ = some v := by rw [Lib.cell_of_heap hbk]; rfl
  go_wp2_with (at_builtin; refine Lib.wpList_append_own_string _ rfl _ _ 23 9 rfl B 5 i0 Tryz.underlying23 Tryz.underlying9 hi hz0 hz1 hz2 _ _ _ rfl hown s rfl ?c3 ?c4 ?c5 ?_)
  case c3 => unfold maxLen; omega
  case c4 => omega
  case c5 => have := hb1.size; omega
  intro v' w2 hown' hgrow _
  have hlt : b < w1.heap.size := by
    rcases Nat.lt_or_ge b w1.heap.size with h' | h'
    · exact h'
    · simp [Array.getElem?_eq_none h'] at hbk
  have hb2 : w2.heap[b]? = some (.cells #[.pointer (some ⟨b, 0, none⟩), v] 109 (0, 0)) := by
    rw [hgrow.block b hlt (fun e => hne e.symm)]
    exact hbk
  have d0 : w2.cell? ⟨b, 0, none⟩ = some (.pointer (some ⟨b, 0, none⟩)) := by rw [Lib.cell_of_heap hb2]; rfl
  have d1 : w2.cell? ⟨b, 1, none⟩ = some v := by rw [Lib.cell_of_heap hb2]; rfl
  have f1 : w2.frozen? ⟨b, 1, none⟩ = false := Lib.frozen_of_heap hb2 1
  obtain ⟨ao, n', cap, rfl⟩ : ∃ ao n' cap, v' = .slice ao n' cap := by
    rcases hown'.2 with ⟨hv, _⟩ | ⟨g, cap, cur, hv, _⟩
    · exact ⟨_, _, _, hv⟩
    · exact ⟨_, _, _, hv⟩
  go_wp2
  go_ret2
  refine ⟨rfl, ?_, ?_⟩
  · exact Lib.BuilderAt.put (T := 109) (e := 5) hB hb2 (bs' := bs ++ Lib.strCells s) (by simpa [Lib.strCells_length] using hown') (by decide)
  · exact (hb1.grown hgrow (by have := hb1.size; omega) (fun k hk => (hown.lt k hk).1)).setCell (p := ⟨b, 1, none⟩) hB _

/-! ### FormatUint at base 10 -/
open Go.Sort in
theorem holds_zero0 (w : World) (T : TypeId) (nd : Nat) (hs : nd ≤ 24) : Holds (fun (b : UInt8) => Value.int .u8 (b.toNat : Int)) (w.alloc (.cells Lib.zeros24 T)) w.heap.size 0 (Array.replicate nd (0 : UInt8)) := fun j hj => by
  have hj' : j < nd := by simpa using hj
  refine ⟨?_, World.frozen?_alloc_new _ _ _ _⟩
  rw [World.cell?_alloc_new, Lib.zeros24_at _ (by omega), getElem!_pos _ j hj]
  simp
open Go.Sort in
theorem below_grow0 (w : World) (k : Nat) (os : Array Obj) : Below w.heap.size w (grow (w.drewN k) os) :=
  ⟨rfl, rfl, rfl, by show w.heap.size ≤ (w.heap ++ os).size; simp, fun i hi => by show (w.heap ++ os)[i]? = _; rw [Array.getElem?_append_left hi]⟩
open Go.Sort in
theorem below_putRow0 (w : World) (o : Obj) (dk : Array UInt8) (k : Nat) : Below w.heap.size w ((putRow (fun (b : UInt8) => Value.int .u8 (b.toNat : Int)) (w.alloc o) w.heap.size 0 dk).drewN k) := by
  have h : ∃ os, (putRow (fun (b : UInt8) => Value.int .u8 (b.toNat : Int)) (w.alloc o) w.heap.size 0 dk).drewN k = grow (w.drewN k) os := by
    rw [alloc_eq_grow]
    obtain ⟨os', _, e⟩ := putRow_grow_new (fun (b : UInt8) => Value.int .u8 (b.toNat : Int)) w #[o] w.heap.size 0 dk (Nat.le_refl _)
    exact ⟨os', by rw [e]; rfl⟩
  obtain ⟨os, e⟩ := h
  rw [e]; exact below_grow0 _ _ _
open Go.Sort Go.Lib in
set_option maxHeartbeats 1000000 in
set_option maxRecDepth 100000 in
theorem iFormatUint_any (u : Nat) (hu64 : u < 18446744073709551616) (w : World) (htab : Lib.TabIs Tryz.prog w "internal/strconv.uint64pow10" .u64 Lib.pow10Tab) :
    Calls Tryz.prog 147 #[.int .u64 u, .int .i64 10] w fun e w' => e = .returned (.string ⟨(Lib.decDigits u).toArray⟩) ∧ Below w.heap.size w w' := by
  by_cases hs : u < 100
  · go_enter Tryz.func147, Tryz.ntmps147
    go_wp2_with (go_at_call 112; refine (Tryz.internal_strconv_small u hs _).mono ?_; rintro e w' ⟨rfl, rfl⟩)
    go_ret
    exact ⟨rfl, Below.refl _ _⟩
  · have hu1 : 1 ≤ u := by omega
    have hnd20 : Lib.nDigits u ≤ 20 := by have := Lib.numDigits_eq u hu1 hu64; split at this <;> omega
    have hb3 : Lib.nDigits u ≤ 24 := by omega
    have hal : Tryz.prog.arrayLen 142 = 24 := by simp [Program.arrayLen, Tryz.underlying142]
    have hsl1 : ∀ W, (Instr.sliceAt 142 (.pointer (some ⟨w.heap.size, 0, none⟩)) none (some (.int .i64 ((Lib.nDigits u : Int)))) none).run Tryz.prog W = .ok (.slice (some ⟨w.heap.size, 0, none⟩) (Lib.nDigits u) 24) W := fun W => by
      rw [run_sliceAt_array_h W 142 ⟨w.heap.size, 0, none⟩ (by simp [Program.arrayLen, Program.elem, Tryz.underlying142]) .i64 ((Lib.nDigits u : Int)) (by omega) (by rw [hal]; omega)]
      go_simp
    have hH0 := holds_zero0 w 142 (Lib.nDigits u) (by omega)
    have hfmt := Tryz.internal_strconv_formatBase10 w.heap.size 0 24 u (Array.replicate (Lib.nDigits u) 0) (w.alloc (.cells Lib.zeros24 142)) hH0 (by rw [Array.size_replicate]; exact Lib.lt_pow_nDigits u) hu64 (by rw [Array.size_replicate]; omega)
    rw [Array.size_replicate] at hfmt
    have HH0 := Lib.hid hH0
    clear hH0 hal
    go_enter Tryz.func147, Tryz.ntmps147
    go_wp2_with (go_at_call 113; refine (Tryz.internal_strconv_numDigits u hu1 hu64 _ (Lib.tabIs_alloc htab _)).mono ?_; rintro e w' ⟨rfl, rfl⟩)
    go_at_call 114
    refine hfmt.mono ?_
    rintro e w' ⟨rfl, k, v', dk, rfl, hF⟩
    have hcv : (convert 23 9 (.slice (some ⟨w.heap.size, 0, none⟩) (Lib.nDigits u) 24)).run Tryz.prog ((putRow (fun (b : UInt8) => Value.int .u8 (b.toNat : Int)) (w.alloc (.cells Lib.zeros24 142)) w.heap.size 0 dk).drewN k) = .ok (.string ⟨(Lib.decDigits u).toArray⟩) ((putRow (fun (b : UInt8) => Value.int .u8 (b.toNat : Int)) (w.alloc (.cells Lib.zeros24 142)) w.heap.size 0 dk).drewN k) := by
      have h := run_convert_bytes_back (P := Tryz.prog) ((putRow (fun (b : UInt8) => Value.int .u8 (b.toNat : Int)) (w.alloc (.cells Lib.zeros24 142)) w.heap.size 0 dk).drewN k) 23 9 5 ⟨w.heap.size, 0, none⟩ 24 (Lib.decDigits u) Tryz.underlying23 Tryz.underlying5 Tryz.underlying9 (fun j hj => by
        rw [Lib.row_is_numeral hF j hj, Lib.add_plain, World.cell?_drewN]
        exact cell?_putRow (fun (b : UInt8) => Value.int .u8 (b.toNat : Int)) _ w.heap.size 0 _ dk HH0.out (by rw [hF.size, Array.size_replicate]) j (by rw [hF.size]; rw [Lib.decDigits_length] at hj; exact hj))
      rw [Lib.decDigits_length] at h
      exact h
    go_wp2
    go_ret
    exact ⟨rfl, below_putRow0 _ _ _ _⟩
set_option maxRecDepth 100000 in
theorem formatUint_any (u : Nat) (hu64 : u < 18446744073709551616) (w : World) (htab : Lib.TabIs Tryz.prog w "internal/strconv.uint64pow10" .u64 Lib.pow10Tab) :
    Calls Tryz.prog 124 #[.int .u64 u, .int .i64 10] w fun e w' => e = .returned (.string ⟨(Lib.decDigits u).toArray⟩) ∧ Below w.heap.size w w' := by
  go_enter Tryz.func124, Tryz.ntmps124
  go_wp2_with (go_at_call 147; refine (iFormatUint_any u hu64 _ htab).mono ?_; rintro e w' ⟨rfl, hb⟩)
  go_ret
  exact ⟨rfl, hb⟩
end Go.Proofs.YtjncjcellpbhcaaGreatDoor.dec

/- Contracts of decimal's words: add, sub, compare, times: what they compute, nine digits to a word. -/
namespace Go.Proofs.YtjncjcellpbhcaaGreatDoor.dec
open Go.ChangeShapes Go.WideShapes Go.ChangeAt Go.RowKit kit
set_option linter.unusedVariables false

/-- Sixteen words. -/
def wv (f : Nat → Nat) : Array Value := ((List.range 16).map fun i => Value.int .u64 (f i : Nat)).toArray
theorem wv_size (f : Nat → Nat) : (wv f).size = 16 := by simp [wv]
theorem wv_get (f : Nat → Nat) (i : Nat) (h : i < 16) : (wv f)[i]? = some (.int .u64 (f i : Nat)) := by simp [wv, h]
/-- k words of an array written over, from off on. -/
def putW (cs : Array Value) (off : Nat) (h : Nat → Nat) (k : Nat) : Array Value := (List.range k).foldl (fun a i => a.setIfInBounds (off + i) (.int .u64 (h i : Nat))) cs
theorem putW_succ (cs : Array Value) (off : Nat) (h : Nat → Nat) (k : Nat) : putW cs off h (k + 1) = (putW cs off h k).setIfInBounds (off + k) (.int .u64 (h k : Nat)) := by
  unfold putW; rw [List.range_succ, List.foldl_append]; rfl
theorem putW_size (cs : Array Value) (off : Nat) (h : Nat → Nat) (k : Nat) : (putW cs off h k).size = cs.size := by
  induction k with
  | zero => rfl
  | succ k ih => rw [putW_succ, Array.size_setIfInBounds, ih]
theorem putW_get (cs : Array Value) (off : Nat) (h : Nat → Nat) (k j : Nat) : (putW cs off h k)[j]? = if off ≤ j ∧ j < off + k ∧ j < cs.size then some (.int .u64 (h (j - off) : Nat)) else cs[j]? := by
  induction k with
  | zero => rw [if_neg (by omega)]; rfl
  | succ k ih =>
    rw [putW_succ, Array.getElem?_setIfInBounds, putW_size, ih]
    by_cases h1 : off + k = j
    · subst h1
      by_cases h2 : off + k < cs.size
      · rw [if_pos rfl, if_pos h2, if_pos ⟨by omega, by omega, h2⟩, show off + k - off = k by omega]
      · rw [if_pos rfl, if_neg h2, if_neg (by omega), Array.getElem?_eq_none (by omega)]
    · rw [if_neg h1]
      by_cases h2 : off ≤ j ∧ j < off + k ∧ j < cs.size
      · rw [if_pos h2, if_pos (by omega)]
      · rw [if_neg h2, if_neg (by omega)]
theorem putW_wv (f h : Nat → Nat) : putW (wv f) 0 h 16 = wv h := by
  apply Array.ext_getElem?
  intro j
  rw [putW_get, wv_size]
  by_cases hj : j < 16
  · rw [if_pos (by omega), Nat.sub_zero, wv_get h j hj]
  · rw [if_neg (by omega), Array.getElem?_eq_none (by rw [wv_size]; omega), Array.getElem?_eq_none (by rw [wv_size]; omega)]

def base : Nat := 1000000000
/-- The carry ahead of word k. -/
def carry (f g : Nat → Nat) : Nat → Nat
  | 0 => 0
  | k + 1 => (f k + g k + carry f g k) / 1000000000
def sumW (f g : Nat → Nat) (k : Nat) : Nat := (f k + g k + carry f g k) % 1000000000
theorem carry_le (f g : Nat → Nat) (hf : ∀ i, f i < 1000000000) (hg : ∀ i, g i < 1000000000) (k : Nat) : carry f g k ≤ 1 := by
  induction k with
  | zero => simp [carry]
  | succ k ih => have := hf k; have := hg k; simp only [carry]; omega

set_option maxRecDepth 100000 in
set_option maxHeartbeats 1000000 in
theorem add_any (b off : Nat) (cs : Array Value) (T : TypeId) (f g : Nat → Nat) (w : World) (hB : Blk w b cs T) (hcs : ∀ i, i < 16 → cs[off + i]? = some (.int .u64 (f i : Nat)))
    (hf : ∀ i, f i < 1000000000) (hg : ∀ i, g i < 1000000000) :
    Calls Tryz.prog 119 #[.pointer (some ⟨b, off, none⟩), .agg (wv g)] w fun e w' => e = .returned (.tuple #[]) ∧ Keep [b] w w' ∧ Blk w' b (putW cs off (sumW f g) 16) T := by
  replace hf := Lib.hid hf
  replace hg := Lib.hid hg
  replace hcs := Lib.hid hcs
  have hbl := hB.lt
  go_enter Tryz.func119, Tryz.ntmps119
  go_wp2
  go_loopw [4, 7] (fun vc vi wr => (∃ k : Nat, k ≤ 16 ∧ vi = .int .i64 k ∧ vc = .int .u64 (carry f g k : Nat) ∧ Blk wr b (putW cs off (sumW f g) k) T) ∧ Keep [b] w wr ∧ Blk wr w.heap.size (wv g) 118) (fun _ vi _ => 16 - (intOf vi).toNat)
  case atStart => exact ⟨⟨0, by omega, rfl, rfl, hB.alloc _⟩, (Keep.refl _ _).alloc _, Blk.new _ _ _⟩
  case round =>
    obtain ⟨⟨k, hk, rfl, rfl, hblk⟩, hkeep, hx⟩ := hrel
    by_cases hlt : k < 16
    · have hc1 : wr.cell? ⟨b, off + k, none⟩ = some (.int .u64 (f k : Nat)) := hblk.cell _ (by rw [putW_get, if_neg (by omega)]; exact hcs.out k hlt)
      have hc2 : wr.cell? ⟨w.heap.size, k, none⟩ = some (.int .u64 (g k : Nat)) := hx.cell _ (wv_get g k hlt)
      have hfz := hblk.free (off + k)
      have b1 : ((f k : Nat) : Int) ≤ 999999999 := by have := hf.out k; omega
      have b2 : ((g k : Nat) : Int) ≤ 999999999 := by have := hg.out k; omega
      have b3 : ((carry f g k : Nat) : Int) ≤ 1 := by have := carry_le f g hf.out hg.out k; omega
      have hs : sumW f g k = (f k + g k + carry f g k) % 1000000000 := rfl
      have hc : carry f g (k + 1) = (f k + g k + carry f g k) / 1000000000 := rfl
      replace hs := Lib.hid hs
      replace hc := Lib.hid hc
      replace hblk := Lib.hid hblk
      replace hx := Lib.hid hx
      replace hkeep := Lib.hid hkeep
      generalize f k = x at *
      generalize g k = y at *
      generalize carry f g k = c at *
      go_wp2
      go_quiet (fail)
      go_wp2
      go_roundw
      case rel =>
        refine ⟨⟨k + 1, by omega, by go_num, by rw [hc.out]; rfl, ?_⟩, (hkeep.out.drewN _).setCell (by simp) _, ((hx.out.drewN _).set_other _ (by simp; omega) _)⟩
        rw [putW_succ, hs.out]
        exact (hblk.out.drewN _).set _ _
      case measure => simp [intOf]; omega
    · obtain rfl : k = 16 := by omega
      go_wp2
      go_end0
      exact ⟨rfl, hkeep, hblk⟩

/-! ### sub -/
def borrow (f g : Nat → Nat) : Nat → Nat
  | 0 => 0
  | k + 1 => 1 - (f k + 1000000000 - g k - borrow f g k) / 1000000000
def subW (f g : Nat → Nat) (k : Nat) : Nat := (f k + 1000000000 - g k - borrow f g k) % 1000000000
theorem borrow_le (f g : Nat → Nat) (k : Nat) : borrow f g k ≤ 1 := by
  cases k with
  | zero => simp [borrow]
  | succ k => simp only [borrow]; omega
set_option maxRecDepth 100000 in
set_option maxHeartbeats 1000000 in
theorem sub_any (b off : Nat) (cs : Array Value) (T : TypeId) (f g : Nat → Nat) (w : World) (hB : Blk w b cs T) (hcs : ∀ i, i < 16 → cs[off + i]? = some (.int .u64 (f i : Nat)))
    (hf : ∀ i, f i < 1000000000) (hg : ∀ i, g i < 1000000000) :
    Calls Tryz.prog 121 #[.pointer (some ⟨b, off, none⟩), .agg (wv g)] w fun e w' => e = .returned (.tuple #[]) ∧ Keep [b] w w' ∧ Blk w' b (putW cs off (subW f g) 16) T := by
  replace hf := Lib.hid hf
  replace hg := Lib.hid hg
  replace hcs := Lib.hid hcs
  have hbl := hB.lt
  go_enter Tryz.func121, Tryz.ntmps121
  go_wp2
  go_loopw [4, 7] (fun vc vi wr => (∃ k : Nat, k ≤ 16 ∧ vi = .int .i64 k ∧ vc = .int .u64 (borrow f g k : Nat) ∧ Blk wr b (putW cs off (subW f g) k) T) ∧ Keep [b] w wr ∧ Blk wr w.heap.size (wv g) 118) (fun _ vi _ => 16 - (intOf vi).toNat)
  case atStart => exact ⟨⟨0, by omega, rfl, rfl, hB.alloc _⟩, (Keep.refl _ _).alloc _, Blk.new _ _ _⟩
  case round =>
    obtain ⟨⟨k, hk, rfl, rfl, hblk⟩, hkeep, hx⟩ := hrel
    by_cases hlt : k < 16
    · have hc1 : wr.cell? ⟨b, off + k, none⟩ = some (.int .u64 (f k : Nat)) := hblk.cell _ (by rw [putW_get, if_neg (by omega)]; exact hcs.out k hlt)
      have hc2 : wr.cell? ⟨w.heap.size, k, none⟩ = some (.int .u64 (g k : Nat)) := hx.cell _ (wv_get g k hlt)
      have hfz := hblk.free (off + k)
      have b1 : ((f k : Nat) : Int) ≤ 999999999 := by have := hf.out k; omega
      have b2 : ((g k : Nat) : Int) ≤ 999999999 := by have := hg.out k; omega
      have b3 : ((borrow f g k : Nat) : Int) ≤ 1 := by have := borrow_le f g k; omega
      have hs : ((subW f g k : Nat) : Int) = ((f k : Nat) + 1000000000 - (g k : Nat) - (borrow f g k : Nat) : Int) % 1000000000 := by unfold subW; omega
      have hc : ((borrow f g (k + 1) : Nat) : Int) = 1 - ((f k : Nat) + 1000000000 - (g k : Nat) - (borrow f g k : Nat) : Int) / 1000000000 := by simp only [borrow]; omega
      replace hs := Lib.hid hs
      replace hc := Lib.hid hc
      replace hblk := Lib.hid hblk
      replace hx := Lib.hid hx
      replace hkeep := Lib.hid hkeep
      generalize f k = x at *
      generalize g k = y at *
      generalize borrow f g k = c at *
      go_wp2
      go_quiet (fail)
      go_wp2
      go_roundw
      case rel =>
        refine ⟨⟨k + 1, by omega, by go_num, by rw [hc.out], ?_⟩, (hkeep.out.drewN _).setCell (by simp) _, ((hx.out.drewN _).set_other _ (by simp; omega) _)⟩
        rw [putW_succ, hs.out]
        exact (hblk.out.drewN _).set _ _
      case measure => simp [intOf]; omega
    · obtain rfl : k = 16 := by omega
      go_wp2
      go_end0
      exact ⟨rfl, hkeep, hblk⟩

/-! ### compare -/
/-- The sign of f against g, by the words below k, the highest first. -/
def cmpW (f g : Nat → Nat) : Nat → Int
  | 0 => 0
  | k + 1 => if f k < g k then -1 else if g k < f k then 1 else cmpW f g k
set_option maxRecDepth 100000 in
set_option maxHeartbeats 1000000 in
theorem compare_any (f g : Nat → Nat) (w : World) :
    Calls Tryz.prog 120 #[.agg (wv f), .agg (wv g)] w fun e w' => e = .returned (.int .i64 (cmpW f g 16)) ∧ Below w.heap.size w w' := by
  go_enter Tryz.func120, Tryz.ntmps120
  go_wp2
  go_loopw [5] (fun vi wr => (∃ k : Nat, k ≤ 16 ∧ vi = .int .i64 ((k : Int) - 1) ∧ Hid (cmpW f g k = cmpW f g 16)) ∧ Keep [] w wr ∧ Blk wr w.heap.size (wv f) 118 ∧ Blk wr (w.heap.size + 1) (wv g) 118) (fun vi _ => ((intOf vi) + 1).toNat)
  case atStart => exact ⟨⟨16, by omega, rfl, rfl⟩, ((Keep.refl _ _).alloc _).alloc _, (Blk.new _ _ _).alloc _, by have := Blk.new (w.alloc (.cells (wv f) 118)) (wv g) 118; rwa [World.size_alloc] at this⟩
  case round =>
    obtain ⟨⟨k1, hk, rfl, hcmp⟩, hkeep, hx, hy⟩ := hrel
    by_cases h0 : k1 = 0
    · subst h0
      go_wp2
      go_ret
      exact ⟨ret_int hcmp.out, hkeep.below⟩
    · obtain ⟨k, rfl⟩ : ∃ k, k1 = k + 1 := ⟨k1 - 1, by omega⟩
      have hc1 : wr.cell? ⟨w.heap.size, k, none⟩ = some (.int .u64 (f k : Nat)) := hx.cell _ (wv_get f k (by omega))
      have hc2 : wr.cell? ⟨w.heap.size + 1, k, none⟩ = some (.int .u64 (g k : Nat)) := hy.cell _ (wv_get g k (by omega))
      have hcm := hcmp.out
      rw [cmpW] at hcm
      rw [show (((k + 1 : Nat) : Int) - 1) = (k : Int) by omega]
      replace hx := Lib.hid hx
      replace hy := Lib.hid hy
      replace hkeep := Lib.hid hkeep
      clear hcmp
      by_cases l1 : f k < g k
      · rw [if_pos l1] at hcm
        replace hcm := Lib.hid hcm
        have t1 : decide (f k < g k) = true := by simpa using l1
        clear l1
        generalize f k = x at *
        generalize g k = y at *
        go_wp2
        go_quiet (fail)
        go_wp2
        go_ret
        exact ⟨ret_int hcm.out, Below_drewN _ hkeep.out.below⟩
      · rw [if_neg l1] at hcm
        have t1 : decide (f k < g k) = false := by simpa using l1
        by_cases l2 : g k < f k
        · rw [if_pos l2] at hcm
          replace hcm := Lib.hid hcm
          have t2 : decide (g k < f k) = true := by simpa using l2
          clear l1 l2
          generalize f k = x at *
          generalize g k = y at *
          go_wp2
          go_quiet (fail)
          go_wp2
          go_quiet (fail)
          go_wp2
          go_ret
          exact ⟨ret_int hcm.out, Below_drewN _ (Below_drewN _ hkeep.out.below)⟩
        · rw [if_neg l2] at hcm
          have t2 : decide (g k < f k) = false := by simpa using l2
          replace hcm := Lib.hid hcm
          clear l1 l2
          generalize f k = x at *
          generalize g k = y at *
          go_wp2
          go_quiet (fail)
          go_wp2
          go_quiet (fail)
          go_wp2
          go_roundw
          case rel => exact ⟨⟨k, by omega, rfl, hcm.out⟩, hkeep.out.drewN _, hx.out.drewN _, hy.out.drewN _⟩
          case measure => simp [intOf]
end Go.Proofs.YtjncjcellpbhcaaGreatDoor.dec

/- Contract of decimal's words: times. -/
namespace Go.Proofs.YtjncjcellpbhcaaGreatDoor.dec
open Go.ChangeShapes Go.WideShapes Go.ChangeAt Go.RowKit kit
set_option linter.unusedVariables false
def upd (o : Nat → Nat) (j x : Nat) : Nat → Nat := fun i => if i = j then x else o i
theorem wv_upd (o : Nat → Nat) (j x : Nat) (h : j < 16) : (wv o).setIfInBounds j (.int .u64 (x : Nat)) = wv (upd o j x) := by
  apply Array.ext_getElem?
  intro i
  rw [Array.getElem?_setIfInBounds, wv_size]
  by_cases hi : i < 16
  · rw [wv_get o i hi, wv_get _ i hi]
    unfold upd
    by_cases hj : j = i
    · subst hj; rw [if_pos rfl, if_pos h, if_pos rfl]
    · rw [if_neg hj, if_neg (fun e => hj e.symm)]
  · rw [if_neg (by omega), Array.getElem?_eq_none (by rw [wv_size]; omega), Array.getElem?_eq_none (by rw [wv_size]; omega)]
theorem wv_one (o : Nat → Nat) : (wv o).all (·.oneCell') = true := by
  simp only [wv, List.all_toArray, List.all_map, List.all_eq_true]; intro i _; rfl
theorem wv_zero : wv (fun _ => 0) = #[.int .u64 0, .int .u64 0, .int .u64 0, .int .u64 0, .int .u64 0, .int .u64 0, .int .u64 0, .int .u64 0, .int .u64 0, .int .u64 0, .int .u64 0, .int .u64 0, .int .u64 0, .int .u64 0, .int .u64 0, .int .u64 0] := rfl

/-- The product's words, place i of f done up to k, and the carry. -/
def inn (f g : Nat → Nat) (i : Nat) (o : Nat → Nat) : Nat → (Nat → Nat) × Nat
  | 0 => (o, 0)
  | k + 1 => (upd (inn f g i o k).1 (i + k) (((inn f g i o k).1 (i + k) + f i * g k + (inn f g i o k).2) % 1000000000), ((inn f g i o k).1 (i + k) + f i * g k + (inn f g i o k).2) / 1000000000)
def outT (f g : Nat → Nat) : Nat → Nat → Nat
  | 0 => fun _ => 0
  | i + 1 => (inn f g i (outT f g i) (16 - i)).1
theorem inn_lt (f g : Nat → Nat) (hf : ∀ i, f i < 1000000000) (hg : ∀ i, g i < 1000000000) (i : Nat) (o : Nat → Nat) (ho : ∀ j, o j < 1000000000) (k : Nat) : (∀ j, (inn f g i o k).1 j < 1000000000) ∧ (inn f g i o k).2 < 1000000000 := by
  induction k with
  | zero => exact ⟨ho, by simp [inn]⟩
  | succ k ih =>
    obtain ⟨h1, h2⟩ := ih
    have hm : f i * g k ≤ 999999999 * 999999999 := Nat.mul_le_mul (by have := hf i; omega) (by have := hg k; omega)
    have := h1 (i + k)
    refine ⟨fun j => ?_, ?_⟩
    · simp only [inn, upd]; split
      · exact Nat.mod_lt _ (by decide)
      · exact h1 j
    · simp only [inn]; omega
theorem outT_lt (f g : Nat → Nat) (hf : ∀ i, f i < 1000000000) (hg : ∀ i, g i < 1000000000) (i : Nat) : ∀ j, outT f g i j < 1000000000 := by
  induction i with
  | zero => intro j; simp [outT]
  | succ i ih => intro j; exact (inn_lt f g hf hg i _ ih _).1 j

theorem Tryz.infoW : (Tryz.prog.info? 118).map (·.size) = some 16 := by kernel_rfl

/-- The world between two rounds: the two factors, the result's place, the product so far. -/
def TW (w : World) (f g o : Nat → Nat) (W : World) : Prop := Keep [] w W ∧ Blk W w.heap.size (wv f) 118 ∧ Blk W (w.heap.size + 1) (wv g) 118 ∧
  Blk W (w.heap.size + 1 + 1) (wv fun _ => 0) 118 ∧ Blk W (w.heap.size + 1 + 1 + 1) (wv o) 118
theorem TW.put {w W : World} {f g o : Nat → Nat} (h : TW w f g o W) (n j x : Nat) (hj : j < 16) : TW w f g (upd o j x) ((W.drewN n).setCell ⟨w.heap.size + 1 + 1 + 1, j, none⟩ (.int .u64 (x : Nat))) := by
  obtain ⟨h0, h1, h2, h3, h4⟩ := h
  refine ⟨(h0.drewN _).setCell (by simp; omega) _, (h1.drewN _).set_other _ (by simp; omega) _, (h2.drewN _).set_other _ (by simp) _, (h3.drewN _).set_other _ (by simp) _, ?_⟩
  rw [← wv_upd _ _ _ hj]; exact (h4.drewN _).set _ _

set_option maxRecDepth 100000 in
set_option maxHeartbeats 2000000 in
theorem times_any (f g : Nat → Nat) (w : World) (hf : ∀ i, f i < 1000000000) (hg : ∀ i, g i < 1000000000) :
    Calls Tryz.prog 96 #[.agg (wv f), .agg (wv g)] w fun e w' => e = .returned (.agg (wv (outT f g 16))) ∧ Below w.heap.size w w' := by
  replace hf := Lib.hid hf
  replace hg := Lib.hid hg
  go_enter Tryz.func96, Tryz.ntmps96
  go_wp2
  have hz := wv_zero
  rw [← hz]; clear hz
  obtain ⟨W, hW⟩ : ∃ W, (((w.alloc (.cells (wv f) 118)).alloc (.cells (wv g) 118)).alloc (.cells (wv fun _ => 0) 118)).alloc (.cells (wv fun _ => 0) 118) = W := ⟨_, rfl⟩
  have k0 : Keep [] w W := by rw [← hW]; exact ((((Keep.refl _ _).alloc _).alloc _).alloc _).alloc _
  have b0 : Blk W w.heap.size (wv f) 118 := by rw [← hW]; exact (((Blk.new _ _ _).alloc _).alloc _).alloc _
  have b1 : Blk W (w.heap.size + 1) (wv g) 118 := by
    rw [← hW]; have := ((Blk.new (w.alloc (.cells (wv f) 118)) (wv g) 118).alloc (.cells (wv fun _ => 0) 118)).alloc (.cells (wv fun _ => 0) 118)
    rwa [World.size_alloc] at this
  have b2 : Blk W (w.heap.size + 1 + 1) (wv fun _ => 0) 118 := by
    rw [← hW]; have := (Blk.new ((w.alloc (.cells (wv f) 118)).alloc (.cells (wv g) 118)) (wv fun _ => 0) 118).alloc (.cells (wv fun _ => 0) 118)
    rwa [World.size_alloc, World.size_alloc] at this
  have b3 : Blk W (w.heap.size + 1 + 1 + 1) (wv fun _ => 0) 118 := by
    rw [← hW]; have := Blk.new (((w.alloc (.cells (wv f) 118)).alloc (.cells (wv g) 118)).alloc (.cells (wv fun _ => 0) 118)) (wv fun _ => 0) 118
    rwa [World.size_alloc, World.size_alloc, World.size_alloc] at this
  rw [hW]
  have tw : TW w f g (fun _ => 0) W := ⟨k0, b0, b1, b2, b3⟩
  clear hW k0 b0 b1 b2 b3
  go_loopw [10] (fun vi wr => ∃ i : Nat, i ≤ 16 ∧ vi = .int .i64 i ∧ TW w f g (outT f g i) wr) (fun vi _ => 16 - (intOf vi).toNat)
  case atStart => exact ⟨0, by omega, rfl, tw⟩
  case round =>
    clear tw
    obtain ⟨i, hi, rfl, tw⟩ := hrel
    by_cases hlt : i < 16
    · have hfi : ((f i : Nat) : Int) ≤ 999999999 := by have := hf.out i; omega
      go_wp2
      go_loopw [7, 8] (fun vc vk wr => ∃ k : Nat, i + k ≤ 16 ∧ vk = .int .i64 k ∧ vc = .int .u64 ((inn f g i (outT f g i) k).2 : Nat) ∧ TW w f g (inn f g i (outT f g i) k).1 wr) (fun _ vk _ => 16 - (intOf vk).toNat)
      case atStart => exact ⟨0, by omega, rfl, rfl, tw⟩
      case round =>
        obtain ⟨k, hk, rfl, rfl, tk⟩ := hrel
        by_cases hlk : i + k < 16
        · have hc1 : wr.cell? ⟨w.heap.size + 1 + 1 + 1, i + k, none⟩ = some (.int .u64 ((inn f g i (outT f g i) k).1 (i + k) : Nat)) := tk.2.2.2.2.cell _ (wv_get _ _ hlk)
          have hc2 : wr.cell? ⟨w.heap.size, i, none⟩ = some (.int .u64 (f i : Nat)) := tk.2.1.cell _ (wv_get _ _ hlt)
          have hc3 : wr.cell? ⟨w.heap.size + 1, k, none⟩ = some (.int .u64 (g k : Nat)) := tk.2.2.1.cell _ (wv_get _ _ (by omega))
          have hfz := tk.2.2.2.2.free (i + k)
          have hin := inn_lt f g hf.out hg.out i _ (outT_lt f g hf.out hg.out i) k
          have hstep : inn f g i (outT f g i) (k + 1) = (upd (inn f g i (outT f g i) k).1 (i + k) (((inn f g i (outT f g i) k).1 (i + k) + f i * g k + (inn f g i (outT f g i) k).2) % 1000000000), ((inn f g i (outT f g i) k).1 (i + k) + f i * g k + (inn f g i (outT f g i) k).2) / 1000000000) := rfl
          have hbx := hin.1 (i + k)
          have hbc := hin.2
          have hbg := hg.out k
          have hm : f i * g k ≤ 999999999 * 999999999 := Nat.mul_le_mul (by omega) (by omega)
          have hmi : ((f i : Nat) : Int) * ((g k : Nat) : Int) ≤ 999999998000000001 := by
            have := Int.ofNat_le.2 hm; simpa using this
          have hm0 : 0 ≤ ((f i : Nat) : Int) * ((g k : Nat) : Int) := Int.mul_nonneg (by omega) (by omega)
          replace tk := Lib.hid tk
          replace tw := Lib.hid tw
          replace hstep := Lib.hid hstep
          clear hin hm
          generalize (inn f g i (outT f g i) k).1 (i + k) = x at *
          generalize (inn f g i (outT f g i) k).2 = c at *
          generalize f i = a at *
          generalize g k = y at *
          go_wp2
          go_quiet (fail)
          go_wp2
          go_roundw
          case rel =>
            refine ⟨k + 1, by omega, by go_num, by rw [hstep.out]; simp, ?_⟩
            rw [hstep.out]
            have := tk.out.put nq (i + k) ((x + a * y + c) % 1000000000) hlk
            simpa using this
          case measure => simp [intOf]; omega
        · obtain rfl : k = 16 - i := by omega
          have tk' : TW w f g (outT f g (i + 1)) wr := tk
          clear tk tw
          have hnl : ¬ ((i : Int) + ((16 - i : Nat) : Int) < 16) := by omega
          go_wp2
          go_roundw
          case rel => exact ⟨i + 1, by omega, by go_num, tk'⟩
          case measure => simp [intOf]; omega
    · obtain rfl : i = 16 := by omega
      obtain ⟨h0, h1, h2, h3, h4⟩ := tw
      replace h3 := Lib.hid h3
      replace h4 := Lib.hid h4
      replace h0 := Lib.hid h0
      clear h1 h2
      go_wp2_with (first
        | (with_reducible refine wpList_load_row rfl 118 _ rfl (w.heap.size + 1 + 1 + 1) rfl 118 _ (0, 0) _ h4.out.eq Tryz.underlying118 rfl (by rw [wv_size]; exact Tryz.infoW) ?_)
        | (with_reducible refine wpList_store_row rfl 118 _ _ rfl (w.heap.size + 1 + 1) _ rfl rfl 118 _ h3.out.eq (by rw [wv_size]; exact Tryz.infoW) (by rw [wv_size, wv_size]) (wv_one _) ?_))
      exact bodyPost_ret (v := .agg (wv (outT f g 16))) (results_cell_row rfl _ _ (w.heap.size + 1 + 1) 118 _ (0, 0) _ rfl h3.out.setRow.eq Tryz.underlying118 rfl (by rw [wv_size]; exact Tryz.infoW)) rfl
        ⟨rfl, (h0.out.setRow (by omega) _).below⟩
end Go.Proofs.YtjncjcellpbhcaaGreatDoor.dec

/- Plain: what the words say: sums, differences, order, products of amounts. -/
namespace Go.Proofs.YtjncjcellpbhcaaGreatDoor.dec
set_option linter.unusedVariables false
def B9 : Nat := 1000000000
theorem B9_eq : 1000000000 = B9 := rfl
theorem B9_pos : 0 < B9 := by decide
theorem B9_pow (k : Nat) : 0 < B9 ^ k := Nat.pow_pos B9_pos
/-- Word i of an amount. -/
def wd (N i : Nat) : Nat := N / B9 ^ i % B9
theorem wd_lt (N i : Nat) : wd N i < 1000000000 := Nat.mod_lt _ B9_pos
theorem mod_succ (N k : Nat) : N % B9 ^ (k + 1) = N % B9 ^ k + B9 ^ k * wd N k := by rw [Nat.pow_succ, Nat.mod_mul]; rfl
theorem carry_wd (N M k : Nat) : carry (wd N) (wd M) k = (N % B9 ^ k + M % B9 ^ k) / B9 ^ k := by
  induction k with
  | zero => simp [carry, Nat.mod_one]
  | succ k ih =>
    rw [carry, ih, mod_succ, mod_succ, B9_eq, Nat.pow_succ, ← Nat.div_div_eq_div_mul]
    congr 1
    rw [show N % B9 ^ k + B9 ^ k * wd N k + (M % B9 ^ k + B9 ^ k * wd M k) = (N % B9 ^ k + M % B9 ^ k) + B9 ^ k * (wd N k + wd M k) by rw [Nat.mul_add]; omega, Nat.add_mul_div_left _ _ (B9_pow k)]
    omega
theorem div_sum (N M k : Nat) : (N + M) / B9 ^ k = N / B9 ^ k + M / B9 ^ k + (N % B9 ^ k + M % B9 ^ k) / B9 ^ k := by
  conv => lhs; rw [← Nat.div_add_mod N (B9 ^ k), ← Nat.div_add_mod M (B9 ^ k)]
  rw [show B9 ^ k * (N / B9 ^ k) + N % B9 ^ k + (B9 ^ k * (M / B9 ^ k) + M % B9 ^ k) = (N % B9 ^ k + M % B9 ^ k) + B9 ^ k * (N / B9 ^ k + M / B9 ^ k) by rw [Nat.mul_add]; omega, Nat.add_mul_div_left _ _ (B9_pow k)]
  omega
theorem sumW_wd (N M k : Nat) : sumW (wd N) (wd M) k = wd (N + M) k := by
  unfold sumW
  rw [carry_wd]
  show (N / B9 ^ k % 1000000000 + M / B9 ^ k % 1000000000 + (N % B9 ^ k + M % B9 ^ k) / B9 ^ k) % 1000000000 = (N + M) / B9 ^ k % 1000000000
  have h := div_sum N M k
  generalize (N + M) / B9 ^ k = s at *
  generalize N / B9 ^ k = a at *
  generalize M / B9 ^ k = b at *
  generalize (N % B9 ^ k + M % B9 ^ k) / B9 ^ k = c at *
  omega
theorem borrow_wd (M D k : Nat) : borrow (wd (M + D)) (wd M) k = carry (wd M) (wd D) k := by
  induction k with
  | zero => rfl
  | succ k ih =>
    have h1 : wd (M + D) k = (wd M k + wd D k + carry (wd M) (wd D) k) % 1000000000 := (sumW_wd M D k).symm
    have h2 := wd_lt M k
    have h3 := wd_lt D k
    have h4 := carry_le (wd M) (wd D) (wd_lt M) (wd_lt D) k
    rw [borrow, carry, ih, h1]
    omega
theorem subW_wd (N M k : Nat) (h : M ≤ N) : subW (wd N) (wd M) k = wd (N - M) k := by
  obtain ⟨D, rfl⟩ : ∃ D, N = M + D := ⟨N - M, by omega⟩
  rw [Nat.add_sub_cancel_left]
  have h1 : wd (M + D) k = (wd M k + wd D k + carry (wd M) (wd D) k) % 1000000000 := (sumW_wd M D k).symm
  have h2 := wd_lt M k
  have h3 := wd_lt D k
  have h4 := carry_le (wd M) (wd D) (wd_lt M) (wd_lt D) k
  unfold subW
  rw [borrow_wd, h1]
  omega
def sgn (a b : Nat) : Int := if a < b then -1 else if b < a then 1 else 0
theorem cmpW_wd (N M k : Nat) : cmpW (wd N) (wd M) k = sgn (N % B9 ^ k) (M % B9 ^ k) := by
  induction k with
  | zero => simp [cmpW, sgn, Nat.mod_one]
  | succ k ih =>
    rw [cmpW, ih, mod_succ, mod_succ]
    have h1 := Nat.mod_lt N (B9_pow k)
    have h2 := Nat.mod_lt M (B9_pow k)
    generalize N % B9 ^ k = n at *
    generalize M % B9 ^ k = m at *
    generalize wd N k = a
    generalize wd M k = b
    generalize B9 ^ k = B at *
    unfold sgn
    by_cases h3 : a < b
    · have : B * (a + 1) ≤ B * b := Nat.mul_le_mul_left B h3
      rw [Nat.mul_succ] at this
      rw [if_pos h3, if_pos (by omega)]
    · by_cases h4 : b < a
      · have : B * (b + 1) ≤ B * a := Nat.mul_le_mul_left B h4
        rw [Nat.mul_succ] at this
        rw [if_neg h3, if_pos h4, if_neg (by omega), if_pos (by omega)]
      · obtain rfl : a = b := by omega
        rw [if_neg h3, if_neg h4]
        simp only [Nat.add_lt_add_iff_right]

/-! ### Products -/
def vs (o : Nat → Nat) : Nat → Nat
  | 0 => 0
  | n + 1 => vs o n + o n * B9 ^ n
theorem vs_upd_out (o : Nat → Nat) (j x n : Nat) (h : n ≤ j) : vs (upd o j x) n = vs o n := by
  induction n with
  | zero => rfl
  | succ n ih => rw [vs, vs, ih (by omega)]; unfold upd; rw [if_neg (by omega)]
theorem vs_upd (o : Nat → Nat) (j x n : Nat) (h : j < n) : vs (upd o j x) n + o j * B9 ^ j = vs o n + x * B9 ^ j := by
  induction n with
  | zero => omega
  | succ n ih =>
    rw [vs, vs]
    by_cases hj : j = n
    · subst hj
      rw [vs_upd_out o j x j (Nat.le_refl _)]
      have : upd o j x j = x := by unfold upd; rw [if_pos rfl]
      rw [this]; omega
    · have := ih (by omega)
      have e : upd o j x n = o n := by unfold upd; rw [if_neg (fun h => hj h.symm)]
      rw [e]; omega
theorem vs_lt (o : Nat → Nat) (ho : ∀ j, o j < 1000000000) (n : Nat) : vs o n < B9 ^ n := by
  induction n with
  | zero => simp [vs]
  | succ n ih =>
    rw [vs, Nat.pow_succ]
    have : (o n + 1) * B9 ^ n ≤ B9 * B9 ^ n := Nat.mul_le_mul_right _ (ho n)
    rw [Nat.add_mul] at this
    rw [Nat.mul_comm (B9 ^ n) B9]
    omega
theorem vs_mod (o : Nat → Nat) (ho : ∀ j, o j < 1000000000) (n k : Nat) (h : k ≤ n) : vs o n % B9 ^ k = vs o k := by
  induction n with
  | zero => obtain rfl : k = 0 := by omega
            simp [vs]
  | succ n ih =>
    by_cases hk : k = n + 1
    · subst hk; exact Nat.mod_eq_of_lt (vs_lt o ho _)
    · have := ih (by omega)
      have e : o n * B9 ^ n = B9 ^ k * (o n * B9 ^ (n - k)) := by
        rw [Nat.mul_left_comm, ← Nat.pow_add]; congr 2; omega
      rw [vs, e, Nat.add_mul_mod_self_left, this]
theorem wd_vs (o : Nat → Nat) (ho : ∀ j, o j < 1000000000) (n j : Nat) (h : j < n) : wd (vs o n) j = o j := by
  have h1 := vs_mod o ho n (j + 1) h
  rw [mod_succ, vs_mod o ho n j (by omega), vs] at h1
  have h2 : B9 ^ j * wd (vs o n) j = B9 ^ j * o j := by rw [Nat.mul_comm (B9 ^ j) (o j)]; omega
  exact Nat.eq_of_mul_eq_mul_left (B9_pow j) h2
theorem vs_wd (N k : Nat) : vs (wd N) k = N % B9 ^ k := by
  induction k with
  | zero => simp [vs, Nat.mod_one]
  | succ k ih => rw [vs, ih, mod_succ, Nat.mul_comm]
theorem inn_vs (n : Nat) (f g : Nat → Nat) (i : Nat) (o : Nat → Nat) (k : Nat) (h : i + k ≤ n) :
    vs (inn f g i o k).1 n + (inn f g i o k).2 * B9 ^ (i + k) = vs o n + f i * B9 ^ i * vs g k := by
  induction k with
  | zero => simp [inn, vs]
  | succ k ih =>
    have ih := ih (by omega)
    have hv : vs g (k + 1) = vs g k + g k * B9 ^ k := rfl
    rw [inn, hv]
    generalize inn f g i o k = p at *
    have hu := vs_upd p.1 (i + k) ((p.1 (i + k) + f i * g k + p.2) % 1000000000) n (by omega)
    have hs := Nat.div_add_mod (p.1 (i + k) + f i * g k + p.2) 1000000000
    simp only
    generalize hS : p.1 (i + k) + f i * g k + p.2 = S at *
    have hS' : p.1 (i + k) * B9 ^ (i + k) + f i * g k * B9 ^ (i + k) + p.2 * B9 ^ (i + k) = S * B9 ^ (i + k) := by rw [← hS, Nat.add_mul, Nat.add_mul]
    have hs' : S / 1000000000 * B9 ^ (i + (k + 1)) + S % 1000000000 * B9 ^ (i + k) = S * B9 ^ (i + k) := by
      conv => rhs; rw [← hs]
      rw [Nat.add_mul, show i + (k + 1) = (i + k) + 1 by omega, Nat.pow_succ, B9_eq, Nat.mul_comm (B9 ^ (i + k)) B9, ← Nat.mul_assoc, Nat.mul_comm (S / B9) B9]
    have hm : f i * B9 ^ i * (vs g k + g k * B9 ^ k) = f i * B9 ^ i * vs g k + f i * g k * B9 ^ (i + k) := by
      rw [Nat.mul_add, Nat.pow_add]; congr 1
      rw [Nat.mul_assoc, Nat.mul_assoc, Nat.mul_left_comm (B9 ^ i)]
    rw [hm]
    omega
theorem outT_vs (n : Nat) (hn : n = 16) (N M i : Nat) (h : i ≤ n) : vs (outT (wd N) (wd M) i) n % B9 ^ n = (N % B9 ^ i) * M % B9 ^ n := by
  induction i with
  | zero =>
    have h0 : ∀ n, vs (fun _ => 0) n = 0 := by
      intro n; induction n with
      | zero => rfl
      | succ n ih => rw [vs, ih]; simp
    show vs (fun _ => 0) n % _ = _
    rw [h0]; simp [Nat.mod_one]
  | succ i ih =>
    have ih := ih (by omega)
    have e : outT (wd N) (wd M) (i + 1) = (inn (wd N) (wd M) i (outT (wd N) (wd M) i) (n - i)).1 := by rw [hn]; rfl
    clear hn
    have hi := inn_vs n (wd N) (wd M) i (outT (wd N) (wd M) i) (n - i) (by omega)
    rw [show i + (n - i) = n by omega, vs_wd] at hi
    have h1 : vs (inn (wd N) (wd M) i (outT (wd N) (wd M) i) (n - i)).1 n % B9 ^ n = (vs (outT (wd N) (wd M) i) n + wd N i * B9 ^ i * (M % B9 ^ (n - i))) % B9 ^ n := by
      rw [← hi, Nat.add_mul_mod_self_right]
    have h2 : (wd N i * B9 ^ i * (M % B9 ^ (n - i))) % B9 ^ n = (wd N i * B9 ^ i * M) % B9 ^ n := by
      have hp : B9 ^ n = B9 ^ i * B9 ^ (n - i) := by rw [← Nat.pow_add]; congr 1; omega
      have e : ∀ x, wd N i * B9 ^ i * x = B9 ^ i * (wd N i * x) := fun x => by rw [Nat.mul_comm (wd N i), Nat.mul_assoc]
      rw [e, e, hp, Nat.mul_mod_mul_left, Nat.mul_mod_mul_left, Nat.mul_mod, Nat.mod_mod, ← Nat.mul_mod]
    rw [e, h1, Nat.add_mod, ih, h2, ← Nat.add_mod, ← Nat.add_mul, mod_succ N i, Nat.mul_comm (wd N i)]
theorem times_wd' (n : Nat) (hn : n = 16) (N M : Nat) (hN : N < B9 ^ n) (hNM : N * M < B9 ^ n) (j : Nat) (hj : j < n) : outT (wd N) (wd M) n j = wd (N * M) j := by
  have ho := outT_lt (wd N) (wd M) (wd_lt N) (wd_lt M) n
  have h1 := outT_vs n hn N M n (Nat.le_refl _)
  clear hn
  rw [Nat.mod_eq_of_lt (vs_lt _ ho n), Nat.mod_eq_of_lt hN, Nat.mod_eq_of_lt hNM] at h1
  rw [← h1]; exact (wd_vs _ ho n j hj).symm
theorem times_wd (N M : Nat) (hN : N < B9 ^ 16) (hNM : N * M < B9 ^ 16) (j : Nat) (hj : j < 16) : outT (wd N) (wd M) 16 j = wd (N * M) j := times_wd' 16 rfl N M hN hNM j hj
theorem wv_congr (f g : Nat → Nat) (h : ∀ i, i < 16 → f i = g i) : wv f = wv g := by
  apply Array.ext_getElem?
  intro j
  by_cases hj : j < 16
  · rw [wv_get f j hj, wv_get g j hj, h j hj]
  · rw [Array.getElem?_eq_none (by rw [wv_size]; omega), Array.getElem?_eq_none (by rw [wv_size]; omega)]
end Go.Proofs.YtjncjcellpbhcaaGreatDoor.dec

/- Contract of decimal's words: digits. -/
namespace Go.Proofs.YtjncjcellpbhcaaGreatDoor.dec
open Go.ChangeShapes Go.WideShapes Go.ChangeAt Go.RowKit kit
set_option linter.unusedVariables false
theorem grown_of_below {w w' : World} (h : Below w.heap.size w w') : w.grownBy w' none := ⟨h.os, h.tape, h.output, h.size, fun k hk _ => h.block k hk⟩
theorem builderAt_below {T e : TypeId} {B b : Nat} {p : Value} {bs : List Value} {w w' : World} (h : Lib.BuilderAt T e B b p bs w) (hb : Below w.heap.size w w') : Lib.BuilderAt T e B b p bs w' := by
  have hlt := h.lt
  obtain ⟨h1, v, h2, h3, h4⟩ := h
  exact ⟨h1, v, (hb.block b hlt).trans h2, h3.kept (grown_of_below hb) (by cases v.ownBlock <;> simp), h4⟩
theorem isBuilder_below {T e : TypeId} {B b : Nat} {bs : List Value} {w w' : World} (h : Lib.IsBuilder T e B b bs w) (hb : Below w.heap.size w w') : Lib.IsBuilder T e B b bs w' := by
  rcases h with h | h
  · exact .inl (builderAt_below h hb)
  · exact .inr (builderAt_below h hb)
/-- Nine digits of a word. -/
theorem nine (x : Nat) (h : x < 1000000000) : (Lib.decDigits x).length ≤ 9 ∧ List.replicate (9 - (Lib.decDigits x).length) 48 ++ Lib.decDigits x = pad 9 x := by
  have hl : (Lib.decDigits x).length ≤ 9 := by
    have h1 := (digs_lt x 9).2 h
    unfold digs at h1
    split at h1
    · rename_i h0; subst h0; rw [Lib.decDigits]; simp
    · exact h1
  refine ⟨hl, ?_⟩
  have hd : allD (Lib.decDigits x) = true := by
    have := digs_allD x
    unfold digs at this
    split at this
    · rename_i h0; subst h0; rw [Lib.decDigits]; decide
    · exact this
  have hv : val (Lib.decDigits x) = x := by
    have := digs_val x
    unfold digs at this
    split at this
    · rename_i h0; subst h0; rw [Lib.decDigits]; rfl
    · exact this
  have h2 := pad_of_val (l := List.replicate (9 - (Lib.decDigits x).length) 48 ++ Lib.decDigits x) (by rw [allD_append, allD_replicate, hd]; rfl)
  rw [List.length_append, List.length_replicate, val_append, val_replicate, hv, Nat.zero_mul, Nat.zero_add, show 9 - (Lib.decDigits x).length + (Lib.decDigits x).length = 9 by omega] at h2
  exact h2.symm
theorem pow9 (k : Nat) : B9 ^ k = 10 ^ (9 * k) := by rw [Nat.pow_mul]; rfl
/-- The digits written when the words from k on are. -/
def outD (N k : Nat) : List UInt8 := pad (9 * (16 - k)) (N / B9 ^ k)
theorem outD_step (N k : Nat) (h : k < 16) : outD N (k + 1) ++ pad 9 (wd N k) = outD N k := by
  unfold outD
  rw [show 9 * (16 - k) = 9 * (16 - (k + 1)) + 9 by omega, pad_append]
  congr 1
  · rw [Nat.div_div_eq_div_mul, Nat.pow_succ]; rfl
  · exact pad_mod 9 (N / B9 ^ k)
theorem outD_16 (N : Nat) : outD N 16 = [] := rfl
theorem outD_len (N k : Nat) : (outD N k).length ≤ 144 := by unfold outD; rw [pad_length]; omega

def DW (w : World) (N k : Nat) (W : World) : Prop := Below w.heap.size w W ∧ w.heap.size + 1 < W.heap.size ∧ Blk W w.heap.size (wv (wd N)) 118 ∧ Lib.IsBuilder 109 5 (w.heap.size + 1) (w.heap.size + 1) (Lib.byteCells (outD N k)) W
set_option maxHeartbeats 2000000 in
set_option maxRecDepth 100000 in
theorem digits_any (N : Nat) (w : World) (hE : Env w) (hN : N < B9 ^ 16) :
    Calls Tryz.prog 97 #[.agg (wv (wd N))] w fun e w' => e = .returned (.string ⟨(digs N).toArray⟩) ∧ Below w.heap.size w w' := by
  have hfin : trimL (outD N 0) = digs N := by
    unfold outD
    rw [trimL_eq (pad_allD _ _), pad_val, Nat.pow_zero, Nat.div_one, Nat.mod_eq_of_lt]
    have := pow9 16
    rw [← this]; exact hN
  replace hfin := Lib.hid hfin
  replace hN := Lib.hid hN
  replace hE := Lib.hid hE
  go_enter Tryz.func97, Tryz.ntmps97
  go_wp2
  obtain ⟨W, hW⟩ : ∃ W, (w.alloc (.cells (wv (wd N)) 118)).alloc (.cells #[.pointer none, .slice none 0 0] 109) = W := ⟨_, rfl⟩
  have dw : DW w N 16 W := by
    rw [← hW]
    refine ⟨((Below.refl _ _).alloc (Nat.le_refl _) _).alloc (by simp) _, by simp, (Blk.new _ _ _).alloc _, .inl ⟨Nat.le_refl _, .slice none 0 0, ?_, World.ownsRow_nil _ _ _ _, by simp [Value.ownBlock]⟩⟩
    have := heap_alloc_new (w.alloc (.cells (wv (wd N)) 118)) (.cells #[.pointer none, .slice none 0 0] 109)
    rwa [World.size_alloc] at this
  rw [hW]
  clear hW
  go_loopw [4] (fun vi wr => ∃ k : Nat, k ≤ 16 ∧ vi = .int .i64 ((k : Int) - 1) ∧ DW w N k wr) (fun vi _ => ((intOf vi) + 1).toNat)
  case atStart => exact ⟨16, by omega, rfl, dw⟩
  case round =>
    clear dw
    obtain ⟨k1, hk, rfl, dw⟩ := hrel
    by_cases h0 : k1 = 0
    · subst h0
      obtain ⟨d1, d2, d3, d4⟩ := dw
      replace d1 := Lib.hid d1
      replace d4 := Lib.hid d4
      have s0 : w.heap.size + 1 ≤ wr.heap.size := by omega
      clear d2 d3
      go_wp2_with fail
      refine (Tryz.Builder_String_any (w.heap.size + 1) (w.heap.size + 1) (outD N 0) _ d4.out s0).mono ?_
      rintro e w1 ⟨rfl, hb1⟩
      go_wp2_with fail
      refine (Tryz.strings_TrimLeft_one _ 48 (by decide) _).mono ?_
      rintro e w2 ⟨rfl, rfl⟩
      go_wp2
      go_ret
      exact ⟨ret_val (by rw [← hfin.out]; rfl), d1.out.trans (hb1.mono (by omega))⟩
    · obtain ⟨k, rfl⟩ : ∃ k, k1 = k + 1 := ⟨k1 - 1, by omega⟩
      obtain ⟨d1, d2, d3, d4⟩ := dw
      have hc1 : wr.cell? ⟨w.heap.size, k, none⟩ = some (.int .u64 (wd N k : Nat)) := d3.cell _ (wv_get _ k (by omega))
      obtain ⟨n1, n2⟩ := nine (wd N k) (wd_lt N k)
      have hstep := outD_step N k (by omega)
      have hx := wd_lt N k
      rw [show (((k + 1 : Nat) : Int) - 1) = (k : Int) by omega]
      have htab := (hE.out.below d1).pow
      replace htab := Lib.hid htab
      replace d1 := Lib.hid d1
      replace d2 := Lib.hid d2
      replace d3 := Lib.hid d3
      replace d4 := Lib.hid d4
      replace n2 := Lib.hid n2
      replace hstep := Lib.hid hstep
      generalize wd N k = x at *
      go_wp2_with fail
      refine (formatUint_any x (by omega) _ htab.out).mono ?_
      rintro e w1 ⟨rfl, hb1⟩
      replace hb1 := Lib.hid hb1
      have hsz : (⟨(Lib.decDigits x).toArray⟩ : ByteArray).size = (Lib.decDigits x).length := rfl
      have n1i : ((Lib.decDigits x).length : Int) ≤ 9 := by omega
      go_wp2_with fail
      rw [show ((9 : Int) - ((Lib.decDigits x).length : Int)) = ((9 - (Lib.decDigits x).length : Nat) : Int) by omega]
      refine (Tryz.strings_Repeat ⟨#[48]⟩ (9 - (Lib.decDigits x).length) w1 (by omega) (by have : (ByteArray.mk #[48]).size = 1 := rfl; rw [this]; omega)).mono ?_
      rintro e w2 ⟨rfl, hb2⟩
      replace hb2 := Lib.hid hb2
      have q2 : Below wr.heap.size wr w2 := hb1.out.trans (hb2.out.mono hb1.out.size)
      have i2 := isBuilder_below d4.out q2
      have hol := outD_len N (k + 1)
      have hrl : (⟨(Lib.repeatL (ByteArray.mk #[48]).data.toList (9 - (Lib.decDigits x).length)).toArray⟩ : ByteArray).size ≤ 9 := by
        show (Lib.repeatL _ _).toArray.size ≤ 9
        simp [repeatL_48]
      have s2 : w.heap.size + 1 ≤ w2.heap.size := by have := d2.out; have := q2.size; omega
      replace q2 := Lib.hid q2
      replace i2 := Lib.hid i2
      go_wp2_with fail
      refine (writeString_any (w.heap.size + 1) (w.heap.size + 1) _ _ _ i2.out (by rw [Lib.byteCells_length]; omega) s2).mono ?_
      rintro e w3 ⟨rfl, i3, hb3⟩
      replace i3 := Lib.hid i3
      replace hb3 := Lib.hid hb3
      have s3 : w.heap.size + 1 ≤ w3.heap.size := by have := hb3.out.size; omega
      go_wp2_with fail
      refine (writeString_any (w.heap.size + 1) (w.heap.size + 1) _ _ _ (.inr i3.out) (by rw [List.length_append, Lib.byteCells_length, Lib.strCells_length]; omega) s3).mono ?_
      rintro e w4 ⟨rfl, i4, hb4⟩
      replace i4 := Lib.hid i4
      replace hb4 := Lib.hid hb4
      go_wp2
      go_roundw
      case rel =>
        have q4 : Below (w.heap.size + 1) wr w4 := ((q2.out.mono (by have := d2.out; omega)).trans hb3.out).trans hb4.out
        refine ⟨k, by omega, rfl, d1.out.trans (q4.mono (by omega)), by have := d2.out; have := q4.size; omega, ?_, .inr ?_⟩
        · exact (q4.block _ (by omega)).trans d3.out
        · have := i4.out
          rw [Lib.strCells_eq, Lib.strCells_eq, List.append_assoc, ← Lib.byteCells_append, ← Lib.byteCells_append] at this
          rw [show (⟨(Lib.repeatL (ByteArray.mk #[48]).data.toList (9 - (Lib.decDigits x).length)).toArray⟩ : ByteArray).data.toList ++ (⟨(Lib.decDigits x).toArray⟩ : ByteArray).data.toList = pad 9 x by rw [← n2.out, ← repeatL_48], hstep.out] at this
          exact this
      case measure => simp [intOf]
end Go.Proofs.YtjncjcellpbhcaaGreatDoor.dec

/- Contract of decimal.wordsOf. -/
namespace Go.Proofs.YtjncjcellpbhcaaGreatDoor.dec
open Go.ChangeShapes Go.WideShapes Go.ChangeAt Go.RowKit kit
set_option linter.unusedVariables false
theorem parseM_ok (M acc : Nat) (l : List UInt8) (hd : allD l = true) (hb : (acc + 1) * 10 ^ l.length ≤ 1000000000) (hM : 1000000000 ≤ M) : Lib.parseUintM M acc l = .ok (acc * 10 ^ l.length + val l) := by
  induction l generalizing acc with
  | nil => simp [Lib.parseUintM, val]
  | cons c l ih =>
    rw [allD_cons, Bool.and_eq_true] at hd
    have hc := hd.1
    unfold isD at hc
    simp only [decide_eq_true_eq] at hc
    have hv : dv c = c.toNat - 48 := rfl
    have hp : 1 ≤ 10 ^ l.length := Nat.pow_pos (by decide)
    rw [List.length_cons, Nat.pow_succ] at hb
    have hb2 : (acc + 1) * 10 * 10 ^ l.length ≤ 1000000000 := by rw [Nat.mul_assoc, Nat.mul_comm 10]; exact hb
    have h9 : dv c ≤ 9 := by omega
    have hb3 : (acc * 10 + dv c + 1) * 10 ^ l.length ≤ 1000000000 := Nat.le_trans (Nat.mul_le_mul_right _ (by omega)) hb2
    have hb4 : acc * 10 + dv c + 1 ≤ 1000000000 := Nat.le_trans (Nat.le_mul_of_pos_right _ hp) hb3
    rw [Lib.parseUintM, if_pos hc, if_neg (by omega), if_neg (by omega), ← hv, ih _ hd.2 hb3, val_cons, List.length_cons, Nat.pow_succ]
    congr 1
    rw [Nat.add_mul, Nat.mul_assoc, Nat.mul_comm 10, Nat.add_assoc]
theorem parse_ok (l : List UInt8) (hd : allD l = true) (h0 : l ≠ []) (h9 : l.length ≤ 9) : Lib.parseUintB 64 l = .ok (val l) := by
  unfold Lib.parseUintB
  rw [if_neg h0, parseM_ok _ 0 l hd (by
    have : 10 ^ l.length ≤ 10 ^ 9 := Nat.pow_le_pow_right (by decide) h9
    omega) (by decide), Nat.zero_mul, Nat.zero_add]
/-- The words of a row of digits, the lowest i of them. -/
def wdTo (N i : Nat) : Nat → Nat := fun j => if j < i then wd N j else 0
theorem wdTo_upd (N i : Nat) : upd (wdTo N i) i (wd N i) = wdTo N (i + 1) := by
  funext j
  unfold upd wdTo
  by_cases h : j = i
  · subst h; rw [if_pos rfl, if_pos (by omega)]
  · rw [if_neg h]
    by_cases h2 : j < i
    · rw [if_pos h2, if_pos (by omega)]
    · rw [if_neg h2, if_neg (by omega)]
theorem wdTo_all (N i : Nat) (h : N < B9 ^ i) : wdTo N i = wd N := by
  funext j
  unfold wdTo
  by_cases hj : j < i
  · rw [if_pos hj]
  · rw [if_neg hj]
    unfold wd
    rw [Nat.div_eq_of_lt (Nat.lt_of_lt_of_le h (Nat.pow_le_pow_right B9_pos (by omega)))]; rfl
/-- The i-th chunk from behind is word i. -/
theorem chunk (l : List UInt8) (hd : allD l = true) (i : Nat) (h : 9 * i < l.length) : val ((l.take (l.length - 9 * i)).drop (l.length - 9 * i - 9)) = wd (val l) i := by
  have e1 : val l / B9 ^ i = val (l.take (l.length - 9 * i)) := by
    have h1 : val l = val (l.take (l.length - 9 * i)) * 10 ^ (9 * i) + val (l.drop (l.length - 9 * i)) := by
      conv => lhs; rw [← List.take_append_drop (l.length - 9 * i) l]
      rw [val_append, List.length_drop]
      congr 3
      omega
    have h2 : val (l.drop (l.length - 9 * i)) < 10 ^ (9 * i) := by
      have := val_lt (allD_drop (l.length - 9 * i) hd)
      rwa [List.length_drop, show l.length - (l.length - 9 * i) = 9 * i by omega] at this
    rw [pow9, h1, Nat.add_comm, Nat.add_mul_div_right _ _ (Nat.pow_pos (by decide)), Nat.div_eq_of_lt h2, Nat.zero_add]
  unfold wd
  rw [e1]
  have hd2 := allD_take (l.length - 9 * i) hd
  have hl2 : (l.take (l.length - 9 * i)).length = l.length - 9 * i := by rw [List.length_take]; omega
  generalize l.take (l.length - 9 * i) = t at *
  rw [← hl2]
  generalize ht : t.length = n at *
  have h1 : val t = val (t.take (n - 9)) * 10 ^ (n - (n - 9)) + val (t.drop (n - 9)) := by
    conv => lhs; rw [← List.take_append_drop (n - 9) t]
    rw [val_append, List.length_drop, ht]
  have h2 : val (t.drop (n - 9)) < 10 ^ (n - (n - 9)) := by
    have := val_lt (allD_drop (n - 9) hd2)
    rwa [List.length_drop, ht] at this
  by_cases h9 : n ≤ 9
  · have h3 : n - 9 = 0 := by omega
    rw [h3] at h1 h2 ⊢
    rw [List.drop_zero] at h2 ⊢
    rw [Nat.mod_eq_of_lt]
    refine Nat.lt_of_lt_of_le h2 ?_
    exact Nat.pow_le_pow_right (n := 10) (by decide) (show n - 0 ≤ 9 by omega)
  · rw [show n - (n - 9) = 9 by omega] at h1 h2
    rw [h1, Nat.add_comm, show (10 : Nat) ^ 9 = B9 from rfl, Nat.add_mul_mod_self_right]
    exact (Nat.mod_eq_of_lt h2).symm
def WoW (w : World) (N i : Nat) (W : World) : Prop := Below w.heap.size w W ∧ Blk W w.heap.size (wv fun _ => 0) 118 ∧ Blk W (w.heap.size + 1) (wv (wdTo N i)) 118
theorem WoW.below {w W W' : World} {N i : Nat} (h : WoW w N i W) (hb : Below W.heap.size W W') : WoW w N i W' :=
  ⟨h.1.trans (hb.mono h.1.size), (hb.block _ h.2.1.lt).trans h.2.1, (hb.block _ h.2.2.lt).trans h.2.2⟩
theorem WoW.put {w W : World} {N i : Nat} (h : WoW w N i W) (hi : i < 16) : WoW w N (i + 1) (W.setCell ⟨w.heap.size + 1, i, none⟩ (.int .u64 (wd N i : Nat))) := by
  refine ⟨h.1.setCell (by simp) _, h.2.1.set_other _ (by simp) _, ?_⟩
  have := h.2.2.set i (.int .u64 (wd N i : Nat))
  rwa [wv_upd _ _ _ hi, wdTo_upd] at this
set_option maxHeartbeats 2000000 in
set_option maxRecDepth 100000 in
theorem wordsOf_any (s : ByteArray) (w : World) (hd : allD s.data.toList = true) (hs : s.size ≤ 144) :
    Calls Tryz.prog 139 #[.string s] w fun e w' => e = .returned (.agg (wv (wd (val s.data.toList)))) ∧ Below w.heap.size w w' := by
  have hlen : s.data.toList.length = s.size := rfl
  replace hlen := Lib.hid hlen
  replace hd := Lib.hid hd
  go_enter Tryz.func139, Tryz.ntmps139
  go_wp2
  have hz := wv_zero
  rw [← hz]; clear hz
  obtain ⟨W, hW⟩ : ∃ W, (w.alloc (.cells (wv fun _ => 0) 118)).alloc (.cells (wv fun _ => 0) 118) = W := ⟨_, rfl⟩
  have dw : WoW w (val s.data.toList) 0 W := by
    rw [← hW]
    refine ⟨((Below.refl _ _).alloc (Nat.le_refl _) _).alloc (by simp) _, (Blk.new _ _ _).alloc _, ?_⟩
    have := Blk.new (w.alloc (.cells (wv fun _ => 0) 118)) (wv fun _ => 0) 118
    rwa [World.size_alloc] at this
  rw [hW]
  clear hW
  go_loopw [0, 4] (fun vs vi wr => ∃ (i : Nat) (t : ByteArray), vs = .string t ∧ vi = .int .i64 i ∧ Hid (t.data.toList = s.data.toList.take (s.size - 9 * i)) ∧ i ≤ 16 ∧ t.size = s.size - 9 * i ∧ WoW w (val s.data.toList) i wr) (fun _ vi _ => 17 - (intOf vi).toNat)
  case atStart => exact ⟨0, s, rfl, rfl, by show _ = _; rw [List.take_of_length_le]; rw [hlen.out]; omega, by omega, by omega, dw⟩
  case round =>
    clear dw
    obtain ⟨i, t, rfl, rfl, ht, hi, hts, dw⟩ := hrel
    by_cases h0 : t.size = 0
    · have hall : wdTo (val s.data.toList) i = wd (val s.data.toList) := by
        refine wdTo_all _ _ ?_
        rw [pow9]
        exact Nat.lt_of_lt_of_le (val_lt hd.out) (Nat.pow_le_pow_right (by decide) (by rw [hlen.out]; omega))
      obtain ⟨d1, d2, d3⟩ := dw
      rw [hall] at d3
      replace d1 := Lib.hid d1
      replace d2 := Lib.hid d2
      replace d3 := Lib.hid d3
      have h0i : ¬ ((0 : Int) < (t.size : Int)) := by omega
      clear hts hall h0
      go_wp2_with (first
        | (with_reducible refine wpList_load_row rfl 118 _ rfl (w.heap.size + 1) rfl 118 _ (0, 0) _ d3.out.eq Tryz.underlying118 rfl (by rw [wv_size]; exact Tryz.infoW) ?_)
        | (with_reducible refine wpList_store_row rfl 118 _ _ rfl w.heap.size _ rfl rfl 118 _ d2.out.eq (by rw [wv_size]; exact Tryz.infoW) (by rw [wv_size, wv_size]) (wv_one _) ?_))
      exact bodyPost_ret (v := .agg (wv (wd (val s.data.toList)))) (results_cell_row rfl _ _ w.heap.size 118 _ (0, 0) _ rfl d2.out.setRow.eq Tryz.underlying118 rfl (by rw [wv_size]; exact Tryz.infoW)) rfl
        ⟨rfl, ((Keep.ofBelow d1.out).setRow (by omega) _).below⟩
    · have hi16 : i < 16 := by omega
      have hck := chunk s.data.toList hd.out i (by rw [hlen.out]; omega)
      rw [hlen.out, ← ht.out] at hck
      have hdt : allD t.data.toList = true := by rw [ht.out]; exact allD_take _ hd.out
      have h0i : (0 : Int) < (t.size : Int) := by omega
      replace hts := Lib.hid hts
      replace dw := Lib.hid dw
      replace hck := Lib.hid hck
      replace hdt := Lib.hid hdt
      have h144 : (t.size : Int) ≤ 144 := by have := hts.out; omega
      have hmx : max ((t.size : Int) - 9) 0 = ((t.size - 9 : Nat) : Int) := by omega
      have hmn : ((t.size - 9 : Nat) : Int) ≤ (t.size : Int) := by omega
      have hpd : Lib.parseUintB 64 (t.extract (t.size - 9) t.size).data.toList = .ok (wd (val s.data.toList) i) := by
        have hx : (t.extract (t.size - 9) t.size).data.toList = t.data.toList.drop (t.size - 9) := by
          rw [Lib.extract_data, List.take_of_length_le]
          rw [List.length_drop]; exact Nat.le_refl _
        have htl : t.data.toList.length = t.size := rfl
        rw [hx, parse_ok _ (allD_drop _ hdt.out) (fun e => by
          have := congrArg List.length e
          rw [List.length_drop, htl] at this; simp at this; omega) (by rw [List.length_drop, htl]; omega), hts.out, hck.out]
      have htk : (t.extract 0 (t.size - 9)).data.toList = s.data.toList.take (s.size - 9 * (i + 1)) := by
        rw [Lib.extract_data, List.drop_zero, Nat.sub_zero, hts.out, ht.out, List.take_take]
        congr 1; omega
      have hfz := dw.out.2.2.free i
      have hbi : dw.out.2.2.lt = dw.out.2.2.lt := rfl
      replace hpd := Lib.hid hpd
      replace htk := Lib.hid htk
      clear hbi h0 ht
      go_wp2_with fail
      refine (Tryz.strconv_ParseUint_10_at64_ok _ (by simp; omega) _ hpd.out _).mono ?_
      rintro e w1 ⟨rfl, hw1⟩
      have hb1 : Below wr.heap.size wr w1 := by
        rcases hw1 with h | h
        · rw [h]; exact Below.refl _ _
        · rw [h]; exact Lib.bytesWorld_below _ _ _
      clear hw1
      have dw1 := dw.out.below hb1
      have hc1 : w1.cell? ⟨w.heap.size + 1, i, none⟩ = some (.int .u64 (wdTo (val s.data.toList) i i : Nat)) := dw1.2.2.cell _ (wv_get _ i hi16)
      have hf1 := dw1.2.2.free i
      replace dw1 := Lib.hid dw1
      clear hfz hb1
      go_wp2
      go_roundw
      case rel =>
        refine ⟨i + 1, t.extract 0 (t.size - 9), rfl, by go_num, htk, by omega, ?_, dw1.out.put hi16⟩
        have := hts.out
        simp; omega
      case measure => simp [intOf]; omega
end Go.Proofs.YtjncjcellpbhcaaGreatDoor.dec
