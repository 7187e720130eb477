/- The iterator of LogicAll (it counts how often it is asked): what it owes. -/
import Derived.Test.YtakgjoiloklfkaaLogicRange
import Derived.Test.YtakgjoiloklfkaaLogic
import Derived.Test.YtakgjoiloklfkaaKit
import Derived.RangeFuncNested
import Derived.RangeFuncBound
import Derived.RangeFuncCalls
import Derived.RangeFuncLeaves
import Derived.Shelf.Abstract
import Derived.OwnWalkIn
import Derived.TacticsInMore
import Derived.LoopNIn
import Derived.LoopIn
namespace Go.Proofs.Ytakgjoiloklfkaa.logic
open Go.RowKit Go.Shelf kit
set_option linter.unusedVariables false
set_option linter.unusedSimpArgs false
attribute [local go_sem] Oper.semAt_some
/-- A world of the iterator's: below n, all but the count's cell lies as in w; the count. -/
structure IS (w wr : World) (n C k : Nat) : Prop where
  block : ∀ i, i < n → i ≠ C → wr.heap[i]? = w.heap[i]?
  box : Blk wr C #[.int .i64 (k : Int)] 3
theorem IS.below {w wr w' : World} {n C k : Nat} (h : IS w wr n C k) (hC : C < n) (hb : Below n wr w') : IS w w' n C k :=
  ⟨fun i hi hn => (hb.block i hi).trans (h.block i hi hn), (hb.block C hC).trans h.box⟩
theorem IS.cell {w wr : World} {n C k : Nat} (h : IS w wr n C k) {p : Addr} (h1 : p.block < n) (h2 : p.block ≠ C) : wr.cell? p = w.cell? p := World.cell?_of_block (h.block _ h1 h2)
theorem IS.count {w wr : World} {n C k : Nat} (h : IS w wr n C k) : IS w (wr.setCell ⟨C, 0, none⟩ (.int .i64 ((k : Int) + 1))) n C (k + 1) :=
  ⟨fun i hi hn => (heap_setCell_other wr ⟨C, 0, none⟩ i _ hn).trans (h.block i hi hn), by
    have := h.box.set 0 (.int .i64 ((k : Int) + 1))
    simpa using this⟩
/-- What comes. -/
def comes (zs : List Int) : List Int := (zs.take 50).map fun z => not3 (not3 z)
theorem comes_length (zs : List Int) : (comes zs).length = min 50 zs.length := by simp [comes]
theorem comes_take (zs : List Int) (k : Nat) (h : k < zs.length) (h50 : k < 50) : (comes zs).take (k + 1) = (comes zs).take k ++ [not3 (not3 (zs.getD k 0))] := by
  have hl : k < (comes zs).length := by rw [comes_length]; omega
  rw [List.take_add_one, List.getElem?_eq_getElem hl]
  simp [comes, List.getD_eq_getElem?_getD, List.getElem?_eq_getElem h]
set_option maxRecDepth 100000 in
set_option maxHeartbeats 2000000 in
theorem seq_x (n : Nat) (hn : 1 ≤ n) (w : World) (n₀ B C cap : Nat) (ao : Option Addr) (zs : List Int) (hlen : zs.length ≤ 9223372036854775807) (hC : C < n₀) (hB : B < n₀) (hBC : B ≠ C)
    (hcB : w.cell? ⟨B, 0, none⟩ = some (.slice ao zs.length cap)) (hbox : Blk w C #[.int .i64 0] 3)
    (hz : ∀ j, j < zs.length → ∃ b off, ao = some ⟨b, off, none⟩ ∧ b < n₀ ∧ b ≠ C ∧ w.cell? ⟨b, off + j, none⟩ = some (.int .i64 (zs.getD j 0))) :
    SeqX Fence.wide n Try.prog 15 #[.pointer (some ⟨B, 0, none⟩), .pointer (some ⟨C, 0, none⟩)] (fun x : Int => #[.int .i64 x]) (Below n₀) (fun U V => ∃ v, V = U.setCell ⟨C, 0, none⟩ v)
      (fun xs W => xs = comes zs ∧ Blk W C #[.int .i64 (xs.length : Int)] 3) (fun pre W => pre <+: comes zs ∧ Blk W C #[.int .i64 (pre.length : Int)] 3) (comes zs).length w := fun l J Jx W hW hJo hY h0 => by
  have is0 : IS w W n₀ C 0 := (IS.below (w := w) ⟨fun _ _ _ => rfl, hbox⟩ hC hW)
  replace hz := Lib.hid hz
  replace hJo := Lib.hid hJo
  replace hY := Lib.hid hY
  refine callsIn_of_wp Try.func15 rfl trivial ?_ rfl
  simp only [Try.ntmps15, List.size_toArray, List.length_cons, List.length_nil, Nat.reduceAdd, Nat.reduceSub, Array.replicate_succ, Array.replicate_zero, List.push_toArray, List.append_toArray, List.nil_append, List.cons_append]
  gi_wp2
  gi_loopw [4] (fun p wr => ∃ k : Nat, p = .int .i64 k ∧ k ≤ zs.length ∧ k ≤ 50 ∧ Hid (J ((comes zs).take k) wr) ∧ Hid (IS w wr n₀ C k)) (fun p wr => zs.length - (intOf p).toNat)
  case atStart =>
    exact ⟨0, rfl, by omega, by omega, by rw [List.take_zero]; exact h0, is0⟩
  case round =>
    clear is0 h0
    obtain ⟨k, rfl, hk, hk50, hJ, hI⟩ := hrel
    have c1 : wr.cell? ⟨B, 0, none⟩ = some (.slice ao zs.length cap) := (hI.out.cell (p := ⟨B, 0, none⟩) hB hBC).trans hcB
    have hbx := hI.out.box
    have c2 : wr.cell? ⟨C, 0, none⟩ = some (.int .i64 (k : Int)) := hbx.cell 0 rfl
    have f2 : wr.frozen? ⟨C, 0, none⟩ = false := hbx.free 0
    by_cases hlt : k < zs.length
    · have hki : (k : Int) < (zs.length : Int) := by omega
      by_cases h50 : k < 50
      · have h50i : (k : Int) < 50 := by omega
        obtain ⟨b, off, rfl, hbn, hbC, hcz⟩ := hz.out k hlt
        have htk := comes_take zs k hlt h50
        generalize zs.getD k 0 = z at *
        have hIc := hI.out.count
        have hJ1 := hJo.out _ wr _ hJ.out ⟨.int .i64 ((k : Int) + 1), rfl⟩
        have c3 : (wr.setCell ⟨C, 0, none⟩ (.int .i64 ((k : Int) + 1))).cell? ⟨B, 0, none⟩ = some (.slice (some ⟨b, off, none⟩) zs.length cap) := (hIc.cell (p := ⟨B, 0, none⟩) hB hBC).trans hcB
        have c4 : (wr.setCell ⟨C, 0, none⟩ (.int .i64 ((k : Int) + 1))).cell? ⟨b, off + k, none⟩ = some (.int .i64 z) := (hIc.cell (p := ⟨b, off + k, none⟩) hbn hbC).trans hcz
        obtain ⟨x, hx⟩ : ∃ x, not3 (not3 z) = x := ⟨_, rfl⟩
        rw [hx] at htk
        obtain ⟨fn, tmps, assign, body, hy, hR⟩ := hY.out _ x _ hJ1 (by rw [List.length_take, comes_length]; omega)
        rw [← htk] at hR
        replace htk := Lib.hid htk
        replace hIc := Lib.hid hIc
        clear hJ1 hI hJ
        gi_wp2_with (refine ⟨trivial, ?_⟩; gi_at_call 7; refine (callsIn_wide.2 (rnot_any _ _)).mono ?_; rintro e w' ⟨rfl, rfl⟩)
        refine hR.mono ?_
        have hkl : (comes zs).length = min 50 zs.length := comes_length zs
        rintro e W3 (⟨rfl, hJ3, hk3⟩ | ⟨rfl, hJ3, hk3⟩)
        · have hI3 := Lib.hid (hIc.out.below hC hk3)
          replace hJ3 := Lib.hid hJ3
          clear hk3 hIc
          gi_wp2
          go_roundw
          case rel => exact ⟨k + 1, by go_num, by omega, by omega, hJ3, hI3⟩
          case measure => simp [intOf]; omega
        · have hI3 := Lib.hid (hIc.out.below hC hk3)
          replace hJ3 := Lib.hid hJ3
          clear hk3 hIc
          gi_wp2
          refine bodyPost_ret (results_none rfl _ _ _) rfl ?_
          exact ⟨⟨_, rfl⟩, .inr ⟨(comes zs).take (k + 1), ⟨List.take_prefix _ _, by rw [List.length_take, hkl, show min (k + 1) (min 50 zs.length) = k + 1 by omega]; exact hI3.out.box⟩, hJ3.out⟩⟩
      · have h50i : ¬ (k : Int) < 50 := by omega
        have he : (comes zs).take k = comes zs := List.take_of_length_le (by rw [comes_length]; omega)
        have hl : (comes zs).length = k := by rw [comes_length]; omega
        rw [he] at hJ
        gi_wp2
        go_end0
        exact ⟨⟨_, rfl⟩, .inl ⟨comes zs, ⟨rfl, by rw [hl]; exact hI.out.box⟩, hJ.out⟩⟩
    · have hki : ¬ (k : Int) < (zs.length : Int) := by omega
      have he : (comes zs).take k = comes zs := List.take_of_length_le (by rw [comes_length]; omega)
      have hl : (comes zs).length = k := by rw [comes_length]; omega
      rw [he] at hJ
      gi_wp2
      go_end0
      exact ⟨⟨_, rfl⟩, .inl ⟨comes zs, ⟨rfl, by rw [hl]; exact hI.out.box⟩, hJ.out⟩⟩
end Go.Proofs.Ytakgjoiloklfkaa.logic
