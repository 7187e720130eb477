/- Contracts of count and list: how many are in a set, and which. -/
import Derived.Test.YtnocncmjdhlmkaaHSet
namespace Go.Proofs.Ytnocncmjdhlmkaa.hyp
open Go.ChangeShapes Go.WideShapes Go.ChangeAt Go.RowKit kit
set_option linter.unusedVariables false
set_option linter.unusedSimpArgs false
def natsV (l : List Nat) : List Value := l.map fun (n : Nat) => .int .i64 (n : Int)
@[simp] theorem natsV_length (l : List Nat) : (natsV l).length = l.length := by simp [natsV]
theorem natsV_append (l m : List Nat) : natsV (l ++ m) = natsV l ++ natsV m := by simp [natsV]
def bitsTo (s k : Nat) : List Nat := (List.range k).filter fun i => s.testBit i
theorem bitsTo_succ (s k : Nat) : bitsTo s (k + 1) = if s.testBit k then bitsTo s k ++ [k] else bitsTo s k := by
  unfold bitsTo
  rw [List.range_succ, List.filter_append]
  cases h : s.testBit k <;> simp [h]
theorem bitsTo_le (s k : Nat) : (bitsTo s k).length ≤ k := by
  have := List.length_filter_le (fun i => s.testBit i) (List.range k)
  unfold bitsTo
  simpa using this
theorem bits_le (s : Nat) : (bits s).length ≤ 16 := bitsTo_le s 16
theorem infoVar : (Try.prog.info? 64).map (fun i => (i.zero, i.size, i.bytes)) = some (some (.int .i64 0), 1, 8) := by kernel_rfl
theorem infoEdge : (Try.prog.info? 94).map (fun i => (i.zero, i.size, i.bytes)) = some (some (.int .i64 0), 1, 8) := by kernel_rfl
set_option maxRecDepth 100000 in
theorem count_e (s : Nat) (w : World) (hs : s < 256) : Calls Try.prog 53 #[.int .u16 s] w fun e w' => e = .returned (.int .i64 ((pop s : Nat) : Int)) ∧ Below w.heap.size w w' := by
  have hc := Lib.hid (ones_any s w hs)
  go_enter Try.func53, Try.ntmps53
  go_wp2_with (go_at_call 58; refine hc.out.mono ?_; rintro e w' ⟨rfl, rfl⟩)
  go_ret
  exact ⟨rfl, ⟨rfl, rfl, rfl, Nat.le_refl _, fun _ _ => rfl⟩⟩
set_option maxRecDepth 100000 in
set_option maxHeartbeats 2000000 in
theorem list_v (s : Nat) (w : World) (hs : s < 65536) : Calls Try.prog 46 #[.int .u16 s] w fun e w' => ∃ v, e = .returned v ∧ OW 64 w w.heap.size v (natsV (bits s)) w' := by
  obtain ⟨i0, hi, hz0, hz1, hz2⟩ := info_parts infoVar
  replace hi := Lib.hid hi
  replace hz0 := Lib.hid hz0
  replace hz1 := Lib.hid hz1
  replace hz2 := Lib.hid hz2
  go_enter Try.func46, Try.ntmps46
  go_wp2
  go_loopw [3, 4] (fun l x wr => (∃ k : Nat, k ≤ 16 ∧ x = .int .i64 (k : Int) ∧ Hid (OW 64 w w.heap.size l (natsV (bitsTo s k)) wr))) (fun _ x _ => 16 - (intOf x).toNat)
  case atStart => exact ⟨0, by omega, rfl, Lib.hid (OW.start _ _ _)⟩
  case round =>
    obtain ⟨k, hk, rfl, hI⟩ := hrel
    by_cases hlt : k < 16
    · have hlti : (k : Int) < 16 := by omega
      have hkb : (natsV (bitsTo s k)).length ≤ k := by rw [natsV_length]; exact bitsTo_le s k
      have hIs := hI.out.below.size
      have hh := Lib.hid (has_v s k wr hs hlt)
      cases hb : s.testBit k with
      | true =>
        rw [hb] at hh
        have hst : natsV (bitsTo s (k + 1)) = natsV (bitsTo s k) ++ [.int .i64 (k : Int)] := by rw [bitsTo_succ, hb, if_pos rfl, natsV_append]; rfl
        replace hst := Lib.hid hst
        obtain ⟨L, hL⟩ : ∃ L, natsV (bitsTo s k) = L := ⟨_, rfl⟩
        rw [hL] at hkb hI hst
        clear hL hb
        have hown := hI.out.own
        go_wp2_with (first | (go_at_call 32; refine hh.out.mono ?_; rintro e w' ⟨rfl, rfl⟩) | (at_builtin; refine wpList_append_own _ rfl _ _ 85 rfl w.heap.size 64 i0 (.int .i64 0) 1 8 Try.underlying85 hi.out hz0.out hz1.out hz2.out rfl (by decide) _ (L).length (L) rfl (hown.alloc _) _ 1 _ [.int .i64 (k : Int)] rfl rfl ?c1 ?c2 ?c3 ?c4 ?c5 ?c6))
        case c1 => exact news_one _ _ _
        case c2 => simp [Value.oneCell']
        case c3 => simp only [maxLen]; omega
        case c4 => omega
        case c5 => simp; omega
        case c6 =>
          intro v' w1 h1 h2 _
          have hI2 := hI.out.step hIs _ _ h1 h2
          rw [← hst.out] at hI2
          go_wp2
          refine ⟨⟨k + 1, by omega, by go_num, Lib.hid hI2⟩, ?_⟩
          simp only [intOf]; omega
      | false =>
        rw [hb] at hh
        have hst : natsV (bitsTo s (k + 1)) = natsV (bitsTo s k) := by rw [bitsTo_succ, hb]; rfl
        have hI2 := hI
        rw [← hst] at hI2
        clear hI
        go_wp2_with (first | (go_at_call 32; refine hh.out.mono ?_; rintro e w' ⟨rfl, rfl⟩))
        refine ⟨⟨k + 1, by omega, by go_num, hI2⟩, ?_⟩
        simp only [intOf]; omega
    · have hlti : ¬ (k : Int) < 16 := by omega
      obtain rfl : k = 16 := by omega
      go_wp2
      go_ret
      exact ⟨_, rfl, hI.out⟩
set_option maxRecDepth 100000 in
set_option maxHeartbeats 2000000 in
theorem list_e (s : Nat) (w : World) (hs : s < 65536) : Calls Try.prog 56 #[.int .u16 s] w fun e w' => ∃ v, e = .returned v ∧ OW 94 w w.heap.size v (natsV (bits s)) w' := by
  obtain ⟨i0, hi, hz0, hz1, hz2⟩ := info_parts infoEdge
  replace hi := Lib.hid hi
  replace hz0 := Lib.hid hz0
  replace hz1 := Lib.hid hz1
  replace hz2 := Lib.hid hz2
  go_enter Try.func56, Try.ntmps56
  go_wp2
  go_loopw [3, 4] (fun l x wr => (∃ k : Nat, k ≤ 16 ∧ x = .int .i64 (k : Int) ∧ Hid (OW 94 w w.heap.size l (natsV (bitsTo s k)) wr))) (fun _ x _ => 16 - (intOf x).toNat)
  case atStart => exact ⟨0, by omega, rfl, Lib.hid (OW.start _ _ _)⟩
  case round =>
    obtain ⟨k, hk, rfl, hI⟩ := hrel
    by_cases hlt : k < 16
    · have hlti : (k : Int) < 16 := by omega
      have hkb : (natsV (bitsTo s k)).length ≤ k := by rw [natsV_length]; exact bitsTo_le s k
      have hIs := hI.out.below.size
      have hh := Lib.hid (has_e s k wr hs hlt)
      cases hb : s.testBit k with
      | true =>
        rw [hb] at hh
        have hst : natsV (bitsTo s (k + 1)) = natsV (bitsTo s k) ++ [.int .i64 (k : Int)] := by rw [bitsTo_succ, hb, if_pos rfl, natsV_append]; rfl
        replace hst := Lib.hid hst
        obtain ⟨L, hL⟩ : ∃ L, natsV (bitsTo s k) = L := ⟨_, rfl⟩
        rw [hL] at hkb hI hst
        clear hL hb
        have hown := hI.out.own
        go_wp2_with (first | (go_at_call 59; refine hh.out.mono ?_; rintro e w' ⟨rfl, rfl⟩) | (at_builtin; refine wpList_append_own _ rfl _ _ 96 rfl w.heap.size 94 i0 (.int .i64 0) 1 8 Try.underlying96 hi.out hz0.out hz1.out hz2.out rfl (by decide) _ (L).length (L) rfl (hown.alloc _) _ 1 _ [.int .i64 (k : Int)] rfl rfl ?c1 ?c2 ?c3 ?c4 ?c5 ?c6))
        case c1 => exact news_one _ _ _
        case c2 => simp [Value.oneCell']
        case c3 => simp only [maxLen]; omega
        case c4 => omega
        case c5 => simp; omega
        case c6 =>
          intro v' w1 h1 h2 _
          have hI2 := hI.out.step hIs _ _ h1 h2
          rw [← hst.out] at hI2
          go_wp2
          refine ⟨⟨k + 1, by omega, by go_num, Lib.hid hI2⟩, ?_⟩
          simp only [intOf]; omega
      | false =>
        rw [hb] at hh
        have hst : natsV (bitsTo s (k + 1)) = natsV (bitsTo s k) := by rw [bitsTo_succ, hb]; rfl
        have hI2 := hI
        rw [← hst] at hI2
        clear hI
        go_wp2_with (first | (go_at_call 59; refine hh.out.mono ?_; rintro e w' ⟨rfl, rfl⟩))
        refine ⟨⟨k + 1, by omega, by go_num, hI2⟩, ?_⟩
        simp only [intOf]; omega
    · have hlti : ¬ (k : Int) < 16 := by omega
      obtain rfl : k = 16 := by omega
      go_wp2
      go_ret
      exact ⟨_, rfl, hI.out⟩
end Go.Proofs.Ytnocncmjdhlmkaa.hyp
