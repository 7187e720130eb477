/- Any lists: the exact sum, whatever stands between, or the refusal: for every list of texts that may be read, where the listed variables of the library hold what the program's text lays. -/
import Derived.Test.YtnnojhgnfmieoaaGreatDoorDecVB
import Derived.Test.YtnnojhgnfmieoaaGreatDoorRefSum
namespace Go.Proofs.YtnnojhgnfmieoaaGreatDoor.dec
open Go.ChangeShapes Go.WideShapes Go.ChangeAt Go.RowKit kit
set_option linter.unusedVariables false
set_option linter.unusedSimpArgs false
theorem sh_le2 {s : ByteArray} (h : sh s = true) : s.size ≤ 50000 := by
  have := of_decide_eq_true h
  omega
/-- A list of texts of just that length. -/
theorem texts_len (P : Nat → ByteArray → Prop) (len : Nat) (ss : List ByteArray) (h : ∀ j, j < len → P j (ss.getD j ByteArray.empty)) : ∃ tt : List ByteArray, tt.length = len ∧ ∀ j, j < tt.length → P j (tt.getD j ByteArray.empty) := by
  refine ⟨(List.range len).map fun j => ss.getD j ByteArray.empty, by simp, fun j hj => ?_⟩
  have hj' : j < len := by simpa using hj
  have e : ((List.range len).map fun j => ss.getD j ByteArray.empty).getD j ByteArray.empty = ss.getD j ByteArray.empty := by
    rw [List.getD_eq_getElem?_getD, List.getElem?_map, List.getElem?_range hj']
    rfl
  rw [e]
  exact h j hj'
/-- A slice of texts: where they lie. -/
def TextsAt (W : World) (ao : Option Addr) (ss : List ByteArray) : Prop := ∀ j, j < ss.length → ∃ b off, ao = some ⟨b, off, none⟩ ∧ b < W.heap.size ∧ W.cell? ⟨b, off + j, none⟩ = some (.string (ss.getD j ByteArray.empty))
theorem TextsAt.on {W w : World} {sL sN : Value} {ao : Option Addr} {ss : List ByteArray} (h : TextsAt W ao ss) (hl : LW (VB W sL sN) w) : TextsAt w ao ss := fun j hj => by
  obtain ⟨b, off, ha, hb, hc⟩ := h j hj
  exact ⟨b, off, ha, Nat.lt_of_lt_of_le hb hl.below.size, (hl.old (p := ⟨b, off + j, none⟩) hb).trans hc⟩
section
variable {V w : World}
theorem sum_l (ao : Option Addr) (cap : Nat) (ss : List ByteArray) (hlen : ss.length ≤ 200) (hc : TextsAt w ao ss) (r : List UInt8 × Int) (hr : sumR ss = r) (h : LW V w) : Calls Tryz.prog 8 #[.slice ao ss.length cap] w fun e w' => e = .returned (.tuple #[.string (tx r.1), .int .i64 r.2]) ∧ LW V w' := hr ▸ (sum_gen ao cap ss w h.env (by omega) hc).mono fun e w' ⟨he, hb⟩ => ⟨he, h.step hb⟩
theorem rsum_l (ao : Option Addr) (cap : Nat) (ss : List ByteArray) (hlen : ss.length ≤ 200) (hsz : ∀ j, j < ss.length → sh (ss.getD j ByteArray.empty) = true) (hc : TextsAt w ao ss) (r : List UInt8 × Int) (hr : sumR ss = r) (h : LW V w) : Calls Tryz.prog 9 #[.slice ao ss.length cap] w fun e w' => e = .returned (.tuple #[.string (tx r.1), .int .i64 r.2]) ∧ LW V w' := hr ▸ (refsum_gen ao cap ss w hlen hc (fun j hj => sh_le2 (hsz j hj))).mono fun e w' ⟨he, hb⟩ => ⟨he, h.step hb⟩
end
set_option maxRecDepth 100000 in
set_option maxHeartbeats 8000000 in
theorem sums_any (ao : Option Addr) (cap : Nat) (ss : List ByteArray) (sN : Value) (W : World) (hE : Env W) (hlen : ss.length ≤ 9223372036854775807) (hc : TextsAt W ao ss) :
    Calls Tryz.prog 3 #[.agg #[.slice ao ss.length cap, sN]] W fun e w' => e = .returned (.bool true) ∧ Below W.heap.size W w' := by
  replace hc := Lib.hid hc
  have hl0 := VB.lw hE (.slice ao ss.length cap) sN
  clear hE
  by_cases h2 : 200 < ss.length
  · have h2i : (200 : Int) < (ss.length : Int) := by omega
    go_enter Tryz.func3, Tryz.ntmps3
    go_wp2_with (go_at_call 6; refine (wakes_l hl0).mono ?_; rintro e w' ⟨rfl, hw⟩)
    go_ret
    exact ⟨rfl, hw.below⟩
  · have h2i : ¬ ((200 : Int) < (ss.length : Int)) := by omega
    go_enter Tryz.func3, Tryz.ntmps3
    go_wp2
    go_loopw [3] (fun i wr => (∃ j : Nat, j ≤ ss.length ∧ i = .int .i64 j ∧ Hid (∀ k, k < j → sh (ss.getD k ByteArray.empty) = true)) ∧ LW (VB W (.slice ao ss.length cap) sN) wr) (fun i _ => ss.length - (intOf i).toNat)
    case atStart => exact ⟨⟨0, by omega, rfl, fun k hk => by omega⟩, hl0⟩
    case round =>
      obtain ⟨⟨j, hj, rfl, hs⟩, hlw⟩ := hrel
      obtain ⟨hp, _⟩ := hlw.box
      clear hl0
      by_cases hlt : j < ss.length
      · have i1 : (j : Int) < (ss.length : Int) := by omega
        obtain ⟨b, off, rfl, hb, hc0⟩ := hc.out j hlt
        have ca := (hlw.old (p := ⟨b, off + j, none⟩) hb).trans hc0
        have hs1 : sh (ss.getD j ByteArray.empty) = true → ∀ k, k < j + 1 → sh (ss.getD k ByteArray.empty) = true := fun h k hk => by
          rcases Nat.lt_or_ge k j with e | e
          · exact hs.out k e
          · rw [show k = j by omega]; exact h
        clear hc0 hs
        generalize ss.getD j ByteArray.empty = A at ca hs1
        cases h1 : sh A
        · clear hs1
          go_wp2_with (first | (go_at_call 7; refine (short_at _ h1 _).mono ?_; rintro e w' ⟨rfl, rfl⟩) | (go_at_call 6; refine (wakes_l hlw).mono ?_; rintro e w' ⟨rfl, hw⟩))
          go_ret
          exact ⟨rfl, hw.below⟩
        · replace hs1 := Lib.hid (hs1 h1)
          go_wp2_with (go_at_call 7; refine (short_at _ h1 _).mono ?_; rintro e w' ⟨rfl, rfl⟩)
          go_roundw
          case rel => exact ⟨⟨j + 1, by omega, by go_num, hs1.out⟩, hlw⟩
          case measure => simp [intOf]; omega
      · obtain rfl : j = ss.length := by omega
        obtain ⟨r, hr⟩ : ∃ r, sumR ss = r := ⟨_, rfl⟩
        replace hr := Lib.hid hr
        have hlen2 : ss.length ≤ 200 := by omega
        go_wp2_with fail
        refine (sum_l ao cap ss hlen2 (hc.out.on hlw) r hr.out hlw).mono ?_
        rintro e w1 ⟨rfl, hl1⟩
        obtain ⟨hp1, _⟩ := hl1.box
        clear hp
        go_wp2_with fail
        refine (rsum_l ao cap ss hlen2 hs.out (hc.out.on hl1) r hr.out hl1).mono ?_
        rintro e w2 ⟨rfl, hl2⟩
        go_wp2_with (go_at_call 6; refine (wakes_l hl2).mono ?_; rintro e w' ⟨rfl, hw⟩)
        go_ret
        exact ⟨rfl, hw.below⟩
end Go.Proofs.YtnnojhgnfmieoaaGreatDoor.dec
