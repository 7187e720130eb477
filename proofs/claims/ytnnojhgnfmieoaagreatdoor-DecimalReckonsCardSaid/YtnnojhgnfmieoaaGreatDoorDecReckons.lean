/- Any two texts, decimals or not: order, sum, difference, product, quotient, every refusal: for every list of texts that may be read, where the listed variables of the library hold what the program's text lays. -/
import Derived.Test.YtnnojhgnfmieoaaGreatDoorDecVB
import Derived.Test.YtnnojhgnfmieoaaGreatDoorRefLaw
namespace Go.Proofs.YtnnojhgnfmieoaaGreatDoor.dec
open Go.ChangeShapes Go.WideShapes Go.ChangeAt Go.RowKit kit
set_option linter.unusedVariables false
set_option linter.unusedSimpArgs false
set_option maxRecDepth 100000 in
set_option maxHeartbeats 8000000 in
theorem reckons_any (b off len cap : Nat) (ss : List ByteArray) (sN : Value) (W : World) (hE : Env W) (hlen : len ≤ 9223372036854775807) (hb : b < W.heap.size)
    (hc : ∀ j, j < len → W.cell? ⟨b, off + j, none⟩ = some (.string (ss.getD j ByteArray.empty))) :
    Calls Tryz.prog 4 #[.agg #[.slice (some ⟨b, off, none⟩) len cap, sN]] W fun e w' => e = .returned (.bool true) ∧ Below W.heap.size W w' := by
  replace hc := Lib.hid hc
  replace hE := Lib.hid hE
  go_enter Tryz.func4, Tryz.ntmps4
  go_wp2
  go_loopw [3] (fun i wr => (∃ j : Nat, j ≤ len ∧ i = .int .i64 ((j : Int) + 1)) ∧ LW (VB W (.slice (some ⟨b, off, none⟩) len cap) sN) wr) (fun i _ => len + 2 - (intOf i).toNat)
  case atStart => exact ⟨⟨0, by omega, rfl⟩, VB.lw hE.out _ _⟩
  case round =>
    obtain ⟨⟨j, hj, rfl⟩, hlw⟩ := hrel
    obtain ⟨hp, _⟩ := hlw.box
    by_cases hlt : j + 1 < len
    · have i1 : (j : Int) + 1 < (len : Int) := by omega
      by_cases h12 : j + 1 < 12
      · have i2 : (j : Int) + 1 < 12 := by omega
        have ca := (hlw.old (p := ⟨b, off + j, none⟩) hb).trans (hc.out j (by omega))
        have cb := (hlw.old (p := ⟨b, off + (j + 1), none⟩) hb).trans (hc.out (j + 1) (by omega))
        generalize ss.getD j ByteArray.empty = A at ca
        generalize ss.getD (j + 1) ByteArray.empty = B at cb
        have e1 : ((j : Int) + 1).toNat = j + 1 := by omega
        have b0 : 0 ≤ (j : Int) + 1 := by omega
        have b2 : (j : Int) < (len : Int) := by omega
        go_upto_region 6 with fail
        clear ca cb hp e1 b0 b2
        cases h1 : sh A
        · go_wp2_with (go_at_call 7; refine (short_at _ (by assumption) _).mono ?_; rintro e w' ⟨rfl, rfl⟩)
          all_goals
            go_roundw
            case rel => first | exact ⟨⟨j + 1, by omega, by go_num⟩, by assumption⟩ | ((repeat apply Exists.intro); exact ⟨⟨⟨j + 1, by omega, by go_num⟩, by assumption⟩, rfl⟩)
            case measure => simp [intOf]; omega
        cases h2 : sh B
        · go_wp2_with (go_at_call 7; refine (short_at _ (by assumption) _).mono ?_; rintro e w' ⟨rfl, rfl⟩)
          all_goals
            go_roundw
            case rel => first | exact ⟨⟨j + 1, by omega, by go_num⟩, by assumption⟩ | ((repeat apply Exists.intro); exact ⟨⟨⟨j + 1, by omega, by go_num⟩, by assumption⟩, rfl⟩)
            case measure => simp [intOf]; omega
        obtain ⟨r1, hr1⟩ : ∃ r, cmpR A.data.toList B.data.toList = r := ⟨_, rfl⟩
        obtain ⟨r2, hr2⟩ : ∃ r, addR A.data.toList B.data.toList = r := ⟨_, rfl⟩
        obtain ⟨r3, hr3⟩ : ∃ r, subR A.data.toList B.data.toList = r := ⟨_, rfl⟩
        obtain ⟨r4, hr4⟩ : ∃ r, mulT A.data.toList B.data.toList = r := ⟨_, rfl⟩
        obtain ⟨r5, hr5⟩ : ∃ r, divT A.data.toList B.data.toList = r := ⟨_, rfl⟩
        obtain ⟨r6, hr6⟩ : ∃ r, negR A.data.toList = r := ⟨_, rfl⟩
        go_upto_region 7 with (go_at_call 7; refine (short_at _ (by assumption) _).mono ?_; rintro e w' ⟨rfl, rfl⟩)
        replace h1 := Lib.hid h1
        replace h2 := Lib.hid h2
        replace hr1 := Lib.hid hr1
        replace hr2 := Lib.hid hr2
        replace hr3 := Lib.hid hr3
        replace hr4 := Lib.hid hr4
        replace hr5 := Lib.hid hr5
        replace hr6 := Lib.hid hr6
        go_wp2_with (first | (go_at_call 10; refine (cmp_l A B r1 hr1.out (by assumption)).mono ?_; rintro e w' ⟨rfl, hlw⟩) | (go_at_call 11; refine (rcmp_l A B h1.out h2.out r1 hr1.out (by assumption)).mono ?_; rintro e w' ⟨rfl, hlw⟩) | (go_at_call 12; refine (add_l A B r2 hr2.out (by assumption)).mono ?_; rintro e w' ⟨rfl, hlw⟩) | (go_at_call 13; refine (radd_l A B h1.out h2.out r2 hr2.out (by assumption)).mono ?_; rintro e w' ⟨rfl, hlw⟩) | (go_at_call 14; refine (sub_l A B r3 hr3.out (by assumption)).mono ?_; rintro e w' ⟨rfl, hlw⟩) | (go_at_call 15; refine (rsub_l A B h1.out h2.out r3 hr3.out (by assumption)).mono ?_; rintro e w' ⟨rfl, hlw⟩) | (go_at_call 16; refine (mul_l A B r4 hr4.out (by assumption)).mono ?_; rintro e w' ⟨rfl, hlw⟩) | (go_at_call 17; refine (rmul_l A B h1.out h2.out r4 hr4.out (by assumption)).mono ?_; rintro e w' ⟨rfl, hlw⟩) | (go_at_call 18; refine (div_l A B r5 hr5.out (by assumption)).mono ?_; rintro e w' ⟨rfl, hlw⟩) | (go_at_call 19; refine (rdiv_l A B h1.out h2.out r5 hr5.out (by assumption)).mono ?_; rintro e w' ⟨rfl, hlw⟩) | (go_at_call 20; refine (neg_l A r6 hr6.out (by assumption)).mono ?_; rintro e w' ⟨rfl, hlw⟩) | (go_at_call 21; refine (rneg_l A h1.out r6 hr6.out (by assumption)).mono ?_; rintro e w' ⟨rfl, hlw⟩))
        all_goals
          go_roundw
          case rel => first | exact ⟨⟨j + 1, by omega, by go_num⟩, by assumption⟩ | ((repeat apply Exists.intro); exact ⟨⟨⟨j + 1, by omega, by go_num⟩, by assumption⟩, rfl⟩)
          case measure => simp [intOf]; omega
      · have i2 : ¬ ((j : Int) + 1 < 12) := by omega
        go_wp2_with (go_at_call 6; refine (wakes_l (by assumption)).mono ?_; rintro e w' ⟨rfl, hw⟩)
        go_ret
        exact ⟨rfl, hw.below⟩
    · have i1 : ¬ ((j : Int) + 1 < (len : Int)) := by omega
      go_wp2_with (go_at_call 6; refine (wakes_l (by assumption)).mono ?_; rintro e w' ⟨rfl, hw⟩)
      go_ret
      exact ⟨rfl, hw.below⟩
end Go.Proofs.YtnnojhgnfmieoaaGreatDoor.dec
