/- A quotient times its divisor is not more, in amount, than what was divided, and less than it by less than the divisor's share of the last digit: the walk. -/
import Derived.Test.YtnnojhgnfmieoaaDoorDecOrder
namespace Go.Proofs.YtnnojhgnfmieoaaDoor.dec
open Go.ChangeShapes Go.WideShapes Go.ChangeAt Go.RowKit kit
set_option linter.unusedVariables false
set_option linter.unusedSimpArgs false
theorem cuts_fact (x y m bd : Int) (hy : y ≠ 0) (hm : quo x y * y = m * E20) (hb : y * 1 = bd * E20) : m.natAbs ≤ x.natAbs ∧ (x - m).natAbs < bd.natAbs := by
  have hp := E20_pos
  have hq : quo x y = signed (decide (x < 0) != decide (y < 0)) (x.natAbs * E20 / y.natAbs) := rfl
  generalize E20 = E at *
  have hE : (E : Int) ≠ 0 := by omega
  obtain ⟨Q, hQ⟩ : ∃ Q, x.natAbs * E / y.natAbs = Q := ⟨_, rfl⟩
  rw [hQ] at hq
  have hs : quo x y * y = signed (decide (x < 0)) (Q * y.natAbs) := by
    have h1 := signed_mul (decide (x < 0) != decide (y < 0)) (decide (y < 0)) Q y.natAbs
    rw [signed_self, ← hq] at h1
    rw [← h1]
    congr 1
    cases decide (x < 0) <;> cases decide (y < 0) <;> rfl
  have hdm := Nat.div_add_mod (x.natAbs * E) y.natAbs
  have hlt := Nat.mod_lt (x.natAbs * E) (show 0 < y.natAbs by omega)
  rw [hQ] at hdm
  have hM : Q * y.natAbs = m.natAbs * E := by
    have := congrArg Int.natAbs (hs.symm.trans hm)
    rwa [signed_natAbs, Int.natAbs_mul, Int.natAbs_natCast] at this
  have hB : y.natAbs = bd.natAbs * E := by
    have := congrArg Int.natAbs hb
    rwa [Int.mul_one, Int.natAbs_mul, Int.natAbs_natCast] at this
  have hsm : m = signed (decide (x < 0)) m.natAbs := by
    have h1 : signed (decide (x < 0)) (m.natAbs * E) = m * E := by rw [← hM]; exact hs.symm.trans hm
    have h2 : signed (decide (x < 0)) (m.natAbs * E) = signed (decide (x < 0)) m.natAbs * E := by
      unfold signed; cases decide (x < 0) <;> simp [Int.neg_mul]
    exact (Int.eq_of_mul_eq_mul_right hE (h2.symm.trans h1)).symm
  rw [Nat.mul_comm, hM] at hdm
  have hle : m.natAbs ≤ x.natAbs := by
    apply Classical.byContradiction
    intro hc
    have : (x.natAbs + 1) * E ≤ m.natAbs * E := Nat.mul_le_mul_right _ (by omega)
    rw [Nat.succ_mul] at this
    omega
  refine ⟨hle, ?_⟩
  have hd : (x - m).natAbs = x.natAbs - m.natAbs := by
    unfold signed at hsm
    by_cases hx : x < 0
    · rw [decide_eq_true hx, if_pos rfl] at hsm; omega
    · rw [decide_eq_false hx, if_neg (by decide)] at hsm; omega
  rw [hd]
  apply Classical.byContradiction
  intro hc
  have h1 : bd.natAbs * E ≤ (x.natAbs - m.natAbs) * E := Nat.mul_le_mul_right _ (by omega)
  rw [Nat.sub_mul] at h1
  omega
theorem small_abs {z : Int} (h : small z) : small (z.natAbs : Int) := by unfold small at *; omega
theorem cmpI_abs {x m : Int} (h : m.natAbs ≤ x.natAbs) : ¬ (0 < cmpI (m.natAbs : Int) (x.natAbs : Int)) := by unfold cmpI; split <;> (try split) <;> omega
theorem cmpI_lt {x m : Int} (h : m.natAbs < x.natAbs) : cmpI (m.natAbs : Int) (x.natAbs : Int) = -1 := by unfold cmpI; rw [if_neg (by omega), if_pos (by omega)]
section
variable {V w : World}
set_option maxRecDepth 100000 in
theorem abs_z {z : Int} (hz : small z) (h : LW V w) : Calls Tryd.prog 17 #[.string (tx (canon z))] w fun e w' => e = .returned (.string (tx (canon (z.natAbs : Int)))) ∧ LW V w' := by
  by_cases hn : z < 0
  · have hc : cmpI z 0 = -1 := by unfold cmpI; rw [if_neg (by omega), if_pos hn]
    have ha : -z = (z.natAbs : Int) := by omega
    have hcm := fun (w : World) (h : LW V w) => cmp_0 hz h
    have hng := fun (w : World) (h : LW V w) => neg_z hz h
    rw [hc] at hcm
    rw [ha] at hng
    clear hn hc ha
    replace hcm := Lib.hid hcm
    replace hng := Lib.hid hng
    go_enter Tryd.func17, Tryd.ntmps17
    go_wp2_with (first | (go_at_call 9; refine (hcm.out _ (by assumption)).mono ?_; rintro e w' ⟨rfl, hlw⟩) | (go_at_call 16; refine (hng.out _ (by assumption)).mono ?_; rintro e w' ⟨rfl, hlw⟩))
    go_ret
    exact ⟨rfl, by assumption⟩
  · have hc : 0 ≤ cmpI z 0 := by unfold cmpI; split <;> (try split) <;> omega
    have ha : (z.natAbs : Int) = z := by omega
    have hcm := fun (w : World) (h : LW V w) => cmp_0 hz h
    rw [ha]
    generalize cmpI z 0 = c at *
    clear hn ha
    replace hcm := Lib.hid hcm
    go_enter Tryd.func17, Tryd.ntmps17
    go_wp2_with (go_at_call 9; refine (hcm.out _ (by assumption)).mono ?_; rintro e w' ⟨rfl, hlw⟩)
    go_ret
    exact ⟨rfl, by assumption⟩
end
theorem c1 : canon 1 = [48, 46, 48, 48, 48, 48, 48, 48, 48, 48, 48, 48, 48, 48, 48, 48, 48, 48, 48, 48, 48, 49] := by kernel_rfl
set_option maxRecDepth 100000 in
set_option maxHeartbeats 8000000 in
theorem cuts_any (b off len cap : Nat) (ss : List ByteArray) (sN : Value) (W : World) (hE : Env W) (hlen : len ≤ 9223372036854775807) (hb : b < W.heap.size)
    (hc : ∀ j, j < len → W.cell? ⟨b, off + j, none⟩ = some (.string (ss.getD j ByteArray.empty))) :
    Calls Tryd.prog 5 #[.agg #[.slice (some ⟨b, off, none⟩) len cap, sN]] W fun e w' => e = .returned (.bool true) ∧ Below W.heap.size W w' := by
  replace hc := Lib.hid hc
  replace hE := Lib.hid hE
  go_enter Tryd.func5, Tryd.ntmps5
  go_wp2
  go_loopw [3] (fun i wr => (∃ j : Nat, j ≤ len ∧ i = .int .i64 ((j : Int) + 1)) ∧ LW (VB W (.slice (some ⟨b, off, none⟩) len cap) sN) wr) (fun i _ => len + 2 - (intOf i).toNat)
  case atStart => exact ⟨⟨0, by omega, rfl⟩, VB.lw hE.out _ _⟩
  case round =>
    obtain ⟨⟨j, hj, rfl⟩, hlw⟩ := hrel
    obtain ⟨hp, _⟩ := hlw.box
    by_cases hlt : j + 1 < len
    · have i1 : (j : Int) + 1 < (len : Int) := by omega
      by_cases h12 : j + 1 < 12
      · have i2 : (j : Int) + 1 < 12 := by omega
        have ca := (hlw.old (p := ⟨b, off + j, none⟩) hb).trans (hc.out j (by omega))
        have cb := (hlw.old (p := ⟨b, off + (j + 1), none⟩) hb).trans (hc.out (j + 1) (by omega))
        generalize ss.getD j ByteArray.empty = A at ca
        generalize ss.getD (j + 1) ByteArray.empty = B at cb
        go_upto_region 4 with fail
        go_cut [4, 5] (fun v4 v5 wx => v4 = .string A ∧ v5 = .string B ∧ LW (VB W (.slice (some ⟨b, off, none⟩) len cap) sN) wx)
        case first =>
          as_aux_lemma =>
            have e1 : IntKind.i64.wrap ((j : Int) + 1 - 1) = (j : Int) := by rw [IntWalk.i64_in _ (by omega)]; omega
            have e4 : ((j : Int) + 1).toNat = j + 1 := by omega
            have b0 : 0 ≤ (j : Int) + 1 := by omega
            have b2 : (j : Int) < (len : Int) := by omega
            go_quiet (fail)
            go_wp2
            go_meet
            exact ⟨rfl, rfl, hlw.drewN nq⟩
        obtain ⟨rfl, rfl, hl1⟩ := hcut
        clear ca cb hp
        cases h1 : sh A
        ·
          go_wp2_with (first | (go_at_call 7; refine (short_at _ (by assumption) _).mono ?_; rintro e w' ⟨rfl, rfl⟩) | (go_at_call 8; refine (chk_at _ (by assumption) (by assumption)).mono ?_; rintro e w' ⟨rfl, hlw⟩))
          all_goals
            go_roundw
            case rel => first | exact ⟨⟨j + 1, by omega, by go_num⟩, by assumption⟩ | ((repeat apply Exists.intro); exact ⟨⟨⟨j + 1, by omega, by go_num⟩, by assumption⟩, rfl⟩)
            case measure => simp [intOf]; omega
        cases h2 : sh B
        ·
          go_wp2_with (first | (go_at_call 7; refine (short_at _ (by assumption) _).mono ?_; rintro e w' ⟨rfl, rfl⟩) | (go_at_call 8; refine (chk_at _ (by assumption) (by assumption)).mono ?_; rintro e w' ⟨rfl, hlw⟩))
          all_goals
            go_roundw
            case rel => first | exact ⟨⟨j + 1, by omega, by go_num⟩, by assumption⟩ | ((repeat apply Exists.intro); exact ⟨⟨⟨j + 1, by omega, by go_num⟩, by assumption⟩, rfl⟩)
            case measure => simp [intOf]; omega
        cases h3 : chk A.data.toList
        ·
          go_wp2_with (first | (go_at_call 7; refine (short_at _ (by assumption) _).mono ?_; rintro e w' ⟨rfl, rfl⟩) | (go_at_call 8; refine (chk_at _ (by assumption) (by assumption)).mono ?_; rintro e w' ⟨rfl, hlw⟩))
          all_goals
            go_roundw
            case rel => first | exact ⟨⟨j + 1, by omega, by go_num⟩, by assumption⟩ | ((repeat apply Exists.intro); exact ⟨⟨⟨j + 1, by omega, by go_num⟩, by assumption⟩, rfl⟩)
            case measure => simp [intOf]; omega
        cases h4 : chk B.data.toList
        ·
          go_wp2_with (first | (go_at_call 7; refine (short_at _ (by assumption) _).mono ?_; rintro e w' ⟨rfl, rfl⟩) | (go_at_call 8; refine (chk_at _ (by assumption) (by assumption)).mono ?_; rintro e w' ⟨rfl, hlw⟩))
          all_goals
            go_roundw
            case rel => first | exact ⟨⟨j + 1, by omega, by go_num⟩, by assumption⟩ | ((repeat apply Exists.intro); exact ⟨⟨⟨j + 1, by omega, by go_num⟩, by assumption⟩, rfl⟩)
            case measure => simp [intOf]; omega
        cases h5 : (B.toList == [48, 46, 48])
        case true =>
          go_wp2_with (first | (go_at_call 7; refine (short_at _ (by assumption) _).mono ?_; rintro e w' ⟨rfl, rfl⟩) | (go_at_call 8; refine (chk_at _ (by assumption) (by assumption)).mono ?_; rintro e w' ⟨rfl, hlw⟩))
          all_goals
            go_roundw
            case rel => first | exact ⟨⟨j + 1, by omega, by go_num⟩, by assumption⟩ | ((repeat apply Exists.intro); exact ⟨⟨⟨j + 1, by omega, by go_num⟩, by assumption⟩, rfl⟩)
            case measure => simp [intOf]; omega
        by_cases hs1 : 12 < B.size
        · have hs1i : (12 : Int) < (B.size : Int) := by omega
          go_wp2_with (first | (go_at_call 7; refine (short_at _ (by assumption) _).mono ?_; rintro e w' ⟨rfl, rfl⟩) | (go_at_call 8; refine (chk_at _ (by assumption) (by assumption)).mono ?_; rintro e w' ⟨rfl, hlw⟩))
          all_goals
            go_roundw
            case rel => first | exact ⟨⟨j + 1, by omega, by go_num⟩, by assumption⟩ | ((repeat apply Exists.intro); exact ⟨⟨⟨j + 1, by omega, by go_num⟩, by assumption⟩, rfl⟩)
            case measure => simp [intOf]; omega
        have hs1i : ¬ ((12 : Int) < (B.size : Int)) := by omega
        by_cases hs2 : 30 < A.size
        · have hs2i : (30 : Int) < (A.size : Int) := by omega
          go_wp2_with (first | (go_at_call 7; refine (short_at _ (by assumption) _).mono ?_; rintro e w' ⟨rfl, rfl⟩) | (go_at_call 8; refine (chk_at _ (by assumption) (by assumption)).mono ?_; rintro e w' ⟨rfl, hlw⟩))
          all_goals
            go_roundw
            case rel => first | exact ⟨⟨j + 1, by omega, by go_num⟩, by assumption⟩ | ((repeat apply Exists.intro); exact ⟨⟨⟨j + 1, by omega, by go_num⟩, by assumption⟩, rfl⟩)
            case measure => simp [intOf]; omega
        have hs2i : ¬ ((30 : Int) < (A.size : Int)) := by omega
        go_upto_region 6 with (first | (go_at_call 7; refine (short_at _ (by assumption) _).mono ?_; rintro e w' ⟨rfl, rfl⟩) | (go_at_call 8; refine (chk_at _ (by assumption) (by assumption)).mono ?_; rintro e w' ⟨rfl, hlw⟩))
        obtain ⟨x, hx, rfl⟩ := chk_z h3
        obtain ⟨y, hy, rfl⟩ := chk_z h4
        have hy0 : y ≠ 0 := by
          intro e
          rw [tx_toList, e, canon_0] at h5
          exact absurd h5 (by decide)
        replace hy0 := Lib.hid hy0
        clear hs1 hs2 hs1i hs2i h1 h2 h3 h4 h5
        obtain ⟨⟨l1, e1⟩, hr1⟩ : ∃ r, txt (quo x y) = r := ⟨_, rfl⟩
        replace hr1 := Lib.hid hr1
        go_upto_region 7 with (first | (go_at_call 15; refine (div_l _ _ (l1, e1) ((divT_z hx hy hy0.out).trans hr1.out) (by assumption)).mono ?_; rintro e w' ⟨rfl, hlw⟩))
        by_cases hsq : small (quo x y)
        case neg =>
          obtain ⟨rfl, rfl⟩ := Prod.mk.inj (hr1.out.symm.trans (txt_no hsq))
          go_wp2_with (first | (go_at_call 7; refine (short_at _ (by assumption) _).mono ?_; rintro e w' ⟨rfl, rfl⟩) | (go_at_call 8; refine (chk_at _ (by assumption) (by assumption)).mono ?_; rintro e w' ⟨rfl, hlw⟩))
          all_goals
            go_roundw
            case rel => first | exact ⟨⟨j + 1, by omega, by go_num⟩, by assumption⟩ | ((repeat apply Exists.intro); exact ⟨⟨⟨j + 1, by omega, by go_num⟩, by assumption⟩, rfl⟩)
            case measure => simp [intOf]; omega
        obtain ⟨rfl, rfl⟩ := Prod.mk.inj (hr1.out.symm.trans (txt_ok hsq))
        obtain ⟨⟨l2, e2⟩, hr2⟩ : ∃ r, mulR (quo x y) y = r := ⟨_, rfl⟩
        replace hr2 := Lib.hid hr2
        go_upto_region 9 with (first | (go_at_call 14; refine (mul_l _ _ (l2, e2) ((mulT_z hsq hy).trans hr2.out) (by assumption)).mono ?_; rintro e w' ⟨rfl, hlw⟩))
        by_cases he2 : e2 = 0
        case neg =>
          have hb1 : (e2 != 0) = true := by simpa using he2
          clear he2
          go_wp2_with (first | (go_at_call 7; refine (short_at _ (by assumption) _).mono ?_; rintro e w' ⟨rfl, rfl⟩) | (go_at_call 8; refine (chk_at _ (by assumption) (by assumption)).mono ?_; rintro e w' ⟨rfl, hlw⟩))
          all_goals
            go_roundw
            case rel => first | exact ⟨⟨j + 1, by omega, by go_num⟩, by assumption⟩ | ((repeat apply Exists.intro); exact ⟨⟨⟨j + 1, by omega, by go_num⟩, by assumption⟩, rfl⟩)
            case measure => simp [intOf]; omega
        obtain ⟨m, hqm, hsm, hmm⟩ := mulR_ok (x := quo x y) (y := y) (by rw [hr2.out]; exact he2)
        obtain ⟨rfl, rfl⟩ := Prod.mk.inj (hr2.out.symm.trans hmm)
        clear he2 hmm hr2
        replace hqm := Lib.hid hqm
        obtain ⟨⟨l3, e3⟩, hr3⟩ : ∃ r, txt (x - m) = r := ⟨_, rfl⟩
        replace hr3 := Lib.hid hr3
        obtain ⟨⟨l4, e4⟩, hr4⟩ : ∃ r, mulR y 1 = r := ⟨_, rfl⟩
        replace hr4 := Lib.hid hr4
        have hr5 : mulT (tx (canon y)).data.toList (⟨#[48, 46, 48, 48, 48, 48, 48, 48, 48, 48, 48, 48, 48, 48, 48, 48, 48, 48, 48, 48, 48, 49]⟩ : ByteArray).data.toList = (l4, e4) := by
          show mulT (canon y) [48, 46, 48, 48, 48, 48, 48, 48, 48, 48, 48, 48, 48, 48, 48, 48, 48, 48, 48, 48, 48, 49] = _
          rw [← c1, mulT_z hy (sm 1 (by decide))]
          exact hr4.out
        replace hr5 := Lib.hid hr5
        go_upto_region 11 with (first | (go_at_call 10; refine (sub_l _ _ (l3, e3) ((subR_z hx hsm).trans hr3.out) (by assumption)).mono ?_; rintro e w' ⟨rfl, hlw⟩))
        go_upto_region 12 with (first | (go_at_call 14; refine (mul_l _ _ (l4, e4) hr5.out (by assumption)).mono ?_; rintro e w' ⟨rfl, hlw⟩))
        by_cases hs3 : small (x - m)
        case neg =>
          obtain ⟨rfl, rfl⟩ := Prod.mk.inj (hr3.out.symm.trans (txt_no hs3))
          go_wp2_with (first | (go_at_call 7; refine (short_at _ (by assumption) _).mono ?_; rintro e w' ⟨rfl, rfl⟩) | (go_at_call 8; refine (chk_at _ (by assumption) (by assumption)).mono ?_; rintro e w' ⟨rfl, hlw⟩))
          all_goals
            go_roundw
            case rel => first | exact ⟨⟨j + 1, by omega, by go_num⟩, by assumption⟩ | ((repeat apply Exists.intro); exact ⟨⟨⟨j + 1, by omega, by go_num⟩, by assumption⟩, rfl⟩)
            case measure => simp [intOf]; omega
        obtain ⟨rfl, rfl⟩ := Prod.mk.inj (hr3.out.symm.trans (txt_ok hs3))
        by_cases he4 : e4 = 0
        case neg =>
          have hb1 : (e4 != 0) = true := by simpa using he4
          clear he4
          go_wp2_with (first | (go_at_call 7; refine (short_at _ (by assumption) _).mono ?_; rintro e w' ⟨rfl, rfl⟩) | (go_at_call 8; refine (chk_at _ (by assumption) (by assumption)).mono ?_; rintro e w' ⟨rfl, hlw⟩))
          all_goals
            go_roundw
            case rel => first | exact ⟨⟨j + 1, by omega, by go_num⟩, by assumption⟩ | ((repeat apply Exists.intro); exact ⟨⟨⟨j + 1, by omega, by go_num⟩, by assumption⟩, rfl⟩)
            case measure => simp [intOf]; omega
        obtain ⟨bd, hqb, hsb, hbb⟩ := mulR_ok (x := y) (y := 1) (by rw [hr4.out]; exact he4)
        obtain ⟨rfl, rfl⟩ := Prod.mk.inj (hr4.out.symm.trans hbb)
        obtain ⟨k1, k2⟩ := cuts_fact x y m bd hy0.out hqm.out hqb
        have k3 := cmpI_abs k1
        have k4 := cmpI_lt k2
        clear he4 hbb hr4 hr5 hqb k1 k2
        go_upto_region 13 with (fail)
        go_cut [112] (fun v wx => v = .bool false ∧ LW (VB W (.slice (some ⟨b, off, none⟩) len cap) sN) wx)
        case first =>
          as_aux_lemma =>
            have hcA := fun (w : World) (h : LW (VB W (.slice (some ⟨b, off, none⟩) len cap) sN) w) => cmp_z (small_abs hsm) (small_abs hx) h
            have hcB := fun (w : World) (h : LW (VB W (.slice (some ⟨b, off, none⟩) len cap) sN) w) => cmp_z (small_abs hs3) (small_abs hsb) h
            rw [k4] at hcB
            generalize cmpI (m.natAbs : Int) (x.natAbs : Int) = c at *
            clear k4
            replace hcA := Lib.hid hcA
            replace hcB := Lib.hid hcB
            go_wp2_with (first
              | (go_at_call 17; refine (abs_z (by assumption) (by assumption)).mono ?_; rintro e w' ⟨rfl, hlw⟩)
              | (go_at_call_of 9 (Value.string (tx (canon (m.natAbs : Int)))); refine (hcA.out _ (by assumption)).mono ?_; rintro e w' ⟨rfl, hlw⟩)
              | (go_at_call 9; refine (hcB.out _ (by assumption)).mono ?_; rintro e w' ⟨rfl, hlw⟩))
            go_meet
            exact ⟨congrArg Value.bool (decide_eq_false (by omega)), by assumption⟩
        case rest =>
          obtain ⟨rfl, hl13⟩ := hcut
          clear k3 k4
          go_wp2
          go_roundw
          case rel => exact ⟨⟨j + 1, by omega, by go_num⟩, by assumption⟩
          case measure => simp [intOf]; omega
      · have i2 : ¬ ((j : Int) + 1 < 12) := by omega
        go_wp2_with (go_at_call 12; refine (wakes_l (by assumption)).mono ?_; rintro e w' ⟨rfl, hw⟩)
        go_ret
        exact ⟨rfl, hw.below⟩
    · have i1 : ¬ ((j : Int) + 1 < (len : Int)) := by omega
      go_wp2_with (go_at_call 12; refine (wakes_l (by assumption)).mono ?_; rintro e w' ⟨rfl, hw⟩)
      go_ret
      exact ⟨rfl, hw.below⟩
end Go.Proofs.YtnnojhgnfmieoaaDoor.dec
