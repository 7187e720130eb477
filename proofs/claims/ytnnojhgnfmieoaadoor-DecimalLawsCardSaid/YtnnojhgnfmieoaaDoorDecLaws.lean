/- Sums and products go in any order; what is added and taken away again is what was; what is multiplied and divided again, too: the walk. -/
import Derived.Test.YtnnojhgnfmieoaaDoorDecOrder
namespace Go.Proofs.YtnnojhgnfmieoaaDoor.dec
open Go.ChangeShapes Go.WideShapes Go.ChangeAt Go.RowKit kit
set_option linter.unusedVariables false
set_option linter.unusedSimpArgs false
theorem cmpI_swap (x y : Int) : cmpI y x = -cmpI x y := by unfold cmpI; split <;> split <;> (try split) <;> (try split) <;> omega
theorem cmpI_neg (x y : Int) : cmpI (-x) (-y) = -cmpI x y := by unfold cmpI; split <;> split <;> (try split) <;> (try split) <;> omega
theorem cmpI_cases (x y : Int) : (cmpI x y = 0 ∧ x = y) ∨ (cmpI x y = -1 ∧ x ≠ y) ∨ (cmpI x y = 1 ∧ x ≠ y) := by unfold cmpI; split <;> (try split) <;> omega
set_option maxRecDepth 100000 in
set_option maxHeartbeats 8000000 in
theorem laws_any (b off len cap : Nat) (ss : List ByteArray) (sN : Value) (W : World) (hE : Env W) (hlen : len ≤ 9223372036854775807) (hb : b < W.heap.size)
    (hc : ∀ j, j < len → W.cell? ⟨b, off + j, none⟩ = some (.string (ss.getD j ByteArray.empty))) :
    Calls Tryd.prog 4 #[.agg #[.slice (some ⟨b, off, none⟩) len cap, sN]] W fun e w' => e = .returned (.bool true) ∧ Below W.heap.size W w' := by
  replace hc := Lib.hid hc
  replace hE := Lib.hid hE
  go_enter Tryd.func4, Tryd.ntmps4
  go_wp2
  go_loopw [3] (fun i wr => (∃ j : Nat, j ≤ len ∧ i = .int .i64 ((j : Int) + 1)) ∧ LW (VB W (.slice (some ⟨b, off, none⟩) len cap) sN) wr) (fun i _ => len + 2 - (intOf i).toNat)
  case atStart => exact ⟨⟨0, by omega, rfl⟩, VB.lw hE.out _ _⟩
  case round =>
    obtain ⟨⟨j, hj, rfl⟩, hlw⟩ := hrel
    obtain ⟨hp, _⟩ := hlw.box
    by_cases hlt : j + 1 < len
    · have i1 : (j : Int) + 1 < (len : Int) := by omega
      by_cases h12 : j + 1 < 12
      · have i2 : (j : Int) + 1 < 12 := by omega
        have ca := (hlw.old (p := ⟨b, off + j, none⟩) hb).trans (hc.out j (by omega))
        have cb := (hlw.old (p := ⟨b, off + (j + 1), none⟩) hb).trans (hc.out (j + 1) (by omega))
        generalize ss.getD j ByteArray.empty = A at ca
        generalize ss.getD (j + 1) ByteArray.empty = B at cb
        have e0 : (j : Int) + 1 - 1 = (j : Int) := by omega
        go_upto_region 6 with (fail)
        clear ca cb hp e0
        cases h1 : sh A
        ·
          go_wp2_with (first | (go_at_call 7; refine (short_at _ (by assumption) _).mono ?_; rintro e w' ⟨rfl, rfl⟩) | (go_at_call 8; refine (chk_at _ (by assumption) (by assumption)).mono ?_; rintro e w' ⟨rfl, hlw⟩))
          go_roundw
          case rel => exact ⟨⟨j + 1, by omega, by go_num⟩, by assumption⟩
          case measure => simp [intOf]; omega
        cases h2 : sh B
        ·
          go_wp2_with (first | (go_at_call 7; refine (short_at _ (by assumption) _).mono ?_; rintro e w' ⟨rfl, rfl⟩) | (go_at_call 8; refine (chk_at _ (by assumption) (by assumption)).mono ?_; rintro e w' ⟨rfl, hlw⟩))
          go_roundw
          case rel => exact ⟨⟨j + 1, by omega, by go_num⟩, by assumption⟩
          case measure => simp [intOf]; omega
        cases h3 : chk A.data.toList
        ·
          go_wp2_with (first | (go_at_call 7; refine (short_at _ (by assumption) _).mono ?_; rintro e w' ⟨rfl, rfl⟩) | (go_at_call 8; refine (chk_at _ (by assumption) (by assumption)).mono ?_; rintro e w' ⟨rfl, hlw⟩))
          go_roundw
          case rel => exact ⟨⟨j + 1, by omega, by go_num⟩, by assumption⟩
          case measure => simp [intOf]; omega
        cases h4 : chk B.data.toList
        ·
          go_wp2_with (first | (go_at_call 7; refine (short_at _ (by assumption) _).mono ?_; rintro e w' ⟨rfl, rfl⟩) | (go_at_call 8; refine (chk_at _ (by assumption) (by assumption)).mono ?_; rintro e w' ⟨rfl, hlw⟩))
          go_roundw
          case rel => exact ⟨⟨j + 1, by omega, by go_num⟩, by assumption⟩
          case measure => simp [intOf]; omega
        obtain ⟨x, hx, rfl⟩ := chk_z h3
        obtain ⟨y, hy, rfl⟩ := chk_z h4
        go_upto_region 7 with (first | (go_at_call 7; refine (short_at _ (by assumption) _).mono ?_; rintro e w' ⟨rfl, rfl⟩) | (go_at_call 8; refine (chk_at _ (by assumption) (by assumption)).mono ?_; rintro e w' ⟨rfl, hlw⟩))
        have hsz : (tx (canon x)).size ≤ 50000 := by
          have : (canon x).length ≤ 62 := canon_len x hx
          rw [tx_size]; omega
        obtain ⟨⟨l, e⟩, hr⟩ : ∃ r, txt (x + y) = r := ⟨_, rfl⟩
        have hr2 : txt (y + x) = (l, e) := by rw [Int.add_comm]; exact hr
        obtain ⟨⟨lm, em⟩, hm⟩ : ∃ r, mulR x y = r := ⟨_, rfl⟩
        have hm2 : mulR y x = (lm, em) := by rw [mulR_comm]; exact hm
        have hrx := readP_canon x hx
        have hL : ∀ l : List UInt8, (l != l) = false := fun l => by simp
        have hI : ∀ n : Int, (n != n) = false := fun n => by simp
        clear h1 h2 h3 h4
        replace hr := Lib.hid hr
        replace hr2 := Lib.hid hr2
        replace hm := Lib.hid hm
        replace hm2 := Lib.hid hm2
        replace hrx := Lib.hid hrx
        replace hsz := Lib.hid hsz
        go_upto_region 8 with (first | (go_at_call 13; refine (read_l (tx (canon x)) hsz.out _ hrx.out (by assumption)).mono ?_; rintro e w' ⟨rfl, hlw⟩))
        go_upto_region 9 with (first | (go_at_call 11; refine (add_l _ _ (l, e) ((addR_z hx hy).trans hr.out) (by assumption)).mono ?_; rintro e w' ⟨rfl, hlw⟩))
        go_upto_region 10 with (first | (go_at_call 11; refine (add_l _ _ (l, e) ((addR_z hy hx).trans hr2.out) (by assumption)).mono ?_; rintro e w' ⟨rfl, hlw⟩))
        go_upto_if 98 with (fail)
        go_cut [] (fun wx => LW (VB W (.slice (some ⟨b, off, none⟩) len cap) sN) wx)
        case first =>
          as_aux_lemma =>
            by_cases hs : small (x + y)
            · obtain ⟨rfl, rfl⟩ := Prod.mk.inj (hr.out.symm.trans (txt_ok hs))
              have hd : txt (x + y - y) = (canon x, 0) := by rw [Int.add_sub_cancel]; exact txt_ok hx
              replace hd := Lib.hid hd
              go_wp2_with (go_at_call 10; refine (sub_l _ _ (canon x, 0) ((subR_z hs hy).trans hd.out) (by assumption)).mono ?_; rintro e w' ⟨rfl, hlw⟩)
              go_meet
              assumption
            · obtain ⟨rfl, rfl⟩ := Prod.mk.inj (hr.out.symm.trans (txt_no hs))
              go_wp2
              go_meet
              assumption
        case rest =>
          have hl12 := hcut
          clear hcut hr hr2
          go_upto_region 17 with (first | (go_at_call 14; refine (mul_l _ _ (lm, em) ((mulT_z hx hy).trans hm.out) (by assumption)).mono ?_; rintro e w' ⟨rfl, hlw⟩))
          go_upto_region 18 with (first | (go_at_call 14; refine (mul_l _ _ (lm, em) ((mulT_z hy hx).trans hm2.out) (by assumption)).mono ?_; rintro e w' ⟨rfl, hlw⟩))
          obtain ⟨q, hq⟩ : ∃ q, decide (em = 0 ∧ y ≠ 0) = q := ⟨_, rfl⟩
          replace hq := Lib.hid hq
          go_upto_region 20 with (fail)
          go_cut [137] (fun v wx => v = .bool q ∧ LW (VB W (.slice (some ⟨b, off, none⟩) len cap) sN) wx)
          case first =>
            as_aux_lemma =>
              by_cases he : em = 0
              · subst he
                by_cases hy0 : y = 0
                · obtain rfl : false = q := by rw [← hq.out]; exact (decide_eq_false (by simp [hy0])).symm
                  have hb1 : ((tx (canon y)).toList == [48, 46, 48]) = true := by rw [tx_toList, hy0, canon_0]; rfl
                  clear hy0
                  go_wp2
                  go_meet
                  exact ⟨rfl, by assumption⟩
                · obtain rfl : true = q := by rw [← hq.out]; exact (decide_eq_true (by simp [hy0])).symm
                  have hb1 : ((tx (canon y)).toList == [48, 46, 48]) = false := by
                    rw [tx_toList, ← canon_0]
                    exact beq_eq_false_iff_ne.2 (fun e => hy0 (canon_inj e))
                  clear hy0
                  go_wp2
                  go_meet
                  exact ⟨rfl, by assumption⟩
              · obtain rfl : false = q := by rw [← hq.out]; exact (decide_eq_false (by simp [he])).symm
                have hb1 : (em == 0) = false := by simpa using he
                clear he
                go_wp2
                go_meet
                exact ⟨rfl, by assumption⟩
          case rest =>
            obtain ⟨rfl, hl20⟩ := hcut
            go_upto_if 137 with (fail)
            go_cut [] (fun wx => LW (VB W (.slice (some ⟨b, off, none⟩) len cap) sN) wx)
            case first =>
              as_aux_lemma =>
                cases q
                · go_wp2
                  go_meet
                  assumption
                · have hq2 := of_decide_eq_true hq.out
                  have hy0 := hq2.2
                  obtain ⟨m, hxy, hsm, hmm⟩ := mulR_ok (x := x) (y := y) (by rw [hm.out]; exact hq2.1)
                  obtain ⟨rfl, rfl⟩ := Prod.mk.inj (hm.out.symm.trans hmm)
                  have hdv : txt (quo m y) = (canon x, 0) := by rw [quo_mul x y m hy0 hxy]; exact txt_ok hx
                  clear hxy hmm hq2
                  replace hdv := Lib.hid hdv
                  replace hy0 := Lib.hid hy0
                  go_wp2_with (go_at_call 15; refine (div_l _ _ (canon x, 0) ((divT_z hsm hy hy0.out).trans hdv.out) (by assumption)).mono ?_; rintro e w' ⟨rfl, hlw⟩)
                  go_meet
                  assumption
            case rest =>
              have hl23 := hcut
              clear hcut hm hm2 hq
              obtain ⟨c, hcc⟩ : ∃ c, cmpI x y = c := ⟨_, rfl⟩
              replace hcc := Lib.hid hcc
              go_upto_region 25 with (first | (go_at_call 9; refine (cmp_l _ _ c ((cmpR_z hx hy).trans hcc.out) (by assumption)).mono ?_; rintro e w' ⟨rfl, hlw⟩))
              go_upto_region 26 with (first | (go_at_call 16; refine (neg_z hx (by assumption)).mono ?_; rintro e w' ⟨rfl, hlw⟩))
              go_upto_region 27 with (first | (go_at_call 16; refine (neg_z hy (by assumption)).mono ?_; rintro e w' ⟨rfl, hlw⟩))
              go_cut [193] (fun v wx => v = .bool false ∧ LW (VB W (.slice (some ⟨b, off, none⟩) len cap) sN) wx)
              case first =>
                as_aux_lemma =>
                  have hsw := cmpI_swap x y
                  have hng := cmpI_neg x y
                  rcases cmpI_cases x y with ⟨hv, hxy⟩ | ⟨hv, hxy⟩ | ⟨hv, hxy⟩
                  · obtain rfl : 0 = c := hv.symm.trans hcc.out
                    have hb1 : ((tx (canon x)).toList == (tx (canon y)).toList) = true := by rw [hxy]; simp
                    rw [hv] at hsw hng
                    replace hsw : cmpI y x = 0 := hsw
                    replace hng : cmpI (-x) (-y) = 0 := hng
                    clear hv hxy hcc
                    go_wp2_with (first
                      | (go_at_call_of 9 (Value.string (tx (canon y))); refine (cmp_l (tx (canon y)) (tx (canon x)) _ ((cmpR_z hy hx).trans hsw) (by assumption)).mono ?_; rintro e w' ⟨rfl, hlw⟩)
                      | (go_at_call_of 9 (Value.string (tx (canon (-x)))); refine (cmp_l (tx (canon (-x))) (tx (canon (-y))) _ ((cmpR_z (small_neg hx) (small_neg hy)).trans hng) (by assumption)).mono ?_; rintro e w' ⟨rfl, hlw⟩))
                    go_meet
                    exact ⟨rfl, by assumption⟩
                  · obtain rfl : -1 = c := hv.symm.trans hcc.out
                    have hb1 : ((tx (canon x)).toList == (tx (canon y)).toList) = false := by rw [tx_toList, tx_toList]; exact beq_eq_false_iff_ne.2 (fun e => hxy (canon_inj e))
                    rw [hv] at hsw hng
                    replace hsw : cmpI y x = 1 := hsw
                    replace hng : cmpI (-x) (-y) = 1 := hng
                    clear hv hxy hcc
                    go_wp2_with (first
                      | (go_at_call_of 9 (Value.string (tx (canon y))); refine (cmp_l (tx (canon y)) (tx (canon x)) _ ((cmpR_z hy hx).trans hsw) (by assumption)).mono ?_; rintro e w' ⟨rfl, hlw⟩)
                      | (go_at_call_of 9 (Value.string (tx (canon (-x)))); refine (cmp_l (tx (canon (-x))) (tx (canon (-y))) _ ((cmpR_z (small_neg hx) (small_neg hy)).trans hng) (by assumption)).mono ?_; rintro e w' ⟨rfl, hlw⟩))
                    go_meet
                    exact ⟨rfl, by assumption⟩
                  · obtain rfl : 1 = c := hv.symm.trans hcc.out
                    have hb1 : ((tx (canon x)).toList == (tx (canon y)).toList) = false := by rw [tx_toList, tx_toList]; exact beq_eq_false_iff_ne.2 (fun e => hxy (canon_inj e))
                    rw [hv] at hsw hng
                    replace hsw : cmpI y x = -1 := hsw
                    replace hng : cmpI (-x) (-y) = -1 := hng
                    clear hv hxy hcc
                    go_wp2_with (first
                      | (go_at_call_of 9 (Value.string (tx (canon y))); refine (cmp_l (tx (canon y)) (tx (canon x)) _ ((cmpR_z hy hx).trans hsw) (by assumption)).mono ?_; rintro e w' ⟨rfl, hlw⟩)
                      | (go_at_call_of 9 (Value.string (tx (canon (-x)))); refine (cmp_l (tx (canon (-x))) (tx (canon (-y))) _ ((cmpR_z (small_neg hx) (small_neg hy)).trans hng) (by assumption)).mono ?_; rintro e w' ⟨rfl, hlw⟩))
                    go_meet
                    exact ⟨rfl, by assumption⟩
              case rest =>
                obtain ⟨rfl, hl27⟩ := hcut
                go_wp2
                go_roundw
                case rel => exact ⟨⟨j + 1, by omega, by go_num⟩, by assumption⟩
                case measure => simp [intOf]; omega
      · have i2 : ¬ ((j : Int) + 1 < 12) := by omega
        go_wp2_with (go_at_call 12; refine (wakes_l (by assumption)).mono ?_; rintro e w' ⟨rfl, hw⟩)
        go_ret
        exact ⟨rfl, hw.below⟩
    · have i1 : ¬ ((j : Int) + 1 < (len : Int)) := by omega
      go_wp2_with (go_at_call 12; refine (wakes_l (by assumption)).mono ?_; rintro e w' ⟨rfl, hw⟩)
      go_ret
      exact ⟨rfl, hw.below⟩
end Go.Proofs.YtnnojhgnfmieoaaDoor.dec
