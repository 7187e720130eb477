/- Three decimals in a row are ordered; the order is the sign of the difference; what is added to both changes no order: the walk. -/
import Derived.Test.YtnnojhgnfmieoaaDoorDecLaw
import Derived.IntWalk
import Derived.Deep.DeepCutAuto
namespace Go.Proofs.YtnnojhgnfmieoaaDoor.dec
open Go.ChangeShapes Go.WideShapes Go.ChangeAt Go.RowKit kit
set_option linter.unusedVariables false
set_option linter.unusedSimpArgs false
/-- The world behind the law's box. -/
def VB (W : World) (sL sN : Value) : World := W.alloc (.cells #[sL, sN] 25)
theorem VB.lw {W : World} (hE : Env W) (sL sN : Value) : LW (VB W sL sN) (VB W sL sN) := ⟨Below.refl _ _, hE.below ((Below.refl _ _).alloc (Nat.le_refl _) _)⟩
theorem LW.box {W w : World} {sL sN : Value} (h : LW (VB W sL sN) w) : w.cell? ⟨W.heap.size, 0, none⟩ = some sL ∧ w.cell? ⟨W.heap.size, 1, none⟩ = some sN := by
  have hb : Blk (VB W sL sN) W.heap.size #[sL, sN] 25 := Blk.new _ _ _
  have hs : W.heap.size < (VB W sL sN).heap.size := by unfold VB; simp
  exact ⟨(h.cell (p := ⟨W.heap.size, 0, none⟩) hs).trans (hb.cell 0 rfl), (h.cell (p := ⟨W.heap.size, 1, none⟩) hs).trans (hb.cell 1 rfl)⟩
theorem LW.old {W w : World} {sL sN : Value} (h : LW (VB W sL sN) w) {p : Addr} (hp : p.block < W.heap.size) : w.cell? p = W.cell? p := by
  have h1 : p.block < (VB W sL sN).heap.size := by unfold VB; simp; omega
  rw [h.cell h1]
  exact Below.cell (B := W.heap.size) ((Below.refl _ _).alloc (Nat.le_refl _) _) hp
theorem LW.below {W w : World} {sL sN : Value} (h : LW (VB W sL sN) w) : Below W.heap.size W w :=
  ((Below.refl _ _).alloc (Nat.le_refl _) _).trans (h.1.mono (by unfold VB; simp))
section
variable {V w : World}
theorem chk_at (s : ByteArray) {r : Bool} (hr : chk s.data.toList = r) (h : LW V w) : Calls Tryd.prog 8 #[.string s] w fun e w' => e = .returned (.bool r) ∧ LW V w' := hr ▸ chk_l s h
theorem short_at (s : ByteArray) {r : Bool} (hr : sh s = r) (w : World) : Calls Tryd.prog 7 #[.string s] w fun e w' => e = .returned (.bool r) ∧ w' = w := hr ▸ short_call s w
theorem cmp_z {x y : Int} (hx : small x) (hy : small y) (h : LW V w) : Calls Tryd.prog 9 #[.string (tx (canon x)), .string (tx (canon y))] w fun e w' => e = .returned (.int .i64 (cmpI x y)) ∧ LW V w' := cmp_l _ _ _ (cmpR_z hx hy) h
theorem add_z {x y : Int} (hx : small x) (hy : small y) (h : LW V w) : Calls Tryd.prog 11 #[.string (tx (canon x)), .string (tx (canon y))] w fun e w' => e = .returned (.tuple #[.string (tx (txt (x + y)).1), .int .i64 (txt (x + y)).2]) ∧ LW V w' := add_l _ _ _ (addR_z hx hy) h
theorem sub_z {x y : Int} (hx : small x) (hy : small y) (h : LW V w) : Calls Tryd.prog 10 #[.string (tx (canon x)), .string (tx (canon y))] w fun e w' => e = .returned (.tuple #[.string (tx (txt (x - y)).1), .int .i64 (txt (x - y)).2]) ∧ LW V w' := sub_l _ _ _ (subR_z hx hy) h
theorem neg_z {x : Int} (hx : small x) (h : LW V w) : Calls Tryd.prog 16 #[.string (tx (canon x))] w fun e w' => e = .returned (.tuple #[.string (tx (canon (-x))), .int .i64 0]) ∧ LW V w' := neg_l (tx (canon x)) (canon (-x), 0) ((negR_z hx).trans (txt_ok (small_neg hx))) h
theorem mul_z {x y : Int} (hx : small x) (hy : small y) (h : LW V w) : Calls Tryd.prog 14 #[.string (tx (canon x)), .string (tx (canon y))] w fun e w' => e = .returned (.tuple #[.string (tx (mulR x y).1), .int .i64 (mulR x y).2]) ∧ LW V w' := mul_l _ _ _ (mulT_z hx hy) h
theorem div_z {x y : Int} (hx : small x) (hy : small y) (h0 : y ≠ 0) (h : LW V w) : Calls Tryd.prog 15 #[.string (tx (canon x)), .string (tx (canon y))] w fun e w' => e = .returned (.tuple #[.string (tx (txt (quo x y)).1), .int .i64 (txt (quo x y)).2]) ∧ LW V w' := div_l _ _ _ (divT_z hx hy h0) h
theorem cmp_0 {x : Int} (hx : small x) (h : LW V w) : Calls Tryd.prog 9 #[.string (tx (canon x)), .string ⟨#[48, 46, 48]⟩] w fun e w' => e = .returned (.int .i64 (cmpI x 0)) ∧ LW V w' :=
  cmp_l _ ⟨#[48, 46, 48]⟩ _ (by show cmpR (canon x) [48, 46, 48] = _; rw [← canon_0, cmpR_z hx small_0]) h
end
theorem cmpI_sub (x y : Int) : cmpI (x - y) 0 = cmpI x y := by unfold cmpI; split <;> split <;> (try split) <;> (try split) <;> omega
theorem cmpI_add (x y z : Int) : cmpI (x + z) (y + z) = cmpI x y := by unfold cmpI; split <;> split <;> (try split) <;> (try split) <;> omega
theorem cmpI_row (x y z : Int) : ¬ (cmpI x y ≤ 0 ∧ cmpI y z ≤ 0 ∧ 0 < cmpI x z) ∧ ¬ (cmpI x y < 0 ∧ cmpI y z ≤ 0 ∧ 0 ≤ cmpI x z) := by
  unfold cmpI; split <;> split <;> split <;> (try split) <;> (try split) <;> (try split) <;> omega
set_option maxRecDepth 100000 in
set_option maxHeartbeats 4000000 in
theorem order_any (b off len cap : Nat) (ss : List ByteArray) (sN : Value) (W : World) (hE : Env W) (hlen : len ≤ 9223372036854775807) (hb : b < W.heap.size)
    (hc : ∀ j, j < len → W.cell? ⟨b, off + j, none⟩ = some (.string (ss.getD j ByteArray.empty))) :
    Calls Tryd.prog 3 #[.agg #[.slice (some ⟨b, off, none⟩) len cap, sN]] W fun e w' => e = .returned (.bool true) ∧ Below W.heap.size W w' := by
  replace hc := Lib.hid hc
  replace hE := Lib.hid hE
  go_enter Tryd.func3, Tryd.ntmps3
  go_wp2
  go_loopw [3] (fun i wr => (∃ j : Nat, j ≤ len ∧ i = .int .i64 ((j : Int) + 2)) ∧ LW (VB W (.slice (some ⟨b, off, none⟩) len cap) sN) wr) (fun i _ => len + 2 - (intOf i).toNat)
  case atStart => exact ⟨⟨0, by omega, rfl⟩, VB.lw hE.out _ _⟩
  case round =>
    obtain ⟨⟨j, hj, rfl⟩, hlw⟩ := hrel
    obtain ⟨hp, _⟩ := hlw.box
    by_cases hlt : j + 2 < len
    · have i1 : (j : Int) + 2 < (len : Int) := by omega
      by_cases h12 : j + 2 < 12
      · have i2 : (j : Int) + 2 < 12 := by omega
        have ca := (hlw.old (p := ⟨b, off + j, none⟩) hb).trans (hc.out j (by omega))
        have cb := (hlw.old (p := ⟨b, off + (j + 1), none⟩) hb).trans (hc.out (j + 1) (by omega))
        have cc := (hlw.old (p := ⟨b, off + (j + 2), none⟩) hb).trans (hc.out (j + 2) hlt)
        generalize ss.getD j ByteArray.empty = A at ca
        generalize ss.getD (j + 1) ByteArray.empty = B at cb
        generalize ss.getD (j + 2) ByteArray.empty = C at cc
        go_upto_region 4 with fail
        go_cut [4, 5, 6] (fun v4 v5 v6 wx => v4 = .string A ∧ v5 = .string B ∧ v6 = .string C ∧ LW (VB W (.slice (some ⟨b, off, none⟩) len cap) sN) wx)
        case first =>
          have e1 : IntKind.i64.wrap ((j : Int) + 2 - 2) = (j : Int) := by rw [IntWalk.i64_in _ (by omega)]; omega
          have e2 : IntKind.i64.wrap ((j : Int) + 2 - 1) = (j : Int) + 1 := by rw [IntWalk.i64_in _ (by omega)]; omega
          have e3 : ((j : Int) + 1).toNat = j + 1 := by omega
          have e4 : ((j : Int) + 2).toNat = j + 2 := by omega
          have b0 : 0 ≤ (j : Int) + 1 := by omega
          have b1 : 0 ≤ (j : Int) + 2 := by omega
          have b2 : (j : Int) < (len : Int) := by omega
          have b3 : (j : Int) + 1 < (len : Int) := by omega
          go_quiet (fail)
          go_wp2
          go_meet
          exact ⟨rfl, rfl, rfl, hlw.drewN nq⟩
        obtain ⟨rfl, rfl, rfl, hl1⟩ := hcut
        clear ca cb cc hp
        cases h1 : sh A
        ·
          go_wp2_with (first | (go_at_call 7; refine (short_at _ (by assumption) _).mono ?_; rintro e w' ⟨rfl, rfl⟩) | (go_at_call 8; refine (chk_at _ (by assumption) (by assumption)).mono ?_; rintro e w' ⟨rfl, hlw⟩))
          go_roundw
          case rel => exact ⟨⟨j + 1, by omega, by go_num⟩, by assumption⟩
          case measure => simp [intOf]; omega
        cases h2 : sh B
        ·
          go_wp2_with (first | (go_at_call 7; refine (short_at _ (by assumption) _).mono ?_; rintro e w' ⟨rfl, rfl⟩) | (go_at_call 8; refine (chk_at _ (by assumption) (by assumption)).mono ?_; rintro e w' ⟨rfl, hlw⟩))
          go_roundw
          case rel => exact ⟨⟨j + 1, by omega, by go_num⟩, by assumption⟩
          case measure => simp [intOf]; omega
        cases h3 : sh C
        ·
          go_wp2_with (first | (go_at_call 7; refine (short_at _ (by assumption) _).mono ?_; rintro e w' ⟨rfl, rfl⟩) | (go_at_call 8; refine (chk_at _ (by assumption) (by assumption)).mono ?_; rintro e w' ⟨rfl, hlw⟩))
          go_roundw
          case rel => exact ⟨⟨j + 1, by omega, by go_num⟩, by assumption⟩
          case measure => simp [intOf]; omega
        cases h4 : chk A.data.toList
        ·
          go_wp2_with (first | (go_at_call 7; refine (short_at _ (by assumption) _).mono ?_; rintro e w' ⟨rfl, rfl⟩) | (go_at_call 8; refine (chk_at _ (by assumption) (by assumption)).mono ?_; rintro e w' ⟨rfl, hlw⟩))
          go_roundw
          case rel => exact ⟨⟨j + 1, by omega, by go_num⟩, by assumption⟩
          case measure => simp [intOf]; omega
        cases h5 : chk B.data.toList
        ·
          go_wp2_with (first | (go_at_call 7; refine (short_at _ (by assumption) _).mono ?_; rintro e w' ⟨rfl, rfl⟩) | (go_at_call 8; refine (chk_at _ (by assumption) (by assumption)).mono ?_; rintro e w' ⟨rfl, hlw⟩))
          go_roundw
          case rel => exact ⟨⟨j + 1, by omega, by go_num⟩, by assumption⟩
          case measure => simp [intOf]; omega
        cases h6 : chk C.data.toList
        ·
          go_wp2_with (first | (go_at_call 7; refine (short_at _ (by assumption) _).mono ?_; rintro e w' ⟨rfl, rfl⟩) | (go_at_call 8; refine (chk_at _ (by assumption) (by assumption)).mono ?_; rintro e w' ⟨rfl, hlw⟩))
          go_roundw
          case rel => exact ⟨⟨j + 1, by omega, by go_num⟩, by assumption⟩
          case measure => simp [intOf]; omega
        obtain ⟨x, hx, rfl⟩ := chk_z h4
        obtain ⟨y, hy, rfl⟩ := chk_z h5
        obtain ⟨z, hz, rfl⟩ := chk_z h6
        go_upto_region 9 with (first | (go_at_call 7; refine (short_at _ (by assumption) _).mono ?_; rintro e w' ⟨rfl, rfl⟩) | (go_at_call 8; refine (chk_at _ (by assumption) (by assumption)).mono ?_; rintro e w' ⟨rfl, hlw⟩) | (go_at_call 9; refine (cmp_z (by assumption) (by assumption) (by assumption)).mono ?_; rintro e w' ⟨rfl, hlw⟩))
        have f := cmpI_row x y z
        have hcs := cmpI_sub x y
        have hca := cmpI_add x y z
        generalize hab : cmpI x y = ab at *
        generalize cmpI y z = bc at *
        generalize cmpI x z = ac at *
        clear hab h1 h2 h3 h4 h5 h6
        replace f := Lib.hid f
        replace hcs := Lib.hid hcs
        replace hca := Lib.hid hca
        have hbb : (ab != ab) = false := by simp
        go_cut [101] (fun v wx => v = .bool false ∧ LW (VB W (.slice (some ⟨b, off, none⟩) len cap) sN) wx)
        case first =>
          go_wp2
          all_goals first
            | (go_meet; exact ⟨rfl, by assumption⟩)
            | (go_meet; exact ⟨congrArg Value.bool (decide_eq_false (by have := f.out; omega)), by assumption⟩)
            | (go_meet; refine ⟨congrArg Value.bool ?_, by assumption⟩; have := f.out; simp; omega)
            | (exfalso; have := f.out; omega)
        case rest =>
          obtain ⟨rfl, hl9⟩ := hcut
          obtain ⟨⟨l, e⟩, hr⟩ : ∃ r, txt (x - y) = r := ⟨_, rfl⟩
          replace hr := Lib.hid hr
          go_upto_region 12 with (first | (go_at_call 10; refine (sub_l _ _ (l, e) ((subR_z hx hy).trans hr.out) (by assumption)).mono ?_; rintro e w' ⟨rfl, hlw⟩))
          go_cut [115] (fun v wx => v = .bool false ∧ LW (VB W (.slice (some ⟨b, off, none⟩) len cap) sN) wx)
          case first =>
            by_cases hs : small (x - y)
            · obtain ⟨rfl, rfl⟩ := Prod.mk.inj (hr.out.symm.trans (txt_ok hs))
              go_wp2_with (go_at_call 9; refine (cmp_0 hs (by assumption)).mono ?_; rintro e w' ⟨rfl, hlw⟩; rw [hcs.out])
              go_meet
              exact ⟨rfl, by assumption⟩
            · obtain ⟨rfl, rfl⟩ := Prod.mk.inj (hr.out.symm.trans (txt_no hs))
              go_wp2
              go_meet
              exact ⟨rfl, by assumption⟩
          case rest =>
            obtain ⟨rfl, hl12⟩ := hcut
            clear hr
            obtain ⟨⟨l1, e1⟩, hr1⟩ : ∃ r, txt (x + z) = r := ⟨_, rfl⟩
            obtain ⟨⟨l2, e2⟩, hr2⟩ : ∃ r, txt (y + z) = r := ⟨_, rfl⟩
            replace hr1 := Lib.hid hr1
            replace hr2 := Lib.hid hr2
            go_upto_region 15 with (first | (go_at_call 11; refine (add_l _ _ (l1, e1) ((addR_z hx hz).trans hr1.out) (by assumption)).mono ?_; rintro e w' ⟨rfl, hlw⟩))
            go_upto_region 16 with (first | (go_at_call 11; refine (add_l _ _ (l2, e2) ((addR_z hy hz).trans hr2.out) (by assumption)).mono ?_; rintro e w' ⟨rfl, hlw⟩))
            go_cut [140] (fun v wx => v = .bool false ∧ LW (VB W (.slice (some ⟨b, off, none⟩) len cap) sN) wx)
            case first =>
              by_cases hs : small (x + z)
              · obtain ⟨rfl, rfl⟩ := Prod.mk.inj (hr1.out.symm.trans (txt_ok hs))
                by_cases ht : small (y + z)
                · obtain ⟨rfl, rfl⟩ := Prod.mk.inj (hr2.out.symm.trans (txt_ok ht))
                  go_wp2_with (go_at_call 9; refine (cmp_z hs ht (by assumption)).mono ?_; rintro e w' ⟨rfl, hlw⟩; rw [hca.out])
                  go_meet
                  exact ⟨rfl, by assumption⟩
                · obtain ⟨rfl, rfl⟩ := Prod.mk.inj (hr2.out.symm.trans (txt_no ht))
                  go_wp2
                  go_meet
                  exact ⟨rfl, by assumption⟩
              · obtain ⟨rfl, rfl⟩ := Prod.mk.inj (hr1.out.symm.trans (txt_no hs))
                go_wp2
                all_goals
                  go_meet
                  exact ⟨rfl, by assumption⟩
            case rest =>
              obtain ⟨rfl, hl16⟩ := hcut
              go_wp2
              go_roundw
              case rel => exact ⟨⟨j + 1, by omega, by go_num⟩, by assumption⟩
              case measure => simp [intOf]; omega
      · have i2 : ¬ ((j : Int) + 2 < 12) := by omega
        go_wp2_with (go_at_call 12; refine (wakes_l (by assumption)).mono ?_; rintro e w' ⟨rfl, hw⟩)
        go_ret
        exact ⟨rfl, hw.below⟩
    · have i1 : ¬ ((j : Int) + 2 < (len : Int)) := by omega
      go_wp2_with (go_at_call 12; refine (wakes_l (by assumption)).mono ?_; rintro e w' ⟨rfl, hw⟩)
      go_ret
      exact ⟨rfl, hw.below⟩
end Go.Proofs.YtnnojhgnfmieoaaDoor.dec
