/- Of two values the truth of being unlike is Not of the truth of being equal; what Back tells is read by Of as it was: for every list of values that may be read, where the listed variables of the library hold what the program's text lays. -/
import Derived.Test.YthecgifgjagmaaaGreatDoorValBack
import Derived.Test.YthecgifgjagmaaaGreatDoorLogicOps
import Derived.IntWalk
import Derived.Deep.DeepCutAuto
namespace Go.Proofs.YthecgifgjagmaaaGreatDoor.val
open Go.ChangeShapes Go.WideShapes Go.ChangeAt Go.RowKit kit dec
set_option linter.unusedVariables false
set_option linter.unusedSimpArgs false
theorem not3_back (r : Int) (hr : r = 0 ∨ r = 1 ∨ r = 2) : logic.not3 (logic.not3 r) = r := by
  rcases hr with rfl | rfl | rfl <;> decide
set_option maxRecDepth 100000 in
set_option maxHeartbeats 4000000 in
theorem values_any (N : Nat) (hN : N ≤ 9223372036854775807) (ao : Option Addr) (cap : Nat) (l : List V) (lang : Value) (W : World) (hE : Env W) (hl : l.length ≤ N) (ha : ∀ j (hj : j < l.length), EA W N ao (6 * j) l[j]) :
    Calls Tryz.prog 4 #[.agg #[.slice ao l.length cap, lang]] W fun e w' => e = .returned (.bool true) ∧ Below W.heap.size W w' := by
  have hbox : Blk (W.alloc (.cells #[.slice ao l.length cap, lang] 24)) W.heap.size #[.slice ao l.length cap, lang] 24 := Blk.new _ _ _
  have hbe0 : Below W.heap.size W (W.alloc (.cells #[.slice ao l.length cap, lang] 24)) := (Below.refl _ _).alloc (Nat.le_refl _) _
  replace ha := Lib.hid ha
  replace hE := Lib.hid hE
  have hli : (l.length : Int) ≤ 9223372036854775807 := by omega
  go_enter Tryz.func4, Tryz.ntmps4
  go_wp2
  go_loopw [3] (fun i wr => (∃ j : Nat, j ≤ l.length ∧ i = .int .i64 ((j : Int) + 1)) ∧ Hid (Below W.heap.size W wr) ∧ Hid (Blk wr W.heap.size #[.slice ao l.length cap, lang] 24)) (fun i _ => l.length + 2 - (intOf i).toNat)
  case atStart => exact ⟨⟨0, by omega, rfl⟩, hbe0, hbox⟩
  case round =>
    clear hbe0 hbox
    obtain ⟨⟨j, hj, rfl⟩, hb, hbx⟩ := hrel
    obtain ⟨w0, rfl⟩ : ∃ w0 : World, w0 = wr := ⟨_, rfl⟩
    have hp := hbx.out.cell 0 rfl
    obtain ⟨q, hq⟩ : ∃ q : Bool, decide (j + 1 < l.length ∧ j + 1 < 30) = q := ⟨_, rfl⟩
    replace hq := Lib.hid hq
    go_upto_region 2 with (fail)
    go_cut [17] (fun v wx => v = .bool q ∧ wx = w0)
    case first =>
      as_aux_lemma =>
        by_cases h1 : j + 1 < l.length
        · have h1i : (j : Int) + 1 < (l.length : Int) := by omega
          by_cases h2 : j + 1 < 30
          · have h2i : (j : Int) + 1 < 30 := by omega
            obtain rfl : true = q := by rw [← hq.out]; exact (decide_eq_true ⟨h1, h2⟩).symm
            go_wp2
            go_meet
            exact ⟨rfl, rfl⟩
          · have h2i : ¬ (j : Int) + 1 < 30 := by omega
            obtain rfl : false = q := by rw [← hq.out]; exact (decide_eq_false (fun e => h2 e.2)).symm
            go_wp2
            go_meet
            exact ⟨rfl, rfl⟩
        · have h1i : ¬ (j : Int) + 1 < (l.length : Int) := by omega
          obtain rfl : false = q := by rw [← hq.out]; exact (decide_eq_false (fun e => h1 e.1)).symm
          go_wp2
          go_meet
          exact ⟨rfl, rfl⟩
    obtain ⟨rfl, hwx⟩ := hcut
    rw [hwx]; clear hwx
    cases q
    case false =>
      clear hp hq
      go_wp2_with (go_at_call 15; refine (logic.wakes_any _).mono ?_; rintro e w' ⟨rfl, n, rfl⟩)
      go_ret
      exact ⟨rfl, Below_drewN _ hb.out⟩
    case true =>
      obtain ⟨hlt, _⟩ := of_decide_eq_true hq.out
      clear hq
      have i1 : (j : Int) + 1 < (l.length : Int) := by omega
      have b2 : (j : Int) < (l.length : Int) := by omega
      have e4 : ((j : Int) + 1).toNat = j + 1 := by omega
      have b0 : 0 ≤ (j : Int) + 1 := by omega
      have el := (ha.out j (by omega)).stay hb.out
      have el2 := (ha.out (j + 1) hlt).stay hb.out
      rw [Nat.mul_comm 6 j] at el
      rw [Nat.mul_comm 6 (j + 1)] at el2
      generalize l[j]'(by omega) = v at el
      generalize l[j + 1]'hlt = v2 at el2
      cases el with
      | mk b off o k bo n t x l1 s hr hk hn ht hx hsl =>
      cases el2 with
      | mk b2' off2 o2 k2 bo2 n2 t2 x2 l12 s2 hr2 hk2 hn2 ht2 hx2 hsl2 =>
        obtain ⟨aoE, capE, rfl⟩ := LA.form hsl
        obtain ⟨aoF, capF, rfl⟩ := LA.form hsl2
        have x5 := hr.c5
        have y5 := hr2.c5
        have e1 : IntKind.i64.wrap ((j : Int) + 1 - 1) = (j : Int) := by rw [IntWalk.i64_in _ (by omega)]; omega
        have e1' : IntKind.i64.wrap (j : Int) = (j : Int) := IntWalk.i64_in _ (by omega)
        by_cases g1 : 100 < l12.length
        · have g1i : (100 : Int) < (l12.length : Int) := by omega
          go_wp2
          go_roundw
          case rel => exact ⟨⟨j + 1, by omega, by go_num⟩, hb, hbx⟩
          case measure => simp [intOf]; omega
        have g1i : ¬ (100 : Int) < (l12.length : Int) := by omega
        by_cases g2 : 100 < l1.length
        · have g2i : (100 : Int) < (l1.length : Int) := by omega
          go_wp2
          go_roundw
          case rel => exact ⟨⟨j + 1, by omega, by go_num⟩, hb, hbx⟩
          case measure => simp [intOf]; omega
        have g2i : ¬ (100 : Int) < (l1.length : Int) := by omega
        have hdw : Below w0.heap.size w0 w0.drew := below_drewN (Below.refl _ _) 1
        have hb0 := Lib.hid (hb.out.trans (hdw.mono hb.out.size))
        have hcall := equal_call N hN w0.drew (hE.out.below hb0.out) k bo n hn t x _ l1 k2 bo2 n2 hn2 t2 x2 _ l12 (hsl.stay hdw) ht hx (hsl2.stay hdw) ht2 hx2
        unfold agg6 at hcall
        replace hcall := Lib.hid hcall
        have hS0 : Blk w0.drew W.heap.size #[.slice (some ⟨b, off, none⟩) l.length cap, lang] 24 ∧ Row6 w0.drew b (off + j * 6) k bo n t x (.slice aoE l1.length capE) ∧ Row6 w0.drew b (off + (j + 1) * 6) k2 bo2 n2 t2 x2 (.slice aoF l12.length capF) := ⟨hbx.out, hr.below hdw, hr2.below hdw⟩
        go_upto_region 5 with fail
        clear hsl hsl2 hdw x5 y5 hp
        refine wp_region_held_drew (S := fun V => Blk V W.heap.size #[.slice (some ⟨b, off, none⟩) l.length cap, lang] 24 ∧ Row6 V b (off + j * 6) k bo n t x (.slice aoE l1.length capE) ∧ Row6 V b (off + (j + 1) * 6) k2 bo2 n2 t2 x2 (.slice aoF l12.length capF)) (by kernel_rfl) hS0 (fun hS => ?_)
        have hV := hS0
        clear hS0
        generalize w0.drew = V0 at *
        refine wpAnyH_take (i := 0) (v := .pointer (some ⟨W.heap.size, 0, none⟩)) rfl (by kernel_rfl) (by kernel_rfl) (by kernel_rfl) (fun _ _ _ h => h) (.inl ⟨by kernel_rfl, fun w' hS => by go_simp; try exact ⟨rfl, rfl, rfl⟩⟩) hS ?_; simp only [List.getElem_toArray, List.getElem_cons_succ, List.getElem_cons_zero, Act.put, List.setIfInBounds_toArray, List.set_cons_zero, List.set_cons_succ]
        refine wpAnyH_take (i := 1) (v := .slice (some ⟨b, off, none⟩) l.length cap) rfl (by kernel_rfl) (by kernel_rfl) (by kernel_rfl) (fun _ _ _ h => h) (.inl ⟨by kernel_rfl, fun w' hS => by have hp := Blk.cell hS.1 0 (v := .slice (some ⟨b, off, none⟩) l.length cap) rfl; go_simp; try exact ⟨rfl, rfl, rfl⟩⟩) hS ?_; simp only [List.getElem_toArray, List.getElem_cons_succ, List.getElem_cons_zero, Act.put, List.setIfInBounds_toArray, List.set_cons_zero, List.set_cons_succ]
        refine wpAnyH_take (i := 2) (v := .int .i64 ((j : Int) + 1)) rfl (by kernel_rfl) (by kernel_rfl) (by kernel_rfl) (fun _ _ _ h => h) (.inl ⟨by kernel_rfl, fun _ _ => by kernel_rfl⟩) hS ?_; simp only [List.getElem_toArray, List.getElem_cons_succ, List.getElem_cons_zero, Act.put, List.setIfInBounds_toArray, List.set_cons_zero, List.set_cons_succ]
        refine wpAnyH_take (i := 3) (v := .int .i64 j) rfl (by kernel_rfl) (by kernel_rfl) (by kernel_rfl) (fun _ _ _ h => h) (.inl ⟨by kernel_rfl, fun w' hS => by go_simp; try exact ⟨rfl, rfl, rfl⟩⟩) hS ?_; simp only [List.getElem_toArray, List.getElem_cons_succ, List.getElem_cons_zero, Act.put, List.setIfInBounds_toArray, List.set_cons_zero, List.set_cons_succ]
        refine wpAnyH_take (i := 4) (v := .pointer (some ⟨b, off + j * 6, none⟩)) rfl (by kernel_rfl) (by kernel_rfl) (by kernel_rfl) (fun _ _ _ h => h) (.inl ⟨by kernel_rfl, fun w' hS => by go_simp; try exact ⟨rfl, rfl, rfl⟩⟩) hS ?_; simp only [List.getElem_toArray, List.getElem_cons_succ, List.getElem_cons_zero, Act.put, List.setIfInBounds_toArray, List.set_cons_zero, List.set_cons_succ]
        refine wpAnyH_take (i := 5) (v := .agg #[.int .i64 k, .bool bo, .int .i64 n, .string t, .string x, .slice aoE l1.length capE]) rfl (by kernel_rfl) (by kernel_rfl) (by kernel_rfl) (fun _ _ _ h => h) (.inl ⟨by kernel_rfl, fun w' hS => by have x0 := hS.2.1.c0; have x1 := hS.2.1.c1; have x2 := hS.2.1.c2; have x3 := hS.2.1.c3; have x4 := hS.2.1.c4; have x5 := hS.2.1.c5; go_simp; try exact ⟨rfl, rfl, rfl⟩⟩) hS ?_; simp only [List.getElem_toArray, List.getElem_cons_succ, List.getElem_cons_zero, Act.put, List.setIfInBounds_toArray, List.set_cons_zero, List.set_cons_succ]
        refine wpAnyH_take (i := 6) (v := .pointer (some ⟨W.heap.size, 0, none⟩)) rfl (by kernel_rfl) (by kernel_rfl) (by kernel_rfl) (fun _ _ _ h => h) (.inl ⟨by kernel_rfl, fun w' hS => by go_simp; try exact ⟨rfl, rfl, rfl⟩⟩) hS ?_; simp only [List.getElem_toArray, List.getElem_cons_succ, List.getElem_cons_zero, Act.put, List.setIfInBounds_toArray, List.set_cons_zero, List.set_cons_succ]
        refine wpAnyH_take (i := 7) (v := .slice (some ⟨b, off, none⟩) l.length cap) rfl (by kernel_rfl) (by kernel_rfl) (by kernel_rfl) (fun _ _ _ h => h) (.inl ⟨by kernel_rfl, fun w' hS => by have hp := Blk.cell hS.1 0 (v := .slice (some ⟨b, off, none⟩) l.length cap) rfl; go_simp; try exact ⟨rfl, rfl, rfl⟩⟩) hS ?_; simp only [List.getElem_toArray, List.getElem_cons_succ, List.getElem_cons_zero, Act.put, List.setIfInBounds_toArray, List.set_cons_zero, List.set_cons_succ]
        refine wpAnyH_take (i := 8) (v := .int .i64 ((j : Int) + 1)) rfl (by kernel_rfl) (by kernel_rfl) (by kernel_rfl) (fun _ _ _ h => h) (.inl ⟨by kernel_rfl, fun _ _ => by kernel_rfl⟩) hS ?_; simp only [List.getElem_toArray, List.getElem_cons_succ, List.getElem_cons_zero, Act.put, List.setIfInBounds_toArray, List.set_cons_zero, List.set_cons_succ]
        refine wpAnyH_take (i := 9) (v := .pointer (some ⟨b, off + (j + 1) * 6, none⟩)) rfl (by kernel_rfl) (by kernel_rfl) (by kernel_rfl) (fun _ _ _ h => h) (.inl ⟨by kernel_rfl, fun w' hS => by go_simp; try exact ⟨rfl, rfl, rfl⟩⟩) hS ?_; simp only [List.getElem_toArray, List.getElem_cons_succ, List.getElem_cons_zero, Act.put, List.setIfInBounds_toArray, List.set_cons_zero, List.set_cons_succ]
        refine wpAnyH_take (i := 10) (v := .agg #[.int .i64 k2, .bool bo2, .int .i64 n2, .string t2, .string x2, .slice aoF l12.length capF]) rfl (by kernel_rfl) (by kernel_rfl) (by kernel_rfl) (fun _ _ _ h => h) (.inl ⟨by kernel_rfl, fun w' hS => by have x0 := hS.2.2.c0; have x1 := hS.2.2.c1; have x2 := hS.2.2.c2; have x3 := hS.2.2.c3; have x4 := hS.2.2.c4; have x5 := hS.2.2.c5; go_simp; try exact ⟨rfl, rfl, rfl⟩⟩) hS ?_; simp only [List.getElem_toArray, List.getElem_cons_succ, List.getElem_cons_zero, Act.put, List.setIfInBounds_toArray, List.set_cons_zero, List.set_cons_succ]
        refine wpAnyH_ready (rs := [11]) (by kernel_rfl) (by simp) ?_
        refine AllReadyH.cons rfl (fun K hK => ?_) AllReadyH.nil
        clear hS
        go_simp
        refine (hcall.out).mono ?_
        rintro e w5 ⟨⟨r, rfl, hr012⟩, hb5⟩
        go_wp2_with fail
        refine hK.out _ _ (⟨Blk.keep hV.1 (Keep.ofBelow hb5) (by simp), hV.2.1.below hb5, hV.2.2.below hb5⟩) (fun hS => ?_)
        clear hK K
        try simp only [List.getElem_toArray, List.getElem_cons_succ, List.getElem_cons_zero, Act.put, List.setIfInBounds_toArray, List.set_cons_zero, List.set_cons_succ]
        have hbx5 := Lib.hid (Blk.keep hV.1 (Keep.ofBelow hb5) (m := []) (by simp))
        have hb6 := Lib.hid (hb0.out.trans (hb5.mono hb0.out.size))
        clear hV hcall hb5 hb0 hb hbx
        refine wpAnyH_take (i := 12) (v := .int .i64 r) rfl (by kernel_rfl) (by kernel_rfl) (by kernel_rfl) (fun _ _ _ h => h) (.inl ⟨by kernel_rfl, fun _ _ => by kernel_rfl⟩) hS ?_; simp only [List.getElem_toArray, List.getElem_cons_succ, List.getElem_cons_zero, Act.put, List.setIfInBounds_toArray, List.set_cons_zero, List.set_cons_succ]
        refine wpAnyH_done (by kernel_rfl) ?_ _
        clear hS
        have hn3 := not3_back r hr012
        go_wp2_with fail
        refine (back_any r hr012 _).mono ?_
        rintro e w6 ⟨rfl, hb7⟩
        have hb8 := Lib.hid (hb6.out.trans (hb7.mono hb6.out.size))
        have hbx6 := Lib.hid (Blk.keep hbx5.out (Keep.ofBelow hb7) (by simp))
        clear hb7 hbx5 hb6
        unfold bkV agg6
        go_wp2_with fail
        have hal : Below w6.heap.size w6 (w6.alloc (.cells #[.int .i64 (bkK r), .bool (bkB r), .int .i64 0, .string ⟨#[]⟩, .string ⟨#[]⟩, .slice none 0 0] 26)) := (Below.refl _ _).alloc (Nat.le_refl _) _
        have hb9 := Lib.hid (hb8.out.trans (hal.mono hb8.out.size))
        have hof := of_back r hr012 _ (hE.out.below hb9.out)
        unfold bkV agg6 at hof
        refine hof.mono ?_
        rintro e w7 ⟨rfl, hb10⟩
        have hb11 := Lib.hid (hb9.out.trans (hb10.mono hb9.out.size))
        have hbx7 := Lib.hid (Blk.keep (Blk.keep hbx6.out (Keep.ofBelow hal) (by simp)) (Keep.ofBelow hb10) (by simp))
        clear hb10 hof hal hb9 hb8 hbx6
        go_wp2_with (go_at_call 17; refine (logic.not_any _ _).mono ?_; rintro e w' ⟨rfl, rfl⟩)
        go_roundw
        case rel => exact ⟨⟨j + 1, by omega, by go_num⟩, hb11, hbx7⟩
        case measure => simp [intOf]; omega
end Go.Proofs.YthecgifgjagmaaaGreatDoor.val
