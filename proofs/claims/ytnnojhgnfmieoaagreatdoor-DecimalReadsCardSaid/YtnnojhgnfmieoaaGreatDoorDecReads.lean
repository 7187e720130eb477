/- Any texts: whether they are decimals, what they are read as, which whole number they are; any whole number as a decimal: for every list of texts and of whole numbers that may be read, where the listed variables of the library hold what the program's text lays. -/
import Derived.Test.YtnnojhgnfmieoaaGreatDoorDecNums
import Derived.Test.YtnnojhgnfmieoaaGreatDoorRefToInt
import Derived.Deep.RegionHeld3
namespace Go.Proofs.YtnnojhgnfmieoaaGreatDoor.dec
open Go.ChangeShapes Go.WideShapes Go.ChangeAt Go.RowKit kit
set_option linter.unusedVariables false
set_option linter.unusedSimpArgs false
theorem sh_le2 {s : ByteArray} (h : sh s = true) : s.size ≤ 50000 := by
  have := of_decide_eq_true h
  omega
theorem toIR_canon (z : Int) (h0 : -9223372036854775808 ≤ z) (h1 : z ≤ 9223372036854775807) : toIR (canon (z * E20)) = (z, true) := by
  have hz := ofInt_small z h0 h1
  unfold toIR
  rw [chk_canon _ hz, if_pos rfl, zof_canon _ hz]
  unfold toI
  have e1 : (z * (E20 : Int)).natAbs % E20 = 0 := by rw [Int.natAbs_mul]; simp
  have e2 : z * (E20 : Int) / (E20 : Int) = z := Int.mul_ediv_cancel _ (by have := E20_pos; omega)
  rw [e2, if_pos ⟨e1, h0, h1⟩]
section
variable {V w : World}
theorem toI_l (a : ByteArray) (ha : a.size ≤ 50000) (r : Int × Bool) (hr : toIR a.data.toList = r) (h : LW V w) : Calls Tryz.prog 24 #[.string a] w fun e w' => e = .returned (.tuple #[.int .i64 r.1, .bool r.2]) ∧ LW V w' := hr ▸ (toI_call a w h.env (by omega)).mono fun e w' ⟨he, hb⟩ => ⟨he, h.step hb⟩
theorem rtoI_l (a : ByteArray) (ha : a.size ≤ 50000) (r : Int × Bool) (hr : toIR a.data.toList = r) (h : LW V w) : Calls Tryz.prog 25 #[.string a] w fun e w' => e = .returned (.tuple #[.int .i64 r.1, .bool r.2]) ∧ LW V w' := hr ▸ (rtoInt_any a w ha).mono fun e w' ⟨he, hb⟩ => ⟨he, h.step hb⟩
theorem rofI_l (n : Int) (h0 : -9223372036854775808 ≤ n) (h1 : n ≤ 9223372036854775807) (t : ByteArray) (ht : canon (n * E20) = t.data.toList) (h : LW V w) : Calls Tryz.prog 29 #[.int .i64 n] w fun e w' => e = .returned (.string t) ∧ LW V w' :=
  (rofInt_any n w h0 h1).mono fun e w' ⟨he, hb⟩ => ⟨by rw [he, ht]; rfl, h.step hb⟩
theorem rread_l2 (a : ByteArray) (ha : a.size ≤ 50000) (r : List UInt8 × Int) (hr : readP a.data.toList = r) (h : LW V w) : Calls Tryz.prog 23 #[.string a] w fun e w' => e = .returned (.tuple #[.string (tx r.1), .int .i64 r.2]) ∧ LW V w' := hr ▸ (rread_any a w ha).mono fun e w' ⟨he, hb⟩ => ⟨he, h.step hb⟩
theorem rcheck_l2 (a : ByteArray) (ha : a.size ≤ 50000) (r : Bool) (hr : chk a.data.toList = r) (h : LW V w) : Calls Tryz.prog 27 #[.string a] w fun e w' => e = .returned (.bool r) ∧ LW V w' := hr ▸ (rcheck_any a w ha).mono fun e w' ⟨he, hb⟩ => ⟨he, h.step hb⟩
end
set_option maxRecDepth 100000 in
set_option maxHeartbeats 8000000 in
theorem reads_any (ao : Option Addr) (cap : Nat) (ss : List ByteArray) (bo : Option Addr) (cap2 : Nat) (zs : List Int) (W : World) (hE : Env W) (hlen : ss.length ≤ 9223372036854775807) (hlen2 : zs.length ≤ 9223372036854775807)
    (hc : TxtAt W ao ss) (hd : NumAt W bo zs) :
    Calls Tryz.prog 5 #[.agg #[.slice ao ss.length cap, .slice bo zs.length cap2]] W fun e w' => e = .returned (.bool true) ∧ Below W.heap.size W w' := by
  replace hc := Lib.hid hc
  replace hd := Lib.hid hd
  have hl0 := VB.lw hE (.slice ao ss.length cap) (.slice bo zs.length cap2)
  clear hE
  go_enter Tryz.func5, Tryz.ntmps5
  go_wp2
  go_loopw [3] (fun i wr => (∃ j : Nat, j ≤ ss.length ∧ i = .int .i64 j) ∧ LW (VB W (.slice ao ss.length cap) (.slice bo zs.length cap2)) wr) (fun i _ => ss.length - (intOf i).toNat)
  case atStart => exact ⟨⟨0, by omega, rfl⟩, hl0⟩
  case round =>
    clear hl0
    obtain ⟨⟨j, hj, rfl⟩, hlw⟩ := hrel
    obtain ⟨wo, rfl⟩ : ∃ wo : World, wo = wr := ⟨_, rfl⟩
    obtain ⟨hp, hp2⟩ := hlw.box
    obtain ⟨q, hq⟩ : ∃ q : Bool, decide (j < ss.length ∧ j < 48) = q := ⟨_, rfl⟩
    replace hq := Lib.hid hq
    go_upto_region 2 with (fail)
    go_cut [24] (fun v wx => v = .bool q ∧ wx = wo)
    case first =>
      as_aux_lemma =>
        by_cases h1 : j < ss.length
        · have h1i : (j : Int) < (ss.length : Int) := by omega
          by_cases h2 : j < 48
          · have h2i : (j : Int) < 48 := by omega
            obtain rfl : true = q := by rw [← hq.out]; exact (decide_eq_true ⟨h1, h2⟩).symm
            go_wp2
            go_meet
            exact ⟨rfl, rfl⟩
          · have h2i : ¬ (j : Int) < 48 := by omega
            obtain rfl : false = q := by rw [← hq.out]; exact (decide_eq_false (fun e => h2 e.2)).symm
            go_wp2
            go_meet
            exact ⟨rfl, rfl⟩
        · have h1i : ¬ (j : Int) < (ss.length : Int) := by omega
          obtain rfl : false = q := by rw [← hq.out]; exact (decide_eq_false (fun e => h1 e.1)).symm
          go_wp2
          go_meet
          exact ⟨rfl, rfl⟩
    obtain ⟨rfl, hwx⟩ := hcut
    rw [hwx]; clear hwx
    cases q
    case true =>
      obtain ⟨hlt, _⟩ := of_decide_eq_true hq.out
      have i1 : (j : Int) < (ss.length : Int) := by omega
      obtain ⟨b, off, rfl, hb, hc0⟩ := hc.out j hlt
      have ca := (hlw.old (p := ⟨b, off + j, none⟩) hb).trans hc0
      replace hc0 := Lib.hid hc0
      clear hq hc
      obtain ⟨A, hA⟩ : ∃ A, ss.getD j ByteArray.empty = A := ⟨_, rfl⟩
      rw [hA] at ca hc0
      clear hA
      cases h1 : sh A
      · go_wp2_with (go_at_call 7; refine (short_at _ h1 _).mono ?_; rintro e w' ⟨rfl, rfl⟩)
        all_goals
          go_roundw
          case rel => first | exact ⟨⟨j + 1, by omega, by go_num⟩, by assumption⟩ | ((repeat apply Exists.intro); exact ⟨⟨⟨j + 1, by omega, by go_num⟩, by assumption⟩, rfl⟩)
          case measure => simp [intOf]; omega
      have hs := sh_le2 h1
      obtain ⟨r1, hr1⟩ : ∃ r, readP A.data.toList = r := ⟨_, rfl⟩
      obtain ⟨r2, hr2⟩ : ∃ r, toIR A.data.toList = r := ⟨_, rfl⟩
      obtain ⟨r3, hr3⟩ : ∃ r, chk A.data.toList = r := ⟨_, rfl⟩
      replace hr1 := Lib.hid hr1
      replace hr2 := Lib.hid hr2
      replace hr3 := Lib.hid hr3
      go_wp2_with (go_at_call 7; refine (short_at _ h1 _).mono ?_; rintro e w' ⟨rfl, rfl⟩)
      refine (read_l A hs r1 hr1.out hlw).mono ?_
      rintro e w1 ⟨rfl, hl1⟩
      have ca := (hl1.old (p := ⟨b, off + j, none⟩) hb).trans hc0.out
      obtain ⟨hp, hp2⟩ := hl1.box
      clear hlw
      go_wp2_with fail
      refine (rread_l2 A hs r1 hr1.out hl1).mono ?_
      rintro e w2 ⟨rfl, hl2⟩
      have ca := (hl2.old (p := ⟨b, off + j, none⟩) hb).trans hc0.out
      obtain ⟨hp, hp2⟩ := hl2.box
      clear hl1
      go_wp2_with fail
      refine (toI_l A hs r2 hr2.out hl2).mono ?_
      rintro e w3 ⟨rfl, hl3⟩
      have ca := (hl3.old (p := ⟨b, off + j, none⟩) hb).trans hc0.out
      obtain ⟨hp, hp2⟩ := hl3.box
      clear hl2
      go_wp2_with fail
      refine (rtoI_l A hs r2 hr2.out hl3).mono ?_
      rintro e w4 ⟨rfl, hl4⟩
      have ca := (hl4.old (p := ⟨b, off + j, none⟩) hb).trans hc0.out
      obtain ⟨hp, hp2⟩ := hl4.box
      clear hl3
      go_upto_region 9 with (fail)
      go_cut [102] (fun v wx => v = .bool false ∧ LW (VB W (.slice (some ⟨b, off, none⟩) ss.length cap) (.slice bo zs.length cap2)) wx)
      case first =>
        as_aux_lemma =>
          clear hp hp2 ca
          have hS0 : LW (VB W (.slice (some ⟨b, off, none⟩) ss.length cap) (.slice bo zs.length cap2)) w4.drew := hl4.drewN 1
          refine wp_region_held_drew (S := LW (VB W (.slice (some ⟨b, off, none⟩) ss.length cap) (.slice bo zs.length cap2))) (by kernel_rfl) hS0 (fun hS => ?_)
          have hlV := hS0
          clear hS0 hl4
          generalize w4.drew = V0 at *
          generalize tx r1.1 = T at *
          generalize r1.2 = T2 at *
          generalize r2.1 = T3 at *
          generalize r2.2 = T4 at *
          refine wpAnyH_take (i := 0) (v := .string T) rfl (by kernel_rfl) (by kernel_rfl) (by kernel_rfl) (fun _ _ _ h => h) (.inl ⟨by kernel_rfl, fun _ _ => by kernel_rfl⟩) hS ?_; simp only [List.getElem_toArray, List.getElem_cons_succ, List.getElem_cons_zero, Act.put, List.setIfInBounds_toArray, List.set_cons_zero, List.set_cons_succ]
          refine wpAnyH_take (i := 1) (v := .string T) rfl (by kernel_rfl) (by kernel_rfl) (by kernel_rfl) (fun _ _ _ h => h) (.inl ⟨by kernel_rfl, fun _ _ => by kernel_rfl⟩) hS ?_; simp only [List.getElem_toArray, List.getElem_cons_succ, List.getElem_cons_zero, Act.put, List.setIfInBounds_toArray, List.set_cons_zero, List.set_cons_succ]
          refine wpAnyH_take (i := 2) (v := .bool false) rfl (by kernel_rfl) (by kernel_rfl) (by kernel_rfl) (fun _ _ _ h => h) (.inl ⟨by kernel_rfl, fun w' hS => by go_simp; try exact ⟨rfl, rfl, rfl⟩⟩) hS ?_; simp only [List.getElem_toArray, List.getElem_cons_succ, List.getElem_cons_zero, Act.put, List.setIfInBounds_toArray, List.set_cons_zero, List.set_cons_succ]
          refine wpAnyH_take (i := 3) (v := .bool false) rfl (by kernel_rfl) (by kernel_rfl) (by kernel_rfl) (fun _ _ _ h => h) (.inl ⟨by kernel_rfl, fun _ _ => by kernel_rfl⟩) hS ?_; simp only [List.getElem_toArray, List.getElem_cons_succ, List.getElem_cons_zero, Act.put, List.setIfInBounds_toArray, List.set_cons_zero, List.set_cons_succ]
          refine wpAnyH_take (i := 4) (v := .int .i64 T2) rfl (by kernel_rfl) (by kernel_rfl) (by kernel_rfl) (fun _ _ _ h => h) (.inl ⟨by kernel_rfl, fun _ _ => by kernel_rfl⟩) hS ?_; simp only [List.getElem_toArray, List.getElem_cons_succ, List.getElem_cons_zero, Act.put, List.setIfInBounds_toArray, List.set_cons_zero, List.set_cons_succ]
          refine wpAnyH_take (i := 5) (v := .int .i64 T2) rfl (by kernel_rfl) (by kernel_rfl) (by kernel_rfl) (fun _ _ _ h => h) (.inl ⟨by kernel_rfl, fun _ _ => by kernel_rfl⟩) hS ?_; simp only [List.getElem_toArray, List.getElem_cons_succ, List.getElem_cons_zero, Act.put, List.setIfInBounds_toArray, List.set_cons_zero, List.set_cons_succ]
          refine wpAnyH_take (i := 6) (v := .bool false) rfl (by kernel_rfl) (by kernel_rfl) (by kernel_rfl) (fun _ _ _ h => h) (.inl ⟨by kernel_rfl, fun w' hS => by go_simp; try exact ⟨rfl, rfl, rfl⟩⟩) hS ?_; simp only [List.getElem_toArray, List.getElem_cons_succ, List.getElem_cons_zero, Act.put, List.setIfInBounds_toArray, List.set_cons_zero, List.set_cons_succ]
          refine wpAnyH_take (i := 7) (v := .bool false) rfl (by kernel_rfl) (by kernel_rfl) (by kernel_rfl) (fun _ _ _ h => h) (.inl ⟨by kernel_rfl, fun _ _ => by kernel_rfl⟩) hS ?_; simp only [List.getElem_toArray, List.getElem_cons_succ, List.getElem_cons_zero, Act.put, List.setIfInBounds_toArray, List.set_cons_zero, List.set_cons_succ]
          refine wpAnyH_take (i := 8) (v := .bool false) rfl (by kernel_rfl) (by kernel_rfl) (by kernel_rfl) (fun _ _ _ h => h) (.inl ⟨by kernel_rfl, fun _ _ => by kernel_rfl⟩) hS ?_; simp only [List.getElem_toArray, List.getElem_cons_succ, List.getElem_cons_zero, Act.put, List.setIfInBounds_toArray, List.set_cons_zero, List.set_cons_succ]
          refine wpAnyH_take (i := 9) (v := .pointer (some ⟨W.heap.size, 0, none⟩)) rfl (by kernel_rfl) (by kernel_rfl) (by kernel_rfl) (fun _ _ _ h => h) (.inl ⟨by kernel_rfl, fun w' hS => by go_simp; try exact ⟨rfl, rfl, rfl⟩⟩) hS ?_; simp only [List.getElem_toArray, List.getElem_cons_succ, List.getElem_cons_zero, Act.put, List.setIfInBounds_toArray, List.set_cons_zero, List.set_cons_succ]
          refine wpAnyH_take (i := 10) (v := .slice (some ⟨b, off, none⟩) ss.length cap) rfl (by kernel_rfl) (by kernel_rfl) (by kernel_rfl) (fun _ _ _ h => h) (.inl ⟨by kernel_rfl, fun w' hS => by have hp := (LW.box hS).1; go_simp; try exact ⟨rfl, rfl, rfl⟩⟩) hS ?_; simp only [List.getElem_toArray, List.getElem_cons_succ, List.getElem_cons_zero, Act.put, List.setIfInBounds_toArray, List.set_cons_zero, List.set_cons_succ]
          refine wpAnyH_take (i := 11) (v := .int .i64 j) rfl (by kernel_rfl) (by kernel_rfl) (by kernel_rfl) (fun _ _ _ h => h) (.inl ⟨by kernel_rfl, fun _ _ => by kernel_rfl⟩) hS ?_; simp only [List.getElem_toArray, List.getElem_cons_succ, List.getElem_cons_zero, Act.put, List.setIfInBounds_toArray, List.set_cons_zero, List.set_cons_succ]
          refine wpAnyH_take (i := 12) (v := .pointer (some ⟨b, off + j, none⟩)) rfl (by kernel_rfl) (by kernel_rfl) (by kernel_rfl) (fun _ _ _ h => h) (.inl ⟨by kernel_rfl, fun w' hS => by go_simp; try exact ⟨rfl, rfl, rfl⟩⟩) hS ?_; simp only [List.getElem_toArray, List.getElem_cons_succ, List.getElem_cons_zero, Act.put, List.setIfInBounds_toArray, List.set_cons_zero, List.set_cons_succ]
          refine wpAnyH_take (i := 13) (v := .string A) rfl (by kernel_rfl) (by kernel_rfl) (by kernel_rfl) (fun _ _ _ h => h) (.inl ⟨by kernel_rfl, fun w' hS => by have ca := (LW.old hS (p := ⟨b, off + j, none⟩) hb).trans hc0.out; go_simp; try exact ⟨rfl, rfl, rfl⟩⟩) hS ?_; simp only [List.getElem_toArray, List.getElem_cons_succ, List.getElem_cons_zero, Act.put, List.setIfInBounds_toArray, List.set_cons_zero, List.set_cons_succ]
          refine wpAnyH_take (i := 15) (v := .pointer (some ⟨W.heap.size, 0, none⟩)) rfl (by kernel_rfl) (by kernel_rfl) (by kernel_rfl) (fun _ _ _ h => h) (.inl ⟨by kernel_rfl, fun w' hS => by go_simp; try exact ⟨rfl, rfl, rfl⟩⟩) hS ?_; simp only [List.getElem_toArray, List.getElem_cons_succ, List.getElem_cons_zero, Act.put, List.setIfInBounds_toArray, List.set_cons_zero, List.set_cons_succ]
          refine wpAnyH_take (i := 16) (v := .slice (some ⟨b, off, none⟩) ss.length cap) rfl (by kernel_rfl) (by kernel_rfl) (by kernel_rfl) (fun _ _ _ h => h) (.inl ⟨by kernel_rfl, fun w' hS => by have hp := (LW.box hS).1; go_simp; try exact ⟨rfl, rfl, rfl⟩⟩) hS ?_; simp only [List.getElem_toArray, List.getElem_cons_succ, List.getElem_cons_zero, Act.put, List.setIfInBounds_toArray, List.set_cons_zero, List.set_cons_succ]
          refine wpAnyH_take (i := 17) (v := .int .i64 j) rfl (by kernel_rfl) (by kernel_rfl) (by kernel_rfl) (fun _ _ _ h => h) (.inl ⟨by kernel_rfl, fun _ _ => by kernel_rfl⟩) hS ?_; simp only [List.getElem_toArray, List.getElem_cons_succ, List.getElem_cons_zero, Act.put, List.setIfInBounds_toArray, List.set_cons_zero, List.set_cons_succ]
          refine wpAnyH_take (i := 18) (v := .pointer (some ⟨b, off + j, none⟩)) rfl (by kernel_rfl) (by kernel_rfl) (by kernel_rfl) (fun _ _ _ h => h) (.inl ⟨by kernel_rfl, fun w' hS => by go_simp; try exact ⟨rfl, rfl, rfl⟩⟩) hS ?_; simp only [List.getElem_toArray, List.getElem_cons_succ, List.getElem_cons_zero, Act.put, List.setIfInBounds_toArray, List.set_cons_zero, List.set_cons_succ]
          refine wpAnyH_take (i := 19) (v := .string A) rfl (by kernel_rfl) (by kernel_rfl) (by kernel_rfl) (fun _ _ _ h => h) (.inl ⟨by kernel_rfl, fun w' hS => by have ca := (LW.old hS (p := ⟨b, off + j, none⟩) hb).trans hc0.out; go_simp; try exact ⟨rfl, rfl, rfl⟩⟩) hS ?_; simp only [List.getElem_toArray, List.getElem_cons_succ, List.getElem_cons_zero, Act.put, List.setIfInBounds_toArray, List.set_cons_zero, List.set_cons_succ]
          refine wpAnyH_ready (rs := [14]) (by kernel_rfl) (by simp) ?_
          refine AllReadyH.cons rfl (fun K hK => ?_) AllReadyH.nil
          clear hS
          go_simp
          refine (chk_at A hr3.out hlV).mono ?_
          rintro e w5 ⟨rfl, hl5⟩
          go_wp2_with fail
          refine hK.out _ _ (hl5) (fun hS => ?_)
          clear hK K
          try simp only [List.getElem_toArray, List.getElem_cons_succ, List.getElem_cons_zero, Act.put, List.setIfInBounds_toArray, List.set_cons_zero, List.set_cons_succ]
          refine wpAnyH_ready (rs := [20]) (by kernel_rfl) (by simp) ?_
          refine AllReadyH.cons rfl (fun K hK => ?_) AllReadyH.nil
          clear hS
          go_simp
          refine (rcheck_l2 A hs r3 hr3.out hl5).mono ?_
          rintro e w6 ⟨rfl, hl6⟩
          go_wp2_with fail
          refine hK.out _ _ (hl6) (fun hS => ?_)
          clear hK K
          try simp only [List.getElem_toArray, List.getElem_cons_succ, List.getElem_cons_zero, Act.put, List.setIfInBounds_toArray, List.set_cons_zero, List.set_cons_succ]
          refine wpAnyH_take (i := 21) (v := .bool false) rfl (by kernel_rfl) (by kernel_rfl) (by kernel_rfl) (fun _ _ _ h => h) (.inl ⟨by kernel_rfl, fun w' hS => by go_simp; try exact ⟨rfl, rfl, rfl⟩⟩) hS ?_; simp only [List.getElem_toArray, List.getElem_cons_succ, List.getElem_cons_zero, Act.put, List.setIfInBounds_toArray, List.set_cons_zero, List.set_cons_succ]
          refine wpAnyH_take (i := 22) (v := .bool false) rfl (by kernel_rfl) (by kernel_rfl) (by kernel_rfl) (fun _ _ _ h => h) (.inl ⟨by kernel_rfl, fun _ _ => by kernel_rfl⟩) hS ?_; simp only [List.getElem_toArray, List.getElem_cons_succ, List.getElem_cons_zero, Act.put, List.setIfInBounds_toArray, List.set_cons_zero, List.set_cons_succ]
          refine wpAnyH_take (i := 23) (v := .bool false) rfl (by kernel_rfl) (by kernel_rfl) (by kernel_rfl) (fun _ _ _ h => h) (.inl ⟨by kernel_rfl, fun _ _ => by kernel_rfl⟩) hS ?_; simp only [List.getElem_toArray, List.getElem_cons_succ, List.getElem_cons_zero, Act.put, List.setIfInBounds_toArray, List.set_cons_zero, List.set_cons_succ]
          refine wpAnyH_take (i := 24) (v := .int .i64 T3) rfl (by kernel_rfl) (by kernel_rfl) (by kernel_rfl) (fun _ _ _ h => h) (.inl ⟨by kernel_rfl, fun _ _ => by kernel_rfl⟩) hS ?_; simp only [List.getElem_toArray, List.getElem_cons_succ, List.getElem_cons_zero, Act.put, List.setIfInBounds_toArray, List.set_cons_zero, List.set_cons_succ]
          refine wpAnyH_take (i := 25) (v := .int .i64 T3) rfl (by kernel_rfl) (by kernel_rfl) (by kernel_rfl) (fun _ _ _ h => h) (.inl ⟨by kernel_rfl, fun _ _ => by kernel_rfl⟩) hS ?_; simp only [List.getElem_toArray, List.getElem_cons_succ, List.getElem_cons_zero, Act.put, List.setIfInBounds_toArray, List.set_cons_zero, List.set_cons_succ]
          refine wpAnyH_take (i := 26) (v := .bool false) rfl (by kernel_rfl) (by kernel_rfl) (by kernel_rfl) (fun _ _ _ h => h) (.inl ⟨by kernel_rfl, fun w' hS => by go_simp; try exact ⟨rfl, rfl, rfl⟩⟩) hS ?_; simp only [List.getElem_toArray, List.getElem_cons_succ, List.getElem_cons_zero, Act.put, List.setIfInBounds_toArray, List.set_cons_zero, List.set_cons_succ]
          refine wpAnyH_take (i := 27) (v := .bool false) rfl (by kernel_rfl) (by kernel_rfl) (by kernel_rfl) (fun _ _ _ h => h) (.inl ⟨by kernel_rfl, fun _ _ => by kernel_rfl⟩) hS ?_; simp only [List.getElem_toArray, List.getElem_cons_succ, List.getElem_cons_zero, Act.put, List.setIfInBounds_toArray, List.set_cons_zero, List.set_cons_succ]
          refine wpAnyH_take (i := 28) (v := .bool false) rfl (by kernel_rfl) (by kernel_rfl) (by kernel_rfl) (fun _ _ _ h => h) (.inl ⟨by kernel_rfl, fun _ _ => by kernel_rfl⟩) hS ?_; simp only [List.getElem_toArray, List.getElem_cons_succ, List.getElem_cons_zero, Act.put, List.setIfInBounds_toArray, List.set_cons_zero, List.set_cons_succ]
          refine wpAnyH_take (i := 29) (v := .bool T4) rfl (by kernel_rfl) (by kernel_rfl) (by kernel_rfl) (fun _ _ _ h => h) (.inl ⟨by kernel_rfl, fun _ _ => by kernel_rfl⟩) hS ?_; simp only [List.getElem_toArray, List.getElem_cons_succ, List.getElem_cons_zero, Act.put, List.setIfInBounds_toArray, List.set_cons_zero, List.set_cons_succ]
          refine wpAnyH_take (i := 30) (v := .bool T4) rfl (by kernel_rfl) (by kernel_rfl) (by kernel_rfl) (fun _ _ _ h => h) (.inl ⟨by kernel_rfl, fun _ _ => by kernel_rfl⟩) hS ?_; simp only [List.getElem_toArray, List.getElem_cons_succ, List.getElem_cons_zero, Act.put, List.setIfInBounds_toArray, List.set_cons_zero, List.set_cons_succ]
          refine wpAnyH_take (i := 31) (v := .bool false) rfl (by kernel_rfl) (by kernel_rfl) (by kernel_rfl) (fun _ _ _ h => h) (.inl ⟨by kernel_rfl, fun w' hS => by go_simp; try exact ⟨rfl, rfl, rfl⟩⟩) hS ?_; simp only [List.getElem_toArray, List.getElem_cons_succ, List.getElem_cons_zero, Act.put, List.setIfInBounds_toArray, List.set_cons_zero, List.set_cons_succ]
          refine wpAnyH_take (i := 32) (v := .bool false) rfl (by kernel_rfl) (by kernel_rfl) (by kernel_rfl) (fun _ _ _ h => h) (.inl ⟨by kernel_rfl, fun _ _ => by kernel_rfl⟩) hS ?_; simp only [List.getElem_toArray, List.getElem_cons_succ, List.getElem_cons_zero, Act.put, List.setIfInBounds_toArray, List.set_cons_zero, List.set_cons_succ]
          refine wpAnyH_done (by kernel_rfl) ?_ _
          go_wp2_with fail
          go_meet
          exact ⟨rfl, hl6⟩
      obtain ⟨rfl, hl9⟩ := hcut
      clear hl4 ca hp hp2
      go_wp2
      all_goals
        go_roundw
        case rel => first | exact ⟨⟨j + 1, by omega, by go_num⟩, by assumption⟩ | ((repeat apply Exists.intro); exact ⟨⟨⟨j + 1, by omega, by go_num⟩, by assumption⟩, rfl⟩)
        case measure => simp [intOf]; omega
    case false =>
      clear hp hq hc
      go_wp2_with fail
      go_loopw [12] (fun i wr => (∃ j : Nat, j ≤ zs.length ∧ i = .int .i64 j) ∧ LW (VB W (.slice ao ss.length cap) (.slice bo zs.length cap2)) wr) (fun i _ => zs.length - (intOf i).toNat)
      case atStart => exact ⟨⟨0, by omega, rfl⟩, hlw⟩
      case round =>
        clear hlw hp2
        obtain ⟨⟨i, hi, rfl⟩, hlw⟩ := hrel
        obtain ⟨w0, rfl⟩ : ∃ w0 : World, w0 = wr := ⟨_, rfl⟩
        obtain ⟨hp, hp2⟩ := hlw.box
        obtain ⟨q, hq⟩ : ∃ q : Bool, decide (i < zs.length ∧ i < 48) = q := ⟨_, rfl⟩
        replace hq := Lib.hid hq
        go_upto_region 12 with (fail)
        go_cut [111] (fun v wx => v = .bool q ∧ wx = w0)
        case first =>
          as_aux_lemma =>
            by_cases h1 : i < zs.length
            · have h1i : (i : Int) < (zs.length : Int) := by omega
              by_cases h2 : i < 48
              · have h2i : (i : Int) < 48 := by omega
                obtain rfl : true = q := by rw [← hq.out]; exact (decide_eq_true ⟨h1, h2⟩).symm
                go_wp2
                go_meet
                exact ⟨rfl, rfl⟩
              · have h2i : ¬ (i : Int) < 48 := by omega
                obtain rfl : false = q := by rw [← hq.out]; exact (decide_eq_false (fun e => h2 e.2)).symm
                go_wp2
                go_meet
                exact ⟨rfl, rfl⟩
            · have h1i : ¬ (i : Int) < (zs.length : Int) := by omega
              obtain rfl : false = q := by rw [← hq.out]; exact (decide_eq_false (fun e => h1 e.1)).symm
              go_wp2
              go_meet
              exact ⟨rfl, rfl⟩
        obtain ⟨rfl, hwx⟩ := hcut
        rw [hwx]; clear hwx
        cases q
        case true =>
          obtain ⟨hlt, _⟩ := of_decide_eq_true hq.out
          have i1 : (i : Int) < (zs.length : Int) := by omega
          obtain ⟨b, off, rfl, hb, hc0, z0, z1⟩ := hd.out i hlt
          have cz := (hlw.old (p := ⟨b, off + i, none⟩) hb).trans hc0
          replace hc0 := Lib.hid hc0
          clear hq hd
          obtain ⟨Z, hZ⟩ : ∃ Z, zs.getD i 0 = Z := ⟨_, rfl⟩
          rw [hZ] at cz hc0 z0 z1
          clear hZ
          have hto := toIR_canon Z z0 z1
          obtain ⟨t, ht⟩ : ∃ t : ByteArray, canon (Z * E20) = t.data.toList := ⟨tx (canon (Z * E20)), rfl⟩
          rw [ht] at hto
          have hts : t.size ≤ 50000 := by
            have h1 := canon_len _ (ofInt_small Z z0 z1)
            rw [ht] at h1
            have e1 : t.data.toList.length = t.size := by simp
            omega
          replace ht := Lib.hid ht
          replace hto := Lib.hid hto
          go_wp2_with fail
          refine (ofInt_l Z z0 z1 t ht.out hlw).mono ?_
          rintro e w1 ⟨rfl, hl1⟩
          have cz := (hl1.old (p := ⟨b, off + i, none⟩) hb).trans hc0.out
          obtain ⟨hp, hp2⟩ := hl1.box
          clear hlw
          go_wp2_with fail
          refine (toI_l t hts (Z, true) hto.out hl1).mono ?_
          rintro e w2 ⟨rfl, hl2⟩
          have cz := (hl2.old (p := ⟨b, off + i, none⟩) hb).trans hc0.out
          obtain ⟨hp, hp2⟩ := hl2.box
          clear hl1
          go_wp2_with fail
          refine (rofI_l Z z0 z1 t ht.out hl2).mono ?_
          rintro e w3 ⟨rfl, hl3⟩
          have cz := (hl3.old (p := ⟨b, off + i, none⟩) hb).trans hc0.out
          obtain ⟨hp, hp2⟩ := hl3.box
          clear hl2
          go_wp2
          go_roundw
          case rel => exact ⟨⟨i + 1, by omega, by go_num⟩, hl3⟩
          case measure => simp [intOf]; omega
        case false =>
          clear hp hp2 hq hd
          go_wp2_with (go_at_call 6; refine (wakes_l hlw).mono ?_; rintro e w' ⟨rfl, hw⟩)
          go_ret
          exact ⟨rfl, hw.below⟩
end Go.Proofs.YtnnojhgnfmieoaaGreatDoor.dec
