/- A difference with a union is one difference behind the other; a projection of a projection is one; a join with a union is the union of joins, but for the order of rows; unions in other order and grouping: for every two tables, a list of variables, a language and a list of numbers, not above the bound of the statement, that may be read, where the listed variables of the library hold what the program's text lays. -/
import Derived.Test.YtjpondgobogkeaaGreatDoorTabPartsA
import Derived.Test.YtjpondgobogkeaaGreatDoorTabWake
namespace Go.Proofs.YtjpondgobogkeaaGreatDoor.tab
open Go.ChangeShapes Go.WideShapes Go.ChangeAt Go.RowKit kit dec val
open hyp (RowA TextsA CellsStay stay_of_below textsV textsV_length own_row)
set_option linter.unusedVariables false
set_option linter.unusedSimpArgs false
set_option maxRecDepth 100000 in
set_option maxHeartbeats 8000000 in
theorem rparts_any (w : World) (hE : Env w) (v va ra vb rb vv nv : Value) (A B : Tab) (X : List ByteArray) (lang : Int) (L : List Int) (hT : TwoA w 1048576 v va ra vb rb vv nv A B X lang L) :
    Calls Tryz.prog 4 #[v] w fun e w' => e = .returned (.bool true) ∧ Below w.heap.size w w' := by
  obtain ⟨av, cv, hav, -⟩ := hT.av.form
  obtain ⟨ar, cr, har, -, -⟩ := hT.ar.form
  obtain ⟨bv, dv, hbv, -⟩ := hT.bv.form
  obtain ⟨br, dr, hbr, -, -⟩ := hT.br.form
  obtain ⟨xv, ex, hxv, -⟩ := hT.xs.form
  obtain ⟨nv, en, hnv, -, -⟩ := hT.ns.form
  rw [hyp.numsV_length] at hnv
  subst hav har hbv hbr hxv hnv
  have hveq := hT.eq
  subst hveq
  have hcapB : B.rows.length ≤ dr := by
    obtain ⟨a, c, e, h, -⟩ := hT.br.form
    injection e with e1 e2 e3
    omega
  have hq := Blk.new w #[.slice av A.vars.length cv, .slice ar A.rows.length cr, .slice bv B.vars.length dv, .slice br B.rows.length dr, .slice xv X.length ex, .int .i64 lang, .slice nv L.length en] 28
  have hal : Below w.heap.size w (w.alloc (.cells #[.slice av A.vars.length cv, .slice ar A.rows.length cr, .slice bv B.vars.length dv, .slice br B.rows.length dr, .slice xv X.length ex, .int .i64 lang, .slice nv L.length en] 28)) := (Below.refl _ _).alloc (Nat.le_refl _) _
  have cM := Lib.hid (lmay_any _ _ _ _ _ _ _ _ A B X lang L (hT.stay hal))
  have x0 := hq.cell 0 rfl
  have x1 := hq.cell 1 rfl
  have x2 := hq.cell 2 rfl
  have x3 := hq.cell 3 rfl
  have x4 := hq.cell 4 rfl
  have x5 := hq.cell 5 rfl
  have x6 := hq.cell 6 rfl
  obtain ⟨m, hm⟩ : ∃ m, mayL A B = m := ⟨_, rfl⟩
  rw [hm] at cM
  replace hm := Lib.hid hm
  replace hal := Lib.hid hal
  clear hq
  go_enter Tryz.func4, Tryz.ntmps4
  go_wp2_with fail
  refine cM.out.mono ?_
  rintro e w2 ⟨rfl, hb2⟩
  replace x0 := (stay_of_below hb2).cell x0
  replace x1 := (stay_of_below hb2).cell x1
  replace x2 := (stay_of_below hb2).cell x2
  replace x3 := (stay_of_below hb2).cell x3
  replace x4 := (stay_of_below hb2).cell x4
  replace x5 := (stay_of_below hb2).cell x5
  replace x6 := (stay_of_below hb2).cell x6
  have hB2 := Lib.hid (hal.out.trans (hb2.mono hal.out.size))
  clear cM hb2 hal
  cases m with
  | false =>
    go_wp2_with fail
    refine (wakes9_any _ (hE.below hB2.out)).mono ?_
    rintro e wz ⟨rfl, hbz⟩
    have hbzz := Lib.hid (hB2.out.trans (hbz.mono hB2.out.size))
    clear hbz
    go_wp2
    go_ret
    exact ⟨rfl, hbzz.out⟩
  | true =>
    obtain ⟨hmA, hmB, h64, h900, h60a, h60b⟩ := may_parts hm.out
    obtain ⟨n, hn⟩ : ∃ n, B.rows.length / 2 = n := ⟨_, rfl⟩
    have hnI : ((B.rows.length : Int) / 2) = (n : Int) := by omega
    have hnT : ((B.rows.length : Int).tdiv 2) = (n : Int) := by rw [Int.tdiv_eq_ediv_of_nonneg (by omega)]; exact hnI
    have hwn : IntKind.i64.wrap (n : Int) = (n : Int) := IntWalk.i64_in _ (by omega)
    have hn0 : (0 : Int) ≤ (n : Int) := by omega
    have hnl : (n : Int) ≤ (B.rows.length : Int) := by omega
    have hnc : (n : Int) ≤ (dr : Int) := by omega
    have hT2 := Lib.hid (fun V (h : Below w2.heap.size w2 V) => hT.stay (hB2.out.trans (h.mono hB2.out.size)))
    have hE2 := Lib.hid (fun V (h : Below w2.heap.size w2 V) => hE.below (hB2.out.trans (h.mono hB2.out.size)))
    replace hm := Lib.hid hm
    replace hn := Lib.hid hn
    go_wp2
    have hcn9 : (1048576 : Nat) = 1048576 := rfl
    obtain ⟨m1, hm1⟩ : ∃ m1, A.vars.length / 2 = m1 := ⟨_, rfl⟩
    have hmI : ((A.vars.length : Int) / 2) = (m1 : Int) := by omega
    have hmT : ((A.vars.length : Int).tdiv 2) = (m1 : Int) := by rw [Int.tdiv_eq_ediv_of_nonneg (by omega)]; exact hmI
    have hwm : IntKind.i64.wrap (m1 : Int) = (m1 : Int) := IntWalk.i64_in _ (by have := (names_parts (may_rows hmA).1).1; omega)
    have hm0 : (0 : Int) ≤ (m1 : Int) := by omega
    have hcapA : A.vars.length ≤ cv := by
      rcases hT.av.row with ⟨ao, cap, hv, hl⟩ | ⟨b, off, cap, hv, h4, hc, hB, hj⟩
      · have h1 : (textsV A.vars).length = 0 := by rw [hl]; rfl
        rw [textsV_length] at h1; omega
      · injection hv with e1 e2 e3
        rw [textsV_length] at hc; omega
    have hmc : (m1 : Int) ≤ (cv : Int) := by omega
    have hnlen : n ≤ B.rows.length := by have := hn.out; omega
    have hmlen : m1 ≤ A.vars.length := by omega
    replace hm1 := Lib.hid hm1
    replace hcapA := Lib.hid hcapA
    replace hcapB := Lib.hid hcapB
    clear hcn9
    go_upto_region 4 with fail
    have hbV : Below w2.heap.size w2 (w2).drew := (below_drewN (Below.refl _ _) 1)
    refine wp_region_held_drew (S := fun V => Below w2.heap.size w2 V) (by kernel_rfl) hbV (fun hS => ?_)
    generalize (w2).drew = V0 at *
    refine wpAnyH_take (i := 0) (v := ?_) rfl (by kernel_rfl) (by kernel_rfl) (by kernel_rfl) (fun _ _ _ h => h) (.inl ⟨by kernel_rfl, fun w' hS => ?_⟩) hS ?_
    rotate_left
    ·
      have y0 := (stay_of_below hS).cell x0; have y1 := (stay_of_below hS).cell x1; have y2 := (stay_of_below hS).cell x2; have y3 := (stay_of_below hS).cell x3
      go_simp
      try with_reducible rfl
    simp only [List.getElem_toArray, List.getElem_cons_succ, List.getElem_cons_zero, Act.put, List.setIfInBounds_toArray, List.set_cons_zero, List.set_cons_succ]
    refine wpAnyH_take (i := 1) (v := ?_) rfl (by kernel_rfl) (by kernel_rfl) (by kernel_rfl) (fun _ _ _ h => h) (.inl ⟨by kernel_rfl, fun w' hS => ?_⟩) hS ?_
    rotate_left
    ·
      have y0 := (stay_of_below hS).cell x0; have y1 := (stay_of_below hS).cell x1; have y2 := (stay_of_below hS).cell x2; have y3 := (stay_of_below hS).cell x3
      go_simp
      try with_reducible rfl
    simp only [List.getElem_toArray, List.getElem_cons_succ, List.getElem_cons_zero, Act.put, List.setIfInBounds_toArray, List.set_cons_zero, List.set_cons_succ]
    refine wpAnyH_take (i := 2) (v := ?_) rfl (by kernel_rfl) (by kernel_rfl) (by kernel_rfl) (fun _ _ _ h => h) (.inl ⟨by kernel_rfl, fun w' hS => ?_⟩) hS ?_
    rotate_left
    ·
      have y0 := (stay_of_below hS).cell x0; have y1 := (stay_of_below hS).cell x1; have y2 := (stay_of_below hS).cell x2; have y3 := (stay_of_below hS).cell x3
      go_simp
      try with_reducible rfl
    simp only [List.getElem_toArray, List.getElem_cons_succ, List.getElem_cons_zero, Act.put, List.setIfInBounds_toArray, List.set_cons_zero, List.set_cons_succ]
    refine wpAnyH_take (i := 3) (v := ?_) rfl (by kernel_rfl) (by kernel_rfl) (by kernel_rfl) (fun _ _ _ h => h) (.inl ⟨by kernel_rfl, fun w' hS => ?_⟩) hS ?_
    rotate_left
    ·
      have y0 := (stay_of_below hS).cell x0; have y1 := (stay_of_below hS).cell x1; have y2 := (stay_of_below hS).cell x2; have y3 := (stay_of_below hS).cell x3
      go_simp
      try with_reducible rfl
    simp only [List.getElem_toArray, List.getElem_cons_succ, List.getElem_cons_zero, Act.put, List.setIfInBounds_toArray, List.set_cons_zero, List.set_cons_succ]
    refine wpAnyH_take (i := 4) (v := ?_) rfl (by kernel_rfl) (by kernel_rfl) (by kernel_rfl) (fun _ _ _ h => h) (.inl ⟨by kernel_rfl, fun w' hS => ?_⟩) hS ?_
    rotate_left
    ·
      have y0 := (stay_of_below hS).cell x0; have y1 := (stay_of_below hS).cell x1; have y2 := (stay_of_below hS).cell x2; have y3 := (stay_of_below hS).cell x3
      go_simp
      try with_reducible rfl
    simp only [List.getElem_toArray, List.getElem_cons_succ, List.getElem_cons_zero, Act.put, List.setIfInBounds_toArray, List.set_cons_zero, List.set_cons_succ]
    refine wpAnyH_take (i := 5) (v := ?_) rfl (by kernel_rfl) (by kernel_rfl) (by kernel_rfl) (fun _ _ _ h => h) (.inl ⟨by kernel_rfl, fun w' hS => ?_⟩) hS ?_
    rotate_left
    ·
      have y0 := (stay_of_below hS).cell x0; have y1 := (stay_of_below hS).cell x1; have y2 := (stay_of_below hS).cell x2; have y3 := (stay_of_below hS).cell x3
      go_simp
      try with_reducible rfl
    simp only [List.getElem_toArray, List.getElem_cons_succ, List.getElem_cons_zero, Act.put, List.setIfInBounds_toArray, List.set_cons_zero, List.set_cons_succ]
    refine wpAnyH_take (i := 6) (v := ?_) rfl (by kernel_rfl) (by kernel_rfl) (by kernel_rfl) (fun _ _ _ h => h) (.inl ⟨by kernel_rfl, fun w' hS => ?_⟩) hS ?_
    rotate_left
    ·
      have y0 := (stay_of_below hS).cell x0; have y1 := (stay_of_below hS).cell x1; have y2 := (stay_of_below hS).cell x2; have y3 := (stay_of_below hS).cell x3
      go_simp
      try with_reducible rfl
    simp only [List.getElem_toArray, List.getElem_cons_succ, List.getElem_cons_zero, Act.put, List.setIfInBounds_toArray, List.set_cons_zero, List.set_cons_succ]
    refine wpAnyH_take (i := 7) (v := ?_) rfl (by kernel_rfl) (by kernel_rfl) (by kernel_rfl) (fun _ _ _ h => h) (.inl ⟨by kernel_rfl, fun w' hS => ?_⟩) hS ?_
    rotate_left
    ·
      skip
      go_simp
      try with_reducible rfl
    simp only [List.getElem_toArray, List.getElem_cons_succ, List.getElem_cons_zero, Act.put, List.setIfInBounds_toArray, List.set_cons_zero, List.set_cons_succ]
    refine wpAnyH_take (i := 8) (v := ?_) rfl (by kernel_rfl) (by kernel_rfl) (by kernel_rfl) (fun _ _ _ h => h) (.inl ⟨by kernel_rfl, fun w' hS => ?_⟩) hS ?_
    rotate_left
    ·
      skip
      go_simp
      try with_reducible rfl
    simp only [List.getElem_toArray, List.getElem_cons_succ, List.getElem_cons_zero, Act.put, List.setIfInBounds_toArray, List.set_cons_zero, List.set_cons_succ]
    refine wpAnyH_ready (rs := [9]) (by kernel_rfl) (by simp) ?_
    refine AllReadyH.cons rfl (fun K hK => ?_) AllReadyH.nil
    clear hS
    go_simp
    go_wp2_with fail
    have hal : Below V0.heap.size V0 (V0.alloc (.cells #[.slice none 0 0, .slice none 0 0] 25)) := (Below.refl _ _).alloc (Nat.le_refl _) _
    have hq := Blk.new V0 #[.slice none 0 0, .slice none 0 0] 25
    refine hK.out _ _ (hbV.trans (hal.mono hbV.size)) (fun hS => ?_)
    clear hK K
    try simp only [List.getElem_toArray, List.getElem_cons_succ, List.getElem_cons_zero, Act.put, List.setIfInBounds_toArray, List.set_cons_zero, List.set_cons_succ]
    refine wpAnyH_ready (rs := [10]) (by kernel_rfl) (by simp) ?_
    refine AllReadyH.cons rfl (fun K hK => ?_) AllReadyH.nil
    clear hS
    have f1 := hq.free
    have z0 := hq.cell 0 rfl
    have z1 := hq.cell 1 rfl
    have hq2 := Blk.new V0 #[.slice bv B.vars.length dv, .slice br n dr] 25
    have hbW : Below w2.heap.size w2 (V0.alloc (.cells #[.slice bv B.vars.length dv, .slice br n dr] 25)) := hbV.alloc hbV.size _
    go_simp
    go_wp2_with fail
    refine hK.out _ _ hbW (fun hS => ?_)
    clear hK K
    try simp only [List.getElem_toArray, List.getElem_cons_succ, List.getElem_cons_zero, Act.put, List.setIfInBounds_toArray, List.set_cons_zero, List.set_cons_succ]
    refine wpAnyH_done (by kernel_rfl) ?_ _
    clear hS f1 z0 z1 hq hal hbV
    obtain ⟨p3, hp3⟩ : ∃ p3, V0.heap.size = p3 := ⟨_, rfl⟩
    try rw [hp3]
    rw [hp3] at hq2
    generalize V0.alloc (.cells #[.slice bv B.vars.length dv, .slice br n dr] 25) = w3 at *
    have hq3 := hq2
    have hb3 := hbW
    clear hq2 hbW
    replace hp3 := Lib.hid hp3
    replace x0 := (stay_of_below hb3).cell x0
    replace x1 := (stay_of_below hb3).cell x1
    replace x2 := (stay_of_below hb3).cell x2
    replace x3 := (stay_of_below hb3).cell x3
    replace x4 := (stay_of_below hb3).cell x4
    replace x5 := (stay_of_below hb3).cell x5
    replace x6 := (stay_of_below hb3).cell x6
    obtain ⟨br2, hbr2⟩ : ∃ br2, (if dr = n then br else br.map (·.add (n * 1))) = br2 := ⟨_, rfl⟩
    have hbr2n : Hid ((if dr = n then br else Option.map (fun x => x.add n) br) = br2) := Lib.hid (by rw [← hbr2, Nat.mul_one])
    replace hbr2 := Lib.hid hbr2
    go_upto_region 5 with fail
    have hbV : Below w3.heap.size w3 (w3).drew := (below_drewN (Below.refl _ _) 1)
    refine wp_region_held_drew (S := fun V => Below w3.heap.size w3 V) (by kernel_rfl) hbV (fun hS => ?_)
    generalize (w3).drew = V0 at *
    refine wpAnyH_take (i := 0) (v := ?_) rfl (by kernel_rfl) (by kernel_rfl) (by kernel_rfl) (fun _ _ _ h => h) (.inl ⟨by kernel_rfl, fun w' hS => ?_⟩) hS ?_
    rotate_left
    ·
      have y0 := (stay_of_below hS).cell x0; have y1 := (stay_of_below hS).cell x1; have y2 := (stay_of_below hS).cell x2; have y3 := (stay_of_below hS).cell x3
      go_simp
      try with_reducible rfl
    simp only [List.getElem_toArray, List.getElem_cons_succ, List.getElem_cons_zero, Act.put, List.setIfInBounds_toArray, List.set_cons_zero, List.set_cons_succ]
    refine wpAnyH_take (i := 1) (v := ?_) rfl (by kernel_rfl) (by kernel_rfl) (by kernel_rfl) (fun _ _ _ h => h) (.inl ⟨by kernel_rfl, fun w' hS => ?_⟩) hS ?_
    rotate_left
    ·
      have y0 := (stay_of_below hS).cell x0; have y1 := (stay_of_below hS).cell x1; have y2 := (stay_of_below hS).cell x2; have y3 := (stay_of_below hS).cell x3
      go_simp
      try with_reducible rfl
    simp only [List.getElem_toArray, List.getElem_cons_succ, List.getElem_cons_zero, Act.put, List.setIfInBounds_toArray, List.set_cons_zero, List.set_cons_succ]
    refine wpAnyH_take (i := 2) (v := ?_) rfl (by kernel_rfl) (by kernel_rfl) (by kernel_rfl) (fun _ _ _ h => h) (.inl ⟨by kernel_rfl, fun w' hS => ?_⟩) hS ?_
    rotate_left
    ·
      have y0 := (stay_of_below hS).cell x0; have y1 := (stay_of_below hS).cell x1; have y2 := (stay_of_below hS).cell x2; have y3 := (stay_of_below hS).cell x3
      go_simp
      try with_reducible rfl
    simp only [List.getElem_toArray, List.getElem_cons_succ, List.getElem_cons_zero, Act.put, List.setIfInBounds_toArray, List.set_cons_zero, List.set_cons_succ]
    refine wpAnyH_take (i := 3) (v := ?_) rfl (by kernel_rfl) (by kernel_rfl) (by kernel_rfl) (fun _ _ _ h => h) (.inl ⟨by kernel_rfl, fun w' hS => ?_⟩) hS ?_
    rotate_left
    ·
      have y0 := (stay_of_below hS).cell x0; have y1 := (stay_of_below hS).cell x1; have y2 := (stay_of_below hS).cell x2; have y3 := (stay_of_below hS).cell x3
      go_simp
      try with_reducible rfl
    simp only [List.getElem_toArray, List.getElem_cons_succ, List.getElem_cons_zero, Act.put, List.setIfInBounds_toArray, List.set_cons_zero, List.set_cons_succ]
    refine wpAnyH_take (i := 4) (v := ?_) rfl (by kernel_rfl) (by kernel_rfl) (by kernel_rfl) (fun _ _ _ h => h) (.inl ⟨by kernel_rfl, fun w' hS => ?_⟩) hS ?_
    rotate_left
    ·
      have y0 := (stay_of_below hS).cell x0; have y1 := (stay_of_below hS).cell x1; have y2 := (stay_of_below hS).cell x2; have y3 := (stay_of_below hS).cell x3
      go_simp
      try with_reducible rfl
    simp only [List.getElem_toArray, List.getElem_cons_succ, List.getElem_cons_zero, Act.put, List.setIfInBounds_toArray, List.set_cons_zero, List.set_cons_succ]
    refine wpAnyH_take (i := 5) (v := ?_) rfl (by kernel_rfl) (by kernel_rfl) (by kernel_rfl) (fun _ _ _ h => h) (.inl ⟨by kernel_rfl, fun w' hS => ?_⟩) hS ?_
    rotate_left
    ·
      have y0 := (stay_of_below hS).cell x0; have y1 := (stay_of_below hS).cell x1; have y2 := (stay_of_below hS).cell x2; have y3 := (stay_of_below hS).cell x3
      go_simp
      try with_reducible rfl
    simp only [List.getElem_toArray, List.getElem_cons_succ, List.getElem_cons_zero, Act.put, List.setIfInBounds_toArray, List.set_cons_zero, List.set_cons_succ]
    refine wpAnyH_take (i := 6) (v := ?_) rfl (by kernel_rfl) (by kernel_rfl) (by kernel_rfl) (fun _ _ _ h => h) (.inl ⟨by kernel_rfl, fun w' hS => ?_⟩) hS ?_
    rotate_left
    ·
      have y0 := (stay_of_below hS).cell x0; have y1 := (stay_of_below hS).cell x1; have y2 := (stay_of_below hS).cell x2; have y3 := (stay_of_below hS).cell x3
      go_simp
      try with_reducible rfl
    simp only [List.getElem_toArray, List.getElem_cons_succ, List.getElem_cons_zero, Act.put, List.setIfInBounds_toArray, List.set_cons_zero, List.set_cons_succ]
    refine wpAnyH_take (i := 7) (v := .slice br2 (B.rows.length - n) (dr - n)) rfl (by kernel_rfl) (by kernel_rfl) (by kernel_rfl) (fun _ _ _ h => h) (.inl ⟨by kernel_rfl, fun w' hS => ?_⟩) hS ?_
    · go_simp
      exact hbr2n.out
    simp only [List.getElem_toArray, List.getElem_cons_succ, List.getElem_cons_zero, Act.put, List.setIfInBounds_toArray, List.set_cons_zero, List.set_cons_succ]
    refine wpAnyH_take (i := 8) (v := ?_) rfl (by kernel_rfl) (by kernel_rfl) (by kernel_rfl) (fun _ _ _ h => h) (.inl ⟨by kernel_rfl, fun w' hS => ?_⟩) hS ?_
    rotate_left
    ·
      skip
      go_simp
      try with_reducible rfl
    simp only [List.getElem_toArray, List.getElem_cons_succ, List.getElem_cons_zero, Act.put, List.setIfInBounds_toArray, List.set_cons_zero, List.set_cons_succ]
    refine wpAnyH_ready (rs := [9]) (by kernel_rfl) (by simp) ?_
    refine AllReadyH.cons rfl (fun K hK => ?_) AllReadyH.nil
    clear hS
    go_simp
    go_wp2_with fail
    have hal : Below V0.heap.size V0 (V0.alloc (.cells #[.slice none 0 0, .slice none 0 0] 25)) := (Below.refl _ _).alloc (Nat.le_refl _) _
    have hq := Blk.new V0 #[.slice none 0 0, .slice none 0 0] 25
    refine hK.out _ _ (hbV.trans (hal.mono hbV.size)) (fun hS => ?_)
    clear hK K
    try simp only [List.getElem_toArray, List.getElem_cons_succ, List.getElem_cons_zero, Act.put, List.setIfInBounds_toArray, List.set_cons_zero, List.set_cons_succ]
    refine wpAnyH_ready (rs := [10]) (by kernel_rfl) (by simp) ?_
    refine AllReadyH.cons rfl (fun K hK => ?_) AllReadyH.nil
    clear hS
    have f1 := hq.free
    have z0 := hq.cell 0 rfl
    have z1 := hq.cell 1 rfl
    have hq2 := Blk.new V0 #[.slice bv B.vars.length dv, .slice br2 (B.rows.length - n) (dr - n)] 25
    have hbW : Below w3.heap.size w3 (V0.alloc (.cells #[.slice bv B.vars.length dv, .slice br2 (B.rows.length - n) (dr - n)] 25)) := hbV.alloc hbV.size _
    go_simp
    go_wp2_with fail
    refine hK.out _ _ hbW (fun hS => ?_)
    clear hK K
    try simp only [List.getElem_toArray, List.getElem_cons_succ, List.getElem_cons_zero, Act.put, List.setIfInBounds_toArray, List.set_cons_zero, List.set_cons_succ]
    refine wpAnyH_done (by kernel_rfl) ?_ _
    clear hS f1 z0 z1 hq hal hbV
    obtain ⟨p4, hp4⟩ : ∃ p4, V0.heap.size = p4 := ⟨_, rfl⟩
    try rw [hp4]
    rw [hp4] at hq2
    generalize V0.alloc (.cells #[.slice bv B.vars.length dv, .slice br2 (B.rows.length - n) (dr - n)] 25) = w4 at *
    have hq4 := hq2
    have hq34 : Blk w4 p3 _ _ := (hbW.block _ hq3.lt).trans hq3
    replace x0 := (stay_of_below hbW).cell x0
    replace x1 := (stay_of_below hbW).cell x1
    replace x2 := (stay_of_below hbW).cell x2
    replace x3 := (stay_of_below hbW).cell x3
    replace x4 := (stay_of_below hbW).cell x4
    replace x5 := (stay_of_below hbW).cell x5
    replace x6 := (stay_of_below hbW).cell x6
    have hb4 := Lib.hid (hb3.trans (hbW.mono hb3.size))
    clear hq2 hbW hq3 hbr2n hb3
    replace hp4 := Lib.hid hp4
    have hT4 := hT2.out w4 hb4.out
    obtain ⟨B1, hB1⟩ : ∃ B1 : Tab, ⟨B.vars, B.rows.take n⟩ = B1 := ⟨_, rfl⟩
    obtain ⟨C2, hC2⟩ : ∃ C2 : Tab, ⟨B.vars, B.rows.drop n⟩ = C2 := ⟨_, rfl⟩
    have hm1B : mayT B1 = true := by rw [← hB1]; exact half_may hmB fun r hr => List.mem_of_mem_take hr
    have hm2B : mayT C2 = true := by rw [← hC2]; exact half_may hmB fun r hr => List.mem_of_mem_drop hr
    have hv1 : B1.vars = B.vars := by rw [← hB1]
    have hv2 : C2.vars = B.vars := by rw [← hC2]
    have hr1 : B1.rows.length ≤ B.rows.length := by rw [← hB1]; simp [List.length_take]; omega
    have hr2 : C2.rows.length ≤ B.rows.length := by rw [← hC2]; simp [List.length_drop]
    have hu := union_halves hmB n
    have hmin := minus_halves A B n
    have hjn := join_halves hmA hmB h64 n
    rw [hB1, hC2] at hu hmin hjn
    have t1 : TabA w4 1048576 (.agg #[.slice bv B.vars.length dv, .slice br n dr]) B1 := by
      rw [← hB1]
      exact ⟨_, _, rfl, hT4.bv, rows_take hT4.br hnlen⟩
    have t2 : TabA w4 1048576 (.agg #[.slice bv B.vars.length dv, .slice br2 (B.rows.length - n) (dr - n)]) C2 := by
      rw [← hC2]
      exact ⟨_, _, rfl, hT4.bv, rows_drop hT4.br hnlen hbr2.out⟩
    have c3 := hq34.cell 0 rfl
    have c4 := hq34.cell 1 rfl
    have c5 := hq4.cell 0 rfl
    have c6 := hq4.cell 1 rfl
    have cU := union_may w4 (hE2.out w4 hb4.out) _ _ B1 C2 t1 t2 hm1B hm2B (by omega)
    rw [hu] at cU
    replace cU := Lib.hid cU
    replace hmin := Lib.hid hmin
    replace hjn := Lib.hid hjn
    replace hB1 := Lib.hid hB1
    replace hC2 := Lib.hid hC2
    replace hv1 := Lib.hid hv1
    replace hv2 := Lib.hid hv2
    clear hu hT4
    go_wp2_with fail
    refine cU.out.mono ?_
    rintro e w5 ⟨v, rfl, hO5⟩
    obtain ⟨vv5, rv5, rfl, hb5, hown5, hsz5, hMR5⟩ := hO5
    obtain ⟨an5, cn5, hvn⟩ := own_form4x hown5
    obtain ⟨ar5, cr5, hvr⟩ := hMR5.form
    subst hvn
    subst hvr
    clear cU
    go_upto_region 7 with fail
    obtain ⟨wz, hwz⟩ : ∃ wz, (w5.alloc (.cells #[.slice an5 B.vars.length cn5, .slice ar5 B.rows.length cr5] 25)).drew = wz := ⟨_, rfl⟩
    have h5z : Below w5.heap.size w5 wz := by
      rw [← hwz]
      exact ((Below.refl _ _).alloc (Nat.le_refl _) _).drew
    have h4z : Below w4.heap.size w4 wz := hb5.trans (h5z.mono hb5.size)
    have q5 : Blk wz w5.heap.size #[.slice an5 B.vars.length cn5, .slice ar5 B.rows.length cr5] 25 := by
      rw [← hwz]
      exact (Blk.new w5 _ _).drewN 1
    have tU : TabA wz 1048576 (.agg #[.slice an5 B.vars.length cn5, .slice ar5 B.rows.length cr5]) B :=
      (⟨_, _, rfl, ⟨own_row (by rw [textsV_length]; exact hown5), hsz5⟩, hMR5.read⟩ : TabA w5 1048576 (.agg #[.slice an5 B.vars.length cn5, .slice ar5 B.rows.length cr5]) B).stay h5z
    have hbz := hb4.out.trans (h4z.mono hb4.out.size)
    have hTz := hT2.out wz hbz
    have hEz := Lib.hid (fun V (h : Below wz.heap.size wz V) => hE2.out V (hbz.trans (h.mono hbz.size)))
    have hBz := Lib.hid (hB2.out.trans (hbz.mono hB2.out.size))
    replace t1 := t1.stay h4z
    replace t2 := t2.stay h4z
    replace x0 := (stay_of_below h4z).cell x0
    replace x1 := (stay_of_below h4z).cell x1
    replace x2 := (stay_of_below h4z).cell x2
    replace x3 := (stay_of_below h4z).cell x3
    replace x4 := (stay_of_below h4z).cell x4
    replace x5 := (stay_of_below h4z).cell x5
    replace x6 := (stay_of_below h4z).cell x6
    replace c3 := (stay_of_below h4z).cell c3
    replace c4 := (stay_of_below h4z).cell c4
    replace c5 := (stay_of_below h4z).cell c5
    replace c6 := (stay_of_below h4z).cell c6
    have c7 := q5.cell 0 rfl
    have c8 := q5.cell 1 rfl
    have tA := hTz.tabA
    have tB := hTz.tabB
    have hmM1 := minus_may B1 hmA
    have hlM1 : (minusT A B1).rows.length ≤ A.rows.length := by unfold minusT; exact List.length_filter_le _ _
    have hlM : (minusT A B).rows.length ≤ A.rows.length := by unfold minusT; exact List.length_filter_le _ _
    have hlM2 : (minusT A B).vars.length ≤ 64 := (names_parts (may_rows (minus_may B hmA)).1).1
    have hvB64 : B.vars.length ≤ 64 := (names_parts (may_rows hmB).1).1
    have hvA64 : A.vars.length ≤ 64 := (names_parts (may_rows hmA).1).1
    have hlt : lightT A B = true := by
      have h := hm.out
      unfold mayL at h
      rw [Bool.and_eq_true] at h
      exact h.1
    obtain ⟨hwA, hwB⟩ := wt_light hlt
    have hjT := joinT_may hmA hmB
    have hjT1 := joinT_may hmA hm1B
    have hjT2 := joinT_may hmA hm2B
    have hp1 : A.rows.length * B1.rows.length ≤ 900 := Nat.le_trans (Nat.mul_le_mul_left _ hr1) h900
    have hp2 : A.rows.length * C2.rows.length ≤ 900 := Nat.le_trans (Nat.mul_le_mul_left _ hr2) h900
    have hjl : (joinT A B).rows.length ≤ 900 := by have := joinT_len A B; omega
    have hjl1 : (joinT A B1).rows.length ≤ 900 := by have := joinT_len A B1; omega
    have hjl2 : (joinT A C2).rows.length ≤ 900 := by have := joinT_len A C2; omega
    have hwB1 : ∀ r ∈ B1.rows, wtL r ≤ 381000 := fun r hr => hwB r (by rw [← hB1.out] at hr; exact List.mem_of_mem_take hr)
    have hwC2 : ∀ r ∈ C2.rows, wtL r ≤ 381000 := fun r hr => hwB r (by rw [← hC2.out] at hr; exact List.mem_of_mem_drop hr)
    have hkJ : KeyL (joinT A B) := key_light fun r hr => by have := wt_joinT hmA hmB h64 hwA hwB r hr; omega
    have hw1 := wt_joinT hmA hm1B (by rw [hv1.out]; exact h64) hwA hwB1
    have hw2 := wt_joinT hmA hm2B (by rw [hv2.out]; exact h64) hwA hwC2
    have hjv : (joinT A C2).vars = (joinT A B1).vars := by
      have e1 : (joinT A B1).vars = B1.vars.foldl addN A.vars := by unfold joinT; rw [if_pos (by have := foldN_len B1.vars A.vars; rw [hv1.out] at this ⊢; omega)]
      have e2 : (joinT A C2).vars = C2.vars.foldl addN A.vars := by unfold joinT; rw [if_pos (by have := foldN_len C2.vars A.vars; rw [hv2.out] at this ⊢; omega)]
      rw [e1, e2, hv1.out, hv2.out]
    have hus := union_same hjT1 hjT2 hjv
    have hmU := unionT_may hjT1 hjT2
    have hlU : (unionT (joinT A B1) (joinT A C2)).rows.length ≤ 1800 := by rw [hus]; simp only [List.length_append]; omega
    have hkU : KeyL (unionT (joinT A B1) (joinT A C2)) := key_light fun r hr => by
      rw [hus] at hr
      rcases List.mem_append.1 hr with h | h
      · have := hw1 r h; omega
      · have := hw2 r h; omega
    have h0 : Below wz.heap.size wz wz := Below.refl _ _
    clear hw1 hw2 hwB1 hwC2 hus hjv hjT hbz h4z q5 hb5 hown5 hsz5 hMR5
    refine wp_region_held_drew (S := fun V => Below wz.heap.size wz V) (by kernel_rfl) (by rw [hwz]; exact Below.refl _ _) (fun hS => ?_)
    rw [hwz]
    rw [hwz] at hS
    obtain ⟨p5, hp5⟩ : ∃ p5, w5.heap.size = p5 := ⟨_, rfl⟩
    rw [hp5] at c7 c8
    try rw [hp5]
    replace hp5 := Lib.hid hp5
    replace hwz := Lib.hid hwz
    refine wpAnyH_take (i := 0) (v := ?_) rfl (by kernel_rfl) (by kernel_rfl) (by kernel_rfl) (fun _ _ _ h => h) (.inl ⟨by kernel_rfl, fun w' hS => ?_⟩) hS ?_
    rotate_left
    ·
      have y0 := (stay_of_below hS).cell x0; have y1 := (stay_of_below hS).cell x1; have y2 := (stay_of_below hS).cell x2; have y3 := (stay_of_below hS).cell x3; have y4 := (stay_of_below hS).cell c3; have y5 := (stay_of_below hS).cell c4; have y6 := (stay_of_below hS).cell c5; have y7 := (stay_of_below hS).cell c6; have y8 := (stay_of_below hS).cell c7; have y9 := (stay_of_below hS).cell c8
      go_simp
      try with_reducible rfl
    simp only [List.getElem_toArray, List.getElem_cons_succ, List.getElem_cons_zero, Act.put, List.setIfInBounds_toArray, List.set_cons_zero, List.set_cons_succ]
    refine wpAnyH_take (i := 1) (v := ?_) rfl (by kernel_rfl) (by kernel_rfl) (by kernel_rfl) (fun _ _ _ h => h) (.inl ⟨by kernel_rfl, fun w' hS => ?_⟩) hS ?_
    rotate_left
    ·
      have y0 := (stay_of_below hS).cell x0; have y1 := (stay_of_below hS).cell x1; have y2 := (stay_of_below hS).cell x2; have y3 := (stay_of_below hS).cell x3; have y4 := (stay_of_below hS).cell c3; have y5 := (stay_of_below hS).cell c4; have y6 := (stay_of_below hS).cell c5; have y7 := (stay_of_below hS).cell c6; have y8 := (stay_of_below hS).cell c7; have y9 := (stay_of_below hS).cell c8
      go_simp
      try with_reducible rfl
    simp only [List.getElem_toArray, List.getElem_cons_succ, List.getElem_cons_zero, Act.put, List.setIfInBounds_toArray, List.set_cons_zero, List.set_cons_succ]
    refine wpAnyH_take (i := 2) (v := ?_) rfl (by kernel_rfl) (by kernel_rfl) (by kernel_rfl) (fun _ _ _ h => h) (.inl ⟨by kernel_rfl, fun w' hS => ?_⟩) hS ?_
    rotate_left
    ·
      have y0 := (stay_of_below hS).cell x0; have y1 := (stay_of_below hS).cell x1; have y2 := (stay_of_below hS).cell x2; have y3 := (stay_of_below hS).cell x3; have y4 := (stay_of_below hS).cell c3; have y5 := (stay_of_below hS).cell c4; have y6 := (stay_of_below hS).cell c5; have y7 := (stay_of_below hS).cell c6; have y8 := (stay_of_below hS).cell c7; have y9 := (stay_of_below hS).cell c8
      go_simp
      try with_reducible rfl
    simp only [List.getElem_toArray, List.getElem_cons_succ, List.getElem_cons_zero, Act.put, List.setIfInBounds_toArray, List.set_cons_zero, List.set_cons_succ]
    refine wpAnyH_ready (rs := [3]) (by kernel_rfl) (by simp) ?_
    refine AllReadyH.cons rfl (fun K hK => ?_) AllReadyH.nil
    clear hS
    go_simp
    refine (eqTab_same 1048576 (by omega) wz _ _ B tU tB (by omega) (by omega)).mono ?_
    rintro e w6 ⟨rfl, hb6⟩
    go_wp2_with fail
    refine hK.out _ _ (h0.trans (hb6.mono h0.size)) (fun hS => ?_)
    clear hK K
    try simp only [List.getElem_toArray, List.getElem_cons_succ, List.getElem_cons_zero, Act.put, List.setIfInBounds_toArray, List.set_cons_zero, List.set_cons_succ]
    have h6 := h0.trans (hb6.mono h0.size)
    clear hb6 h0
    refine wpAnyH_take (i := 4) (v := ?_) rfl (by kernel_rfl) (by kernel_rfl) (by kernel_rfl) (fun _ _ _ h => h) (.inl ⟨by kernel_rfl, fun w' hS => ?_⟩) hS ?_
    rotate_left
    ·
      have y0 := (stay_of_below hS).cell x0; have y1 := (stay_of_below hS).cell x1; have y2 := (stay_of_below hS).cell x2; have y3 := (stay_of_below hS).cell x3; have y4 := (stay_of_below hS).cell c3; have y5 := (stay_of_below hS).cell c4; have y6 := (stay_of_below hS).cell c5; have y7 := (stay_of_below hS).cell c6; have y8 := (stay_of_below hS).cell c7; have y9 := (stay_of_below hS).cell c8
      go_simp
      try with_reducible rfl
    simp only [List.getElem_toArray, List.getElem_cons_succ, List.getElem_cons_zero, Act.put, List.setIfInBounds_toArray, List.set_cons_zero, List.set_cons_succ]
    refine wpAnyH_take (i := 5) (v := ?_) rfl (by kernel_rfl) (by kernel_rfl) (by kernel_rfl) (fun _ _ _ h => h) (.inl ⟨by kernel_rfl, fun w' hS => ?_⟩) hS ?_
    rotate_left
    ·
      have y0 := (stay_of_below hS).cell x0; have y1 := (stay_of_below hS).cell x1; have y2 := (stay_of_below hS).cell x2; have y3 := (stay_of_below hS).cell x3; have y4 := (stay_of_below hS).cell c3; have y5 := (stay_of_below hS).cell c4; have y6 := (stay_of_below hS).cell c5; have y7 := (stay_of_below hS).cell c6; have y8 := (stay_of_below hS).cell c7; have y9 := (stay_of_below hS).cell c8
      go_simp
      try with_reducible rfl
    simp only [List.getElem_toArray, List.getElem_cons_succ, List.getElem_cons_zero, Act.put, List.setIfInBounds_toArray, List.set_cons_zero, List.set_cons_succ]
    refine wpAnyH_take (i := 6) (v := ?_) rfl (by kernel_rfl) (by kernel_rfl) (by kernel_rfl) (fun _ _ _ h => h) (.inl ⟨by kernel_rfl, fun w' hS => ?_⟩) hS ?_
    rotate_left
    ·
      have y0 := (stay_of_below hS).cell x0; have y1 := (stay_of_below hS).cell x1; have y2 := (stay_of_below hS).cell x2; have y3 := (stay_of_below hS).cell x3; have y4 := (stay_of_below hS).cell c3; have y5 := (stay_of_below hS).cell c4; have y6 := (stay_of_below hS).cell c5; have y7 := (stay_of_below hS).cell c6; have y8 := (stay_of_below hS).cell c7; have y9 := (stay_of_below hS).cell c8
      go_simp
      try with_reducible rfl
    simp only [List.getElem_toArray, List.getElem_cons_succ, List.getElem_cons_zero, Act.put, List.setIfInBounds_toArray, List.set_cons_zero, List.set_cons_succ]
    refine wpAnyH_take (i := 7) (v := ?_) rfl (by kernel_rfl) (by kernel_rfl) (by kernel_rfl) (fun _ _ _ h => h) (.inl ⟨by kernel_rfl, fun w' hS => ?_⟩) hS ?_
    rotate_left
    ·
      have y0 := (stay_of_below hS).cell x0; have y1 := (stay_of_below hS).cell x1; have y2 := (stay_of_below hS).cell x2; have y3 := (stay_of_below hS).cell x3; have y4 := (stay_of_below hS).cell c3; have y5 := (stay_of_below hS).cell c4; have y6 := (stay_of_below hS).cell c5; have y7 := (stay_of_below hS).cell c6; have y8 := (stay_of_below hS).cell c7; have y9 := (stay_of_below hS).cell c8
      go_simp
      try with_reducible rfl
    simp only [List.getElem_toArray, List.getElem_cons_succ, List.getElem_cons_zero, Act.put, List.setIfInBounds_toArray, List.set_cons_zero, List.set_cons_succ]
    refine wpAnyH_take (i := 8) (v := ?_) rfl (by kernel_rfl) (by kernel_rfl) (by kernel_rfl) (fun _ _ _ h => h) (.inl ⟨by kernel_rfl, fun w' hS => ?_⟩) hS ?_
    rotate_left
    ·
      have y0 := (stay_of_below hS).cell x0; have y1 := (stay_of_below hS).cell x1; have y2 := (stay_of_below hS).cell x2; have y3 := (stay_of_below hS).cell x3; have y4 := (stay_of_below hS).cell c3; have y5 := (stay_of_below hS).cell c4; have y6 := (stay_of_below hS).cell c5; have y7 := (stay_of_below hS).cell c6; have y8 := (stay_of_below hS).cell c7; have y9 := (stay_of_below hS).cell c8
      go_simp
      try with_reducible rfl
    simp only [List.getElem_toArray, List.getElem_cons_succ, List.getElem_cons_zero, Act.put, List.setIfInBounds_toArray, List.set_cons_zero, List.set_cons_succ]
    refine wpAnyH_take (i := 9) (v := ?_) rfl (by kernel_rfl) (by kernel_rfl) (by kernel_rfl) (fun _ _ _ h => h) (.inl ⟨by kernel_rfl, fun w' hS => ?_⟩) hS ?_
    rotate_left
    ·
      have y0 := (stay_of_below hS).cell x0; have y1 := (stay_of_below hS).cell x1; have y2 := (stay_of_below hS).cell x2; have y3 := (stay_of_below hS).cell x3; have y4 := (stay_of_below hS).cell c3; have y5 := (stay_of_below hS).cell c4; have y6 := (stay_of_below hS).cell c5; have y7 := (stay_of_below hS).cell c6; have y8 := (stay_of_below hS).cell c7; have y9 := (stay_of_below hS).cell c8
      go_simp
      try with_reducible rfl
    simp only [List.getElem_toArray, List.getElem_cons_succ, List.getElem_cons_zero, Act.put, List.setIfInBounds_toArray, List.set_cons_zero, List.set_cons_succ]
    refine wpAnyH_take (i := 11) (v := ?_) rfl (by kernel_rfl) (by kernel_rfl) (by kernel_rfl) (fun _ _ _ h => h) (.inl ⟨by kernel_rfl, fun w' hS => ?_⟩) hS ?_
    rotate_left
    ·
      have y0 := (stay_of_below hS).cell x0; have y1 := (stay_of_below hS).cell x1; have y2 := (stay_of_below hS).cell x2; have y3 := (stay_of_below hS).cell x3; have y4 := (stay_of_below hS).cell c3; have y5 := (stay_of_below hS).cell c4; have y6 := (stay_of_below hS).cell c5; have y7 := (stay_of_below hS).cell c6; have y8 := (stay_of_below hS).cell c7; have y9 := (stay_of_below hS).cell c8
      go_simp
      try with_reducible rfl
    simp only [List.getElem_toArray, List.getElem_cons_succ, List.getElem_cons_zero, Act.put, List.setIfInBounds_toArray, List.set_cons_zero, List.set_cons_succ]
    refine wpAnyH_take (i := 12) (v := ?_) rfl (by kernel_rfl) (by kernel_rfl) (by kernel_rfl) (fun _ _ _ h => h) (.inl ⟨by kernel_rfl, fun w' hS => ?_⟩) hS ?_
    rotate_left
    ·
      have y0 := (stay_of_below hS).cell x0; have y1 := (stay_of_below hS).cell x1; have y2 := (stay_of_below hS).cell x2; have y3 := (stay_of_below hS).cell x3; have y4 := (stay_of_below hS).cell c3; have y5 := (stay_of_below hS).cell c4; have y6 := (stay_of_below hS).cell c5; have y7 := (stay_of_below hS).cell c6; have y8 := (stay_of_below hS).cell c7; have y9 := (stay_of_below hS).cell c8
      go_simp
      try with_reducible rfl
    simp only [List.getElem_toArray, List.getElem_cons_succ, List.getElem_cons_zero, Act.put, List.setIfInBounds_toArray, List.set_cons_zero, List.set_cons_succ]
    refine wpAnyH_take (i := 13) (v := ?_) rfl (by kernel_rfl) (by kernel_rfl) (by kernel_rfl) (fun _ _ _ h => h) (.inl ⟨by kernel_rfl, fun w' hS => ?_⟩) hS ?_
    rotate_left
    ·
      have y0 := (stay_of_below hS).cell x0; have y1 := (stay_of_below hS).cell x1; have y2 := (stay_of_below hS).cell x2; have y3 := (stay_of_below hS).cell x3; have y4 := (stay_of_below hS).cell c3; have y5 := (stay_of_below hS).cell c4; have y6 := (stay_of_below hS).cell c5; have y7 := (stay_of_below hS).cell c6; have y8 := (stay_of_below hS).cell c7; have y9 := (stay_of_below hS).cell c8
      go_simp
      try with_reducible rfl
    simp only [List.getElem_toArray, List.getElem_cons_succ, List.getElem_cons_zero, Act.put, List.setIfInBounds_toArray, List.set_cons_zero, List.set_cons_succ]
    refine wpAnyH_take (i := 15) (v := ?_) rfl (by kernel_rfl) (by kernel_rfl) (by kernel_rfl) (fun _ _ _ h => h) (.inl ⟨by kernel_rfl, fun w' hS => ?_⟩) hS ?_
    rotate_left
    ·
      have y0 := (stay_of_below hS).cell x0; have y1 := (stay_of_below hS).cell x1; have y2 := (stay_of_below hS).cell x2; have y3 := (stay_of_below hS).cell x3; have y4 := (stay_of_below hS).cell c3; have y5 := (stay_of_below hS).cell c4; have y6 := (stay_of_below hS).cell c5; have y7 := (stay_of_below hS).cell c6; have y8 := (stay_of_below hS).cell c7; have y9 := (stay_of_below hS).cell c8
      go_simp
      try with_reducible rfl
    simp only [List.getElem_toArray, List.getElem_cons_succ, List.getElem_cons_zero, Act.put, List.setIfInBounds_toArray, List.set_cons_zero, List.set_cons_succ]
    refine wpAnyH_ready (rs := [10]) (by kernel_rfl) (by simp) ?_
    refine AllReadyH.cons rfl (fun K hK => ?_) AllReadyH.nil
    clear hS
    go_simp
    refine (minus_may2 w6 (hEz.out _ h6) _ _ A B (tA.stay h6) (tB.stay h6) hmA hmB (by omega) (by omega)).mono ?_
    rintro e w7 ⟨v, rfl, hO⟩
    obtain ⟨vv, rv, rfl, hbw7, hown, hszs, hMR⟩ := hO
    obtain ⟨anw7, cnw7, hvn⟩ := own_form4x hown
    obtain ⟨arw7, crw7, hvr⟩ := hMR.form
    subst hvn
    subst hvr
    have tw7 : TabA w7 1048576 _ _ := ⟨_, _, rfl, ⟨own_row (by rw [textsV_length]; exact hown), hszs⟩, hMR.read⟩
    clear hown hszs hMR
    go_wp2_with fail
    refine hK.out _ _ (h6.trans (hbw7.mono h6.size)) (fun hS => ?_)
    clear hK K
    try simp only [List.getElem_toArray, List.getElem_cons_succ, List.getElem_cons_zero, Act.put, List.setIfInBounds_toArray, List.set_cons_zero, List.set_cons_succ]
    have h7 := h6.trans (hbw7.mono h6.size)
    refine wpAnyH_ready (rs := [14]) (by kernel_rfl) (by simp) ?_
    refine AllReadyH.cons rfl (fun K hK => ?_) AllReadyH.nil
    clear hS
    go_simp
    refine (minus_may2 w7 (hEz.out _ h7) _ _ A B1 (tA.stay h7) (t1.stay h7) hmA hm1B (by omega) (by omega)).mono ?_
    rintro e w8 ⟨v, rfl, hO⟩
    obtain ⟨vv, rv, rfl, hbw8, hown, hszs, hMR⟩ := hO
    obtain ⟨anw8, cnw8, hvn⟩ := own_form4x hown
    obtain ⟨arw8, crw8, hvr⟩ := hMR.form
    subst hvn
    subst hvr
    have tw8 : TabA w8 1048576 _ _ := ⟨_, _, rfl, ⟨own_row (by rw [textsV_length]; exact hown), hszs⟩, hMR.read⟩
    clear hown hszs hMR
    go_wp2_with fail
    refine hK.out _ _ (h7.trans (hbw8.mono h7.size)) (fun hS => ?_)
    clear hK K
    try simp only [List.getElem_toArray, List.getElem_cons_succ, List.getElem_cons_zero, Act.put, List.setIfInBounds_toArray, List.set_cons_zero, List.set_cons_succ]
    have h8 := h7.trans (hbw8.mono h7.size)
    refine wpAnyH_ready (rs := [16]) (by kernel_rfl) (by simp) ?_
    refine AllReadyH.cons rfl (fun K hK => ?_) AllReadyH.nil
    clear hS
    go_simp
    refine (minus_may2 w8 (hEz.out _ h8) _ _ (minusT A B1) C2 tw8 (t2.stay h8) hmM1 hm2B (by omega) (by omega)).mono ?_
    rintro e w9 ⟨v, rfl, hO⟩
    obtain ⟨vv, rv, rfl, hbw9, hown, hszs, hMR⟩ := hO
    obtain ⟨anw9, cnw9, hvn⟩ := own_form4x hown
    obtain ⟨arw9, crw9, hvr⟩ := hMR.form
    subst hvn
    subst hvr
    have tw9 : TabA w9 1048576 _ _ := ⟨_, _, rfl, ⟨own_row (by rw [textsV_length]; exact hown), hszs⟩, hMR.read⟩
    clear hown hszs hMR
    go_wp2_with fail
    refine hK.out _ _ (h8.trans (hbw9.mono h8.size)) (fun hS => ?_)
    clear hK K
    try simp only [List.getElem_toArray, List.getElem_cons_succ, List.getElem_cons_zero, Act.put, List.setIfInBounds_toArray, List.set_cons_zero, List.set_cons_succ]
    have h9 := h8.trans (hbw9.mono h8.size)
    have tw79 := tw7.stay (hbw8.trans (hbw9.mono hbw8.size))
    have tw9b : TabA w9 1048576 (.agg #[.slice anw9 (minusT (minusT A B1) C2).vars.length cnw9, .slice arw9 (minusT (minusT A B1) C2).rows.length crw9]) (minusT A B) := by
      rw [hmin.out]
      exact tw9
    refine wpAnyH_ready (rs := [17]) (by kernel_rfl) (by simp) ?_
    refine AllReadyH.cons rfl (fun K hK => ?_) AllReadyH.nil
    clear hS
    go_simp
    refine (eqTab_same 1048576 (by omega) w9 _ _ (minusT A B) tw79 tw9b (by omega) (by omega)).mono ?_
    rintro e w10 ⟨rfl, hb10⟩
    go_wp2_with fail
    refine hK.out _ _ (h9.trans (hb10.mono h9.size)) (fun hS => ?_)
    clear hK K
    try simp only [List.getElem_toArray, List.getElem_cons_succ, List.getElem_cons_zero, Act.put, List.setIfInBounds_toArray, List.set_cons_zero, List.set_cons_succ]
    have h10 := h9.trans (hb10.mono h9.size)
    clear hb10 tw7 tw8 tw9 tw9b tw79 hbw7 hbw8 hbw9 h6 h7 h8 h9
    refine wpAnyH_take (i := 18) (v := ?_) rfl (by kernel_rfl) (by kernel_rfl) (by kernel_rfl) (fun _ _ _ h => h) (.inl ⟨by kernel_rfl, fun w' hS => ?_⟩) hS ?_
    rotate_left
    ·
      have y0 := (stay_of_below hS).cell x0; have y1 := (stay_of_below hS).cell x1; have y2 := (stay_of_below hS).cell x2; have y3 := (stay_of_below hS).cell x3; have y4 := (stay_of_below hS).cell c3; have y5 := (stay_of_below hS).cell c4; have y6 := (stay_of_below hS).cell c5; have y7 := (stay_of_below hS).cell c6; have y8 := (stay_of_below hS).cell c7; have y9 := (stay_of_below hS).cell c8
      go_simp
      try with_reducible rfl
    simp only [List.getElem_toArray, List.getElem_cons_succ, List.getElem_cons_zero, Act.put, List.setIfInBounds_toArray, List.set_cons_zero, List.set_cons_succ]
    refine wpAnyH_take (i := 19) (v := ?_) rfl (by kernel_rfl) (by kernel_rfl) (by kernel_rfl) (fun _ _ _ h => h) (.inl ⟨by kernel_rfl, fun w' hS => ?_⟩) hS ?_
    rotate_left
    ·
      have y0 := (stay_of_below hS).cell x0; have y1 := (stay_of_below hS).cell x1; have y2 := (stay_of_below hS).cell x2; have y3 := (stay_of_below hS).cell x3; have y4 := (stay_of_below hS).cell c3; have y5 := (stay_of_below hS).cell c4; have y6 := (stay_of_below hS).cell c5; have y7 := (stay_of_below hS).cell c6; have y8 := (stay_of_below hS).cell c7; have y9 := (stay_of_below hS).cell c8
      go_simp
      try with_reducible rfl
    simp only [List.getElem_toArray, List.getElem_cons_succ, List.getElem_cons_zero, Act.put, List.setIfInBounds_toArray, List.set_cons_zero, List.set_cons_succ]
    refine wpAnyH_take (i := 20) (v := ?_) rfl (by kernel_rfl) (by kernel_rfl) (by kernel_rfl) (fun _ _ _ h => h) (.inl ⟨by kernel_rfl, fun w' hS => ?_⟩) hS ?_
    rotate_left
    ·
      have y0 := (stay_of_below hS).cell x0; have y1 := (stay_of_below hS).cell x1; have y2 := (stay_of_below hS).cell x2; have y3 := (stay_of_below hS).cell x3; have y4 := (stay_of_below hS).cell c3; have y5 := (stay_of_below hS).cell c4; have y6 := (stay_of_below hS).cell c5; have y7 := (stay_of_below hS).cell c6; have y8 := (stay_of_below hS).cell c7; have y9 := (stay_of_below hS).cell c8
      go_simp
      try with_reducible rfl
    simp only [List.getElem_toArray, List.getElem_cons_succ, List.getElem_cons_zero, Act.put, List.setIfInBounds_toArray, List.set_cons_zero, List.set_cons_succ]
    refine wpAnyH_take (i := 21) (v := ?_) rfl (by kernel_rfl) (by kernel_rfl) (by kernel_rfl) (fun _ _ _ h => h) (.inl ⟨by kernel_rfl, fun w' hS => ?_⟩) hS ?_
    rotate_left
    ·
      have y0 := (stay_of_below hS).cell x0; have y1 := (stay_of_below hS).cell x1; have y2 := (stay_of_below hS).cell x2; have y3 := (stay_of_below hS).cell x3; have y4 := (stay_of_below hS).cell c3; have y5 := (stay_of_below hS).cell c4; have y6 := (stay_of_below hS).cell c5; have y7 := (stay_of_below hS).cell c6; have y8 := (stay_of_below hS).cell c7; have y9 := (stay_of_below hS).cell c8
      go_simp
      try with_reducible rfl
    simp only [List.getElem_toArray, List.getElem_cons_succ, List.getElem_cons_zero, Act.put, List.setIfInBounds_toArray, List.set_cons_zero, List.set_cons_succ]
    refine wpAnyH_take (i := 22) (v := ?_) rfl (by kernel_rfl) (by kernel_rfl) (by kernel_rfl) (fun _ _ _ h => h) (.inl ⟨by kernel_rfl, fun w' hS => ?_⟩) hS ?_
    rotate_left
    ·
      have y0 := (stay_of_below hS).cell x0; have y1 := (stay_of_below hS).cell x1; have y2 := (stay_of_below hS).cell x2; have y3 := (stay_of_below hS).cell x3; have y4 := (stay_of_below hS).cell c3; have y5 := (stay_of_below hS).cell c4; have y6 := (stay_of_below hS).cell c5; have y7 := (stay_of_below hS).cell c6; have y8 := (stay_of_below hS).cell c7; have y9 := (stay_of_below hS).cell c8
      go_simp
      try with_reducible rfl
    simp only [List.getElem_toArray, List.getElem_cons_succ, List.getElem_cons_zero, Act.put, List.setIfInBounds_toArray, List.set_cons_zero, List.set_cons_succ]
    refine wpAnyH_take (i := 23) (v := ?_) rfl (by kernel_rfl) (by kernel_rfl) (by kernel_rfl) (fun _ _ _ h => h) (.inl ⟨by kernel_rfl, fun w' hS => ?_⟩) hS ?_
    rotate_left
    ·
      have y0 := (stay_of_below hS).cell x0; have y1 := (stay_of_below hS).cell x1; have y2 := (stay_of_below hS).cell x2; have y3 := (stay_of_below hS).cell x3; have y4 := (stay_of_below hS).cell c3; have y5 := (stay_of_below hS).cell c4; have y6 := (stay_of_below hS).cell c5; have y7 := (stay_of_below hS).cell c6; have y8 := (stay_of_below hS).cell c7; have y9 := (stay_of_below hS).cell c8
      go_simp
      try with_reducible rfl
    simp only [List.getElem_toArray, List.getElem_cons_succ, List.getElem_cons_zero, Act.put, List.setIfInBounds_toArray, List.set_cons_zero, List.set_cons_succ]
    refine wpAnyH_take (i := 24) (v := ?_) rfl (by kernel_rfl) (by kernel_rfl) (by kernel_rfl) (fun _ _ _ h => h) (.inl ⟨by kernel_rfl, fun w' hS => ?_⟩) hS ?_
    rotate_left
    ·
      have y0 := (stay_of_below hS).cell x0; have y1 := (stay_of_below hS).cell x1; have y2 := (stay_of_below hS).cell x2; have y3 := (stay_of_below hS).cell x3; have y4 := (stay_of_below hS).cell c3; have y5 := (stay_of_below hS).cell c4; have y6 := (stay_of_below hS).cell c5; have y7 := (stay_of_below hS).cell c6; have y8 := (stay_of_below hS).cell c7; have y9 := (stay_of_below hS).cell c8
      go_simp
      try with_reducible rfl
    simp only [List.getElem_toArray, List.getElem_cons_succ, List.getElem_cons_zero, Act.put, List.setIfInBounds_toArray, List.set_cons_zero, List.set_cons_succ]
    refine wpAnyH_take (i := 26) (v := ?_) rfl (by kernel_rfl) (by kernel_rfl) (by kernel_rfl) (fun _ _ _ h => h) (.inl ⟨by kernel_rfl, fun w' hS => ?_⟩) hS ?_
    rotate_left
    ·
      have y0 := (stay_of_below hS).cell x0; have y1 := (stay_of_below hS).cell x1; have y2 := (stay_of_below hS).cell x2; have y3 := (stay_of_below hS).cell x3; have y4 := (stay_of_below hS).cell c3; have y5 := (stay_of_below hS).cell c4; have y6 := (stay_of_below hS).cell c5; have y7 := (stay_of_below hS).cell c6; have y8 := (stay_of_below hS).cell c7; have y9 := (stay_of_below hS).cell c8
      go_simp
      try with_reducible rfl
    simp only [List.getElem_toArray, List.getElem_cons_succ, List.getElem_cons_zero, Act.put, List.setIfInBounds_toArray, List.set_cons_zero, List.set_cons_succ]
    refine wpAnyH_take (i := 27) (v := ?_) rfl (by kernel_rfl) (by kernel_rfl) (by kernel_rfl) (fun _ _ _ h => h) (.inl ⟨by kernel_rfl, fun w' hS => ?_⟩) hS ?_
    rotate_left
    ·
      have y0 := (stay_of_below hS).cell x0; have y1 := (stay_of_below hS).cell x1; have y2 := (stay_of_below hS).cell x2; have y3 := (stay_of_below hS).cell x3; have y4 := (stay_of_below hS).cell c3; have y5 := (stay_of_below hS).cell c4; have y6 := (stay_of_below hS).cell c5; have y7 := (stay_of_below hS).cell c6; have y8 := (stay_of_below hS).cell c7; have y9 := (stay_of_below hS).cell c8
      go_simp
      try with_reducible rfl
    simp only [List.getElem_toArray, List.getElem_cons_succ, List.getElem_cons_zero, Act.put, List.setIfInBounds_toArray, List.set_cons_zero, List.set_cons_succ]
    refine wpAnyH_take (i := 28) (v := ?_) rfl (by kernel_rfl) (by kernel_rfl) (by kernel_rfl) (fun _ _ _ h => h) (.inl ⟨by kernel_rfl, fun w' hS => ?_⟩) hS ?_
    rotate_left
    ·
      have y0 := (stay_of_below hS).cell x0; have y1 := (stay_of_below hS).cell x1; have y2 := (stay_of_below hS).cell x2; have y3 := (stay_of_below hS).cell x3; have y4 := (stay_of_below hS).cell c3; have y5 := (stay_of_below hS).cell c4; have y6 := (stay_of_below hS).cell c5; have y7 := (stay_of_below hS).cell c6; have y8 := (stay_of_below hS).cell c7; have y9 := (stay_of_below hS).cell c8
      go_simp
      try with_reducible rfl
    simp only [List.getElem_toArray, List.getElem_cons_succ, List.getElem_cons_zero, Act.put, List.setIfInBounds_toArray, List.set_cons_zero, List.set_cons_succ]
    refine wpAnyH_take (i := 30) (v := ?_) rfl (by kernel_rfl) (by kernel_rfl) (by kernel_rfl) (fun _ _ _ h => h) (.inl ⟨by kernel_rfl, fun w' hS => ?_⟩) hS ?_
    rotate_left
    ·
      have y0 := (stay_of_below hS).cell x0; have y1 := (stay_of_below hS).cell x1; have y2 := (stay_of_below hS).cell x2; have y3 := (stay_of_below hS).cell x3; have y4 := (stay_of_below hS).cell c3; have y5 := (stay_of_below hS).cell c4; have y6 := (stay_of_below hS).cell c5; have y7 := (stay_of_below hS).cell c6; have y8 := (stay_of_below hS).cell c7; have y9 := (stay_of_below hS).cell c8
      go_simp
      try with_reducible rfl
    simp only [List.getElem_toArray, List.getElem_cons_succ, List.getElem_cons_zero, Act.put, List.setIfInBounds_toArray, List.set_cons_zero, List.set_cons_succ]
    refine wpAnyH_take (i := 31) (v := ?_) rfl (by kernel_rfl) (by kernel_rfl) (by kernel_rfl) (fun _ _ _ h => h) (.inl ⟨by kernel_rfl, fun w' hS => ?_⟩) hS ?_
    rotate_left
    ·
      have y0 := (stay_of_below hS).cell x0; have y1 := (stay_of_below hS).cell x1; have y2 := (stay_of_below hS).cell x2; have y3 := (stay_of_below hS).cell x3; have y4 := (stay_of_below hS).cell c3; have y5 := (stay_of_below hS).cell c4; have y6 := (stay_of_below hS).cell c5; have y7 := (stay_of_below hS).cell c6; have y8 := (stay_of_below hS).cell c7; have y9 := (stay_of_below hS).cell c8
      go_simp
      try with_reducible rfl
    simp only [List.getElem_toArray, List.getElem_cons_succ, List.getElem_cons_zero, Act.put, List.setIfInBounds_toArray, List.set_cons_zero, List.set_cons_succ]
    refine wpAnyH_take (i := 32) (v := ?_) rfl (by kernel_rfl) (by kernel_rfl) (by kernel_rfl) (fun _ _ _ h => h) (.inl ⟨by kernel_rfl, fun w' hS => ?_⟩) hS ?_
    rotate_left
    ·
      have y0 := (stay_of_below hS).cell x0; have y1 := (stay_of_below hS).cell x1; have y2 := (stay_of_below hS).cell x2; have y3 := (stay_of_below hS).cell x3; have y4 := (stay_of_below hS).cell c3; have y5 := (stay_of_below hS).cell c4; have y6 := (stay_of_below hS).cell c5; have y7 := (stay_of_below hS).cell c6; have y8 := (stay_of_below hS).cell c7; have y9 := (stay_of_below hS).cell c8
      go_simp
      try with_reducible rfl
    simp only [List.getElem_toArray, List.getElem_cons_succ, List.getElem_cons_zero, Act.put, List.setIfInBounds_toArray, List.set_cons_zero, List.set_cons_succ]
    refine wpAnyH_ready (rs := [25]) (by kernel_rfl) (by simp) ?_
    refine AllReadyH.cons rfl (fun K hK => ?_) AllReadyH.nil
    clear hS
    go_simp
    refine (join_may w10 (hEz.out _ h10) _ _ A B (tA.stay h10) (tB.stay h10) hmA hmB (by omega) (by omega) (by omega)).mono ?_
    rintro e w11 ⟨v, rfl, hO⟩
    obtain ⟨vv, rv, rfl, hbw11, hown, hszs, hMR⟩ := hO
    obtain ⟨anw11, cnw11, hvn⟩ := own_form4x hown
    obtain ⟨arw11, crw11, hvr⟩ := hMR.form
    subst hvn
    subst hvr
    have tw11 : TabA w11 1048576 _ _ := ⟨_, _, rfl, ⟨own_row (by rw [textsV_length]; exact hown), hszs⟩, hMR.read⟩
    clear hown hszs hMR
    go_wp2_with fail
    refine hK.out _ _ (h10.trans (hbw11.mono h10.size)) (fun hS => ?_)
    clear hK K
    try simp only [List.getElem_toArray, List.getElem_cons_succ, List.getElem_cons_zero, Act.put, List.setIfInBounds_toArray, List.set_cons_zero, List.set_cons_succ]
    have h11 := h10.trans (hbw11.mono h10.size)
    refine wpAnyH_ready (rs := [29]) (by kernel_rfl) (by simp) ?_
    refine AllReadyH.cons rfl (fun K hK => ?_) AllReadyH.nil
    clear hS
    go_simp
    refine (join_may w11 (hEz.out _ h11) _ _ A B1 (tA.stay h11) (t1.stay h11) hmA hm1B (by omega) (by omega) (by omega)).mono ?_
    rintro e w12 ⟨v, rfl, hO⟩
    obtain ⟨vv, rv, rfl, hbw12, hown, hszs, hMR⟩ := hO
    obtain ⟨anw12, cnw12, hvn⟩ := own_form4x hown
    obtain ⟨arw12, crw12, hvr⟩ := hMR.form
    subst hvn
    subst hvr
    have tw12 : TabA w12 1048576 _ _ := ⟨_, _, rfl, ⟨own_row (by rw [textsV_length]; exact hown), hszs⟩, hMR.read⟩
    clear hown hszs hMR
    go_wp2_with fail
    refine hK.out _ _ (h11.trans (hbw12.mono h11.size)) (fun hS => ?_)
    clear hK K
    try simp only [List.getElem_toArray, List.getElem_cons_succ, List.getElem_cons_zero, Act.put, List.setIfInBounds_toArray, List.set_cons_zero, List.set_cons_succ]
    have h12 := h11.trans (hbw12.mono h11.size)
    refine wpAnyH_ready (rs := [33]) (by kernel_rfl) (by simp) ?_
    refine AllReadyH.cons rfl (fun K hK => ?_) AllReadyH.nil
    clear hS
    go_simp
    refine (join_may w12 (hEz.out _ h12) _ _ A C2 (tA.stay h12) (t2.stay h12) hmA hm2B (by omega) (by omega) (by omega)).mono ?_
    rintro e w13 ⟨v, rfl, hO⟩
    obtain ⟨vv, rv, rfl, hbw13, hown, hszs, hMR⟩ := hO
    obtain ⟨anw13, cnw13, hvn⟩ := own_form4x hown
    obtain ⟨arw13, crw13, hvr⟩ := hMR.form
    subst hvn
    subst hvr
    have tw13 : TabA w13 1048576 _ _ := ⟨_, _, rfl, ⟨own_row (by rw [textsV_length]; exact hown), hszs⟩, hMR.read⟩
    clear hown hszs hMR
    go_wp2_with fail
    refine hK.out _ _ (h12.trans (hbw13.mono h12.size)) (fun hS => ?_)
    clear hK K
    try simp only [List.getElem_toArray, List.getElem_cons_succ, List.getElem_cons_zero, Act.put, List.setIfInBounds_toArray, List.set_cons_zero, List.set_cons_succ]
    have h13 := h12.trans (hbw13.mono h12.size)
    have tw1213 := tw12.stay hbw13
    refine wpAnyH_ready (rs := [34]) (by kernel_rfl) (by simp) ?_
    refine AllReadyH.cons rfl (fun K hK => ?_) AllReadyH.nil
    clear hS
    go_simp
    refine (union_may w13 (hEz.out _ h13) _ _ _ _ tw1213 tw13 hjT1 hjT2 (by omega)).mono ?_
    rintro e w14 ⟨v, rfl, hO⟩
    obtain ⟨vv, rv, rfl, hbw14, hown, hszs, hMR⟩ := hO
    obtain ⟨anw14, cnw14, hvn⟩ := own_form4x hown
    obtain ⟨arw14, crw14, hvr⟩ := hMR.form
    subst hvn
    subst hvr
    have tw14 : TabA w14 1048576 _ _ := ⟨_, _, rfl, ⟨own_row (by rw [textsV_length]; exact hown), hszs⟩, hMR.read⟩
    clear hown hszs hMR
    go_wp2_with fail
    refine hK.out _ _ (h13.trans (hbw14.mono h13.size)) (fun hS => ?_)
    clear hK K
    try simp only [List.getElem_toArray, List.getElem_cons_succ, List.getElem_cons_zero, Act.put, List.setIfInBounds_toArray, List.set_cons_zero, List.set_cons_succ]
    have h14 := h13.trans (hbw14.mono h13.size)
    have tw1114 := tw11.stay (hbw12.trans ((hbw13.trans (hbw14.mono hbw13.size)).mono hbw12.size))
    have cs1 := same_may w14 (hEz.out _ h14) _ _ _ _ tw1114 tw14 (joinT_may hmA hmB) hmU (by omega) (by omega) hkJ hkU
    rw [hjn.out] at cs1
    replace cs1 := Lib.hid cs1
    refine wpAnyH_ready (rs := [35]) (by kernel_rfl) (by simp) ?_
    refine AllReadyH.cons rfl (fun K hK => ?_) AllReadyH.nil
    clear hS
    go_simp
    refine (cs1.out).mono ?_
    rintro e w15 ⟨rfl, hb15⟩
    go_wp2_with fail
    refine hK.out _ _ (h14.trans (hb15.mono h14.size)) (fun hS => ?_)
    clear hK K
    try simp only [List.getElem_toArray, List.getElem_cons_succ, List.getElem_cons_zero, Act.put, List.setIfInBounds_toArray, List.set_cons_zero, List.set_cons_succ]
    have h15 := h14.trans (hb15.mono h14.size)
    clear hb15 tw11 tw12 tw13 tw14 tw1213 tw1114 hbw11 hbw12 hbw13 hbw14 h10 h11 h12 h13 h14 cs1
    refine wpAnyH_take (i := 36) (v := ?_) rfl (by kernel_rfl) (by kernel_rfl) (by kernel_rfl) (fun _ _ _ h => h) (.inl ⟨by kernel_rfl, fun w' hS => ?_⟩) hS ?_
    rotate_left
    ·
      skip
      go_simp
      try with_reducible rfl
    simp only [List.getElem_toArray, List.getElem_cons_succ, List.getElem_cons_zero, Act.put, List.setIfInBounds_toArray, List.set_cons_zero, List.set_cons_succ]
    refine wpAnyH_take (i := 37) (v := ?_) rfl (by kernel_rfl) (by kernel_rfl) (by kernel_rfl) (fun _ _ _ h => h) (.inl ⟨by kernel_rfl, fun w' hS => ?_⟩) hS ?_
    rotate_left
    ·
      skip
      go_simp
      try with_reducible rfl
    simp only [List.getElem_toArray, List.getElem_cons_succ, List.getElem_cons_zero, Act.put, List.setIfInBounds_toArray, List.set_cons_zero, List.set_cons_succ]
    refine wpAnyH_done (by kernel_rfl) ?_ _
    clear hS
    have hT15 := hTz.stay h15
    have hE15 := Lib.hid (fun V (h : Below w15.heap.size w15 V) => hEz.out V (h15.trans (h.mono h15.size)))
    have hB15 := Lib.hid (hBz.out.trans (h15.mono hBz.out.size))
    replace x0 := (stay_of_below h15).cell x0
    replace x1 := (stay_of_below h15).cell x1
    replace x2 := (stay_of_below h15).cell x2
    replace x3 := (stay_of_below h15).cell x3
    replace x4 := (stay_of_below h15).cell x4
    replace x5 := (stay_of_below h15).cell x5
    replace x6 := (stay_of_below h15).cell x6
    clear hTz tA tB t1 t2 tU c3 c4 c5 c6 c7 c8 hEz hBz h15 hT2 hE2 hB2 hb4 h5z hjT1 hjT2 hmU hlU hkU hkJ hjl hjl1 hjl2 hp1 hp2 hmM1 hlM1 hlM hlM2 hjn hmin hv1 hv2 hr1 hr2 hm1B hm2B hB1 hC2 hq34 hq4
    obtain ⟨U, hU⟩ : ∃ U, unionT A B = U := ⟨_, rfl⟩
    obtain ⟨W, hW⟩ : ∃ W, unionT B A = W := ⟨_, rfl⟩
    have hmUt := unionT_may hmA hmB
    have hmWt := unionT_may hmB hmA
    have hUl := unionT_len h64
    have hWl := unionT_len (a := B) (b := A) (by omega)
    have hUw := wt_unionT hmA hmB h64 hwA hwB
    have hper := union_perm (a := A) (b := B) h64
    have hcom := union_comm hmA hmB h64
    rw [hU] at hmUt hUl hUw hper hcom
    rw [hW] at hmWt hWl hper hcom
    have hkU : KeyL U := key_light fun r hr => by have := hUw r hr; omega
    have hkP : KeyL (projT W U.vars) := key_light fun r hr => by have := hUw r (hper.mem_iff.2 hr); omega
    have hPm : mayT (projT W U.vars) = true := projT_may hmWt (may_rows hmUt).1
    have hPl : (projT W U.vars).rows.length = W.rows.length := by unfold projT; rw [List.length_map]
    have cX := union_may w15 (hE15.out _ (Below.refl _ _)) _ _ A B hT15.tabA hT15.tabB hmA hmB (by omega)
    rw [hU] at cX
    replace cX := Lib.hid cX
    replace hper := Lib.hid hper
    replace hcom := Lib.hid hcom
    replace hU := Lib.hid hU
    replace hW := Lib.hid hW
    replace hPl := Lib.hid hPl
    replace hUl := Lib.hid hUl
    replace hWl := Lib.hid hWl
    have hT15h := Lib.hid hT15
    clear hT15
    go_wp2_with fail
    refine cX.out.mono ?_
    rintro e w16 ⟨v, rfl, hO⟩
    obtain ⟨vv16, rv16, rfl, hb16, hown16, hsz16, hMR16⟩ := hO
    obtain ⟨an16, cn16, hvn⟩ := own_form4x hown16
    obtain ⟨ar16, cr16, hvr⟩ := hMR16.form
    subst hvn
    subst hvr
    clear cX
    have hal16 : Below w16.heap.size w16 (w16.alloc (.cells #[.slice an16 U.vars.length cn16, .slice ar16 U.rows.length cr16] 25)) := (Below.refl _ _).alloc (Nat.le_refl _) _
    have h16 := hb16.trans (hal16.mono hb16.size)
    have q16 := Blk.new w16 #[.slice an16 U.vars.length cn16, .slice ar16 U.rows.length cr16] 25
    have t16 := (⟨_, _, rfl, ⟨own_row (by rw [textsV_length]; exact hown16), hsz16⟩, hMR16.read⟩ : TabA w16 1048576 (.agg #[.slice an16 U.vars.length cn16, .slice ar16 U.rows.length cr16]) U).stay hal16
    have cY := union_may _ (hE15.out _ h16) _ _ B A (hT15h.out.stay h16).tabB (hT15h.out.stay h16).tabA hmB hmA (by omega)
    rw [hW.out] at cY
    replace cY := Lib.hid cY
    replace x0 := (stay_of_below h16).cell x0
    replace x1 := (stay_of_below h16).cell x1
    replace x2 := (stay_of_below h16).cell x2
    replace x3 := (stay_of_below h16).cell x3
    replace x4 := (stay_of_below h16).cell x4
    replace x5 := (stay_of_below h16).cell x5
    replace x6 := (stay_of_below h16).cell x6
    clear hb16 hown16 hsz16 hMR16 hal16
    go_wp2_with fail
    obtain ⟨p16, hp16⟩ : ∃ p16, w16.heap.size = p16 := ⟨_, rfl⟩
    rw [hp16] at q16
    try rw [hp16]
    generalize w16.alloc (.cells #[.slice an16 U.vars.length cn16, .slice ar16 U.rows.length cr16] 25) = w17 at *
    replace hp16 := Lib.hid hp16
    refine cY.out.mono ?_
    rintro e w18 ⟨v, rfl, hO⟩
    obtain ⟨vv18, rv18, rfl, hb18, hown18, hsz18, hMR18⟩ := hO
    obtain ⟨an18, cn18, hvn⟩ := own_form4x hown18
    obtain ⟨ar18, cr18, hvr⟩ := hMR18.form
    subst hvn
    subst hvr
    clear cY
    go_upto_region 11 with fail
    obtain ⟨wy, hwy⟩ : ∃ wy, (w18.alloc (.cells #[.slice an18 W.vars.length cn18, .slice ar18 W.rows.length cr18] 25)).drew = wy := ⟨_, rfl⟩
    have h18y : Below w18.heap.size w18 wy := by
      rw [← hwy]
      exact ((Below.refl _ _).alloc (Nat.le_refl _) _).drew
    have h17y : Below w17.heap.size w17 wy := hb18.trans (h18y.mono hb18.size)
    have h15y := h16.trans (h17y.mono h16.size)
    have q18 : Blk wy w18.heap.size #[.slice an18 W.vars.length cn18, .slice ar18 W.rows.length cr18] 25 := by
      rw [← hwy]
      exact (Blk.new w18 _ _).drewN 1
    have q17 : Blk wy p16 _ _ := (h17y.block _ q16.lt).trans q16
    have t18 := (⟨_, _, rfl, ⟨own_row (by rw [textsV_length]; exact hown18), hsz18⟩, hMR18.read⟩ : TabA w18 1048576 (.agg #[.slice an18 W.vars.length cn18, .slice ar18 W.rows.length cr18]) W).stay h18y
    replace t16 := t16.stay h17y
    have hTy := hT15h.out.stay h15y
    have hEy := Lib.hid (fun V (h : Below wy.heap.size wy V) => hE15.out V (h15y.trans (h.mono h15y.size)))
    have hBy := Lib.hid (hB15.out.trans (h15y.mono hB15.out.size))
    replace x0 := (stay_of_below h17y).cell x0
    replace x1 := (stay_of_below h17y).cell x1
    replace x2 := (stay_of_below h17y).cell x2
    replace x3 := (stay_of_below h17y).cell x3
    replace x4 := (stay_of_below h17y).cell x4
    replace x5 := (stay_of_below h17y).cell x5
    replace x6 := (stay_of_below h17y).cell x6
    have c3 := q17.cell 0 rfl
    have c4 := q17.cell 1 rfl
    have c5 := q18.cell 0 rfl
    have c6 := q18.cell 1 rfl
    have h0 : Below wy.heap.size wy wy := Below.refl _ _
    clear h15y h17y h18y h16 hb18 hown18 hsz18 hMR18 q16 q17 q18 hT15h hE15 hB15
    refine wp_region_held_drew (S := fun V => Below wy.heap.size wy V) (by kernel_rfl) (by rw [hwy]; exact Below.refl _ _) (fun hS => ?_)
    rw [hwy]
    rw [hwy] at hS
    obtain ⟨p18, hp18⟩ : ∃ p18, w18.heap.size = p18 := ⟨_, rfl⟩
    rw [hp18] at c5 c6
    try rw [hp18]
    replace hp18 := Lib.hid hp18
    replace hwy := Lib.hid hwy
    obtain ⟨vJ, rJ, eJ, hUvars, hUrows⟩ := t16.ex
    injection eJ with eJ
    have eJ2 := Array.mk.inj eJ
    simp only [List.cons.injEq, and_true] at eJ2
    obtain ⟨rfl, rfl⟩ := eJ2
    clear eJ
    refine wpAnyH_take (i := 0) (v := ?_) rfl (by kernel_rfl) (by kernel_rfl) (by kernel_rfl) (fun _ _ _ h => h) (.inl ⟨by kernel_rfl, fun w' hS => ?_⟩) hS ?_
    rotate_left
    ·
      have y0 := (stay_of_below hS).cell c3; have y1 := (stay_of_below hS).cell c4; have y2 := (stay_of_below hS).cell c5; have y3 := (stay_of_below hS).cell c6
      go_simp
      try with_reducible rfl
    simp only [List.getElem_toArray, List.getElem_cons_succ, List.getElem_cons_zero, Act.put, List.setIfInBounds_toArray, List.set_cons_zero, List.set_cons_succ]
    refine wpAnyH_take (i := 1) (v := ?_) rfl (by kernel_rfl) (by kernel_rfl) (by kernel_rfl) (fun _ _ _ h => h) (.inl ⟨by kernel_rfl, fun w' hS => ?_⟩) hS ?_
    rotate_left
    ·
      have y0 := (stay_of_below hS).cell c3; have y1 := (stay_of_below hS).cell c4; have y2 := (stay_of_below hS).cell c5; have y3 := (stay_of_below hS).cell c6
      go_simp
      try with_reducible rfl
    simp only [List.getElem_toArray, List.getElem_cons_succ, List.getElem_cons_zero, Act.put, List.setIfInBounds_toArray, List.set_cons_zero, List.set_cons_succ]
    refine wpAnyH_take (i := 2) (v := ?_) rfl (by kernel_rfl) (by kernel_rfl) (by kernel_rfl) (fun _ _ _ h => h) (.inl ⟨by kernel_rfl, fun w' hS => ?_⟩) hS ?_
    rotate_left
    ·
      have y0 := (stay_of_below hS).cell c3; have y1 := (stay_of_below hS).cell c4; have y2 := (stay_of_below hS).cell c5; have y3 := (stay_of_below hS).cell c6
      go_simp
      try with_reducible rfl
    simp only [List.getElem_toArray, List.getElem_cons_succ, List.getElem_cons_zero, Act.put, List.setIfInBounds_toArray, List.set_cons_zero, List.set_cons_succ]
    refine wpAnyH_take (i := 3) (v := ?_) rfl (by kernel_rfl) (by kernel_rfl) (by kernel_rfl) (fun _ _ _ h => h) (.inl ⟨by kernel_rfl, fun w' hS => ?_⟩) hS ?_
    rotate_left
    ·
      have y0 := (stay_of_below hS).cell c3; have y1 := (stay_of_below hS).cell c4; have y2 := (stay_of_below hS).cell c5; have y3 := (stay_of_below hS).cell c6
      go_simp
      try with_reducible rfl
    simp only [List.getElem_toArray, List.getElem_cons_succ, List.getElem_cons_zero, Act.put, List.setIfInBounds_toArray, List.set_cons_zero, List.set_cons_succ]
    refine wpAnyH_ready (rs := [4]) (by kernel_rfl) (by simp) ?_
    refine AllReadyH.cons rfl (fun K hK => ?_) AllReadyH.nil
    clear hS
    go_simp
    refine (project_may wy (hEy.out _ h0) _ _ W U.vars t18 hUvars hmWt (may_rows hmUt).1 (by have := hWl.out; omega)).mono ?_
    rintro e w19 ⟨v, rfl, hO⟩
    obtain ⟨vv, rv, rfl, hbw19, hown, hszs, hMR⟩ := hO
    obtain ⟨anw19, cnw19, hvn⟩ := own_form4x hown
    obtain ⟨arw19, crw19, hvr⟩ := hMR.form
    subst hvn
    subst hvr
    have tw19 : TabA w19 1048576 _ _ := ⟨_, _, rfl, ⟨own_row (by rw [textsV_length]; exact hown), hszs⟩, hMR.read⟩
    clear hown hszs hMR
    go_wp2_with fail
    refine hK.out _ _ (h0.trans (hbw19.mono h0.size)) (fun hS => ?_)
    clear hK K
    try simp only [List.getElem_toArray, List.getElem_cons_succ, List.getElem_cons_zero, Act.put, List.setIfInBounds_toArray, List.set_cons_zero, List.set_cons_succ]
    have h19 := h0.trans (hbw19.mono h0.size)
    have cs1 := same_may w19 (hEy.out _ h19) _ _ _ _ (t16.stay h19) tw19 hmUt hPm (by have := hUl.out; omega) (by have := hWl.out; have := hPl.out; omega) hkU hkP
    rw [hcom.out] at cs1
    replace cs1 := Lib.hid cs1
    refine wpAnyH_ready (rs := [5]) (by kernel_rfl) (by simp) ?_
    refine AllReadyH.cons rfl (fun K hK => ?_) AllReadyH.nil
    clear hS
    go_simp
    refine (cs1.out).mono ?_
    rintro e w20 ⟨rfl, hb20⟩
    go_wp2_with fail
    refine hK.out _ _ (h19.trans (hb20.mono h19.size)) (fun hS => ?_)
    clear hK K
    try simp only [List.getElem_toArray, List.getElem_cons_succ, List.getElem_cons_zero, Act.put, List.setIfInBounds_toArray, List.set_cons_zero, List.set_cons_succ]
    have h20 := h19.trans (hb20.mono h19.size)
    clear hb20 tw19 hbw19 h19 cs1 h0
    refine wpAnyH_take (i := 6) (v := ?_) rfl (by kernel_rfl) (by kernel_rfl) (by kernel_rfl) (fun _ _ _ h => h) (.inl ⟨by kernel_rfl, fun w' hS => ?_⟩) hS ?_
    rotate_left
    ·
      skip
      go_simp
      try with_reducible rfl
    simp only [List.getElem_toArray, List.getElem_cons_succ, List.getElem_cons_zero, Act.put, List.setIfInBounds_toArray, List.set_cons_zero, List.set_cons_succ]
    refine wpAnyH_done (by kernel_rfl) ?_ _
    clear hS t16 t18 hUvars hUrows c3 c4 c5 c6 hkU hkP hPm hPl hUl hWl hper hcom hUw
    replace x0 := (stay_of_below h20).cell x0
    replace x1 := (stay_of_below h20).cell x1
    replace x2 := (stay_of_below h20).cell x2
    replace x3 := (stay_of_below h20).cell x3
    replace x4 := (stay_of_below h20).cell x4
    replace x5 := (stay_of_below h20).cell x5
    replace x6 := (stay_of_below h20).cell x6
    have hTq := hTy.stay h20
    have hEq := Lib.hid (fun V (h : Below w20.heap.size w20 V) => hEy.out V (h20.trans (h.mono h20.size)))
    have hBq := Lib.hid (hBy.out.trans (h20.mono hBy.out.size))
    have hsub : ∀ x ∈ A.vars.take m1, x ∈ A.vars := fun x hx => List.mem_of_mem_take hx
    have hpp := proj_proj A hsub
    have hnH : namesB (A.vars.take m1) = true := names_take (may_rows hmA).1 m1
    have tH : TextsA w20 w20.heap.size (.slice av m1 cv) (A.vars.take m1) := part_texts hTq.av hmlen
    have hdu := dist_union hmA
    have hAA : (unionT A A).rows.length = A.rows.length + A.rows.length := by rw [union_same hmA hmA rfl, List.length_append]
    have hmAA := unionT_may hmA hmA
    have hkA : KeyL A := key_light fun r hr => by have := hwA r hr; omega
    have hkAA : KeyL (unionT A A) := fun r hr => by
      rw [union_same hmA hmA rfl] at hr
      rcases List.mem_append.1 hr with h | h
      · exact hkA r h
      · exact hkA r h
    have hkD : KeyL (distT A) := fun r hr => hkA r (distF_mem _ _ r hr)
    have hkDD : KeyL (distT (unionT A A)) := fun r hr => hkAA r (distF_mem _ _ r hr)
    have hdl := distT_len A
    have hdl2 := distT_len (unionT A A)
    have hmP1 : mayT (projT A A.vars) = true := projT_may hmA (may_rows hmA).1
    have hlP1 : (projT A A.vars).rows.length = A.rows.length := by unfold projT; rw [List.length_map]
    have hlP2 : (projT A (A.vars.take m1)).rows.length = A.rows.length := by unfold projT; rw [List.length_map]
    have hlP3 : (projT A (A.vars.take m1)).vars.length ≤ 64 := by show (A.vars.take m1).length ≤ 64; rw [List.length_take]; omega
    have tA := hTq.tabA
    have tV := hTq.av
    have h0 : Below w20.heap.size w20 w20 := Below.refl _ _
    clear hTy hEy hBy h20 hTq hsub
    replace hpp := Lib.hid hpp
    replace hdu := Lib.hid hdu
    replace hAA := Lib.hid hAA
    replace hlP1 := Lib.hid hlP1
    replace hlP2 := Lib.hid hlP2
    replace hlP3 := Lib.hid hlP3
    replace hdl := Lib.hid hdl
    replace hdl2 := Lib.hid hdl2
    go_wp2
    go_upto_region 14 with fail
    clear h0
    have h0 : Below w20.heap.size w20 w20.drew := below_drewN (Below.refl w20.heap.size w20) 1
    refine wp_region_held_drew (S := fun V => Below w20.heap.size w20 V) (by kernel_rfl) h0 (fun hS => ?_)
    generalize w20.drew = wd at *
    refine wpAnyH_take (i := 0) (v := ?_) rfl (by kernel_rfl) (by kernel_rfl) (by kernel_rfl) (fun _ _ _ h => h) (.inl ⟨by kernel_rfl, fun w' hS => ?_⟩) hS ?_
    rotate_left
    ·
      have y0 := (stay_of_below hS).cell x0; have y1 := (stay_of_below hS).cell x1
      go_simp
      try with_reducible rfl
    simp only [List.getElem_toArray, List.getElem_cons_succ, List.getElem_cons_zero, Act.put, List.setIfInBounds_toArray, List.set_cons_zero, List.set_cons_succ]
    refine wpAnyH_take (i := 1) (v := ?_) rfl (by kernel_rfl) (by kernel_rfl) (by kernel_rfl) (fun _ _ _ h => h) (.inl ⟨by kernel_rfl, fun w' hS => ?_⟩) hS ?_
    rotate_left
    ·
      have y0 := (stay_of_below hS).cell x0; have y1 := (stay_of_below hS).cell x1
      go_simp
      try with_reducible rfl
    simp only [List.getElem_toArray, List.getElem_cons_succ, List.getElem_cons_zero, Act.put, List.setIfInBounds_toArray, List.set_cons_zero, List.set_cons_succ]
    refine wpAnyH_take (i := 2) (v := ?_) rfl (by kernel_rfl) (by kernel_rfl) (by kernel_rfl) (fun _ _ _ h => h) (.inl ⟨by kernel_rfl, fun w' hS => ?_⟩) hS ?_
    rotate_left
    ·
      have y0 := (stay_of_below hS).cell x0; have y1 := (stay_of_below hS).cell x1
      go_simp
      try with_reducible rfl
    simp only [List.getElem_toArray, List.getElem_cons_succ, List.getElem_cons_zero, Act.put, List.setIfInBounds_toArray, List.set_cons_zero, List.set_cons_succ]
    refine wpAnyH_take (i := 3) (v := ?_) rfl (by kernel_rfl) (by kernel_rfl) (by kernel_rfl) (fun _ _ _ h => h) (.inl ⟨by kernel_rfl, fun w' hS => ?_⟩) hS ?_
    rotate_left
    ·
      have y0 := (stay_of_below hS).cell x0; have y1 := (stay_of_below hS).cell x1
      go_simp
      try with_reducible rfl
    simp only [List.getElem_toArray, List.getElem_cons_succ, List.getElem_cons_zero, Act.put, List.setIfInBounds_toArray, List.set_cons_zero, List.set_cons_succ]
    refine wpAnyH_take (i := 4) (v := ?_) rfl (by kernel_rfl) (by kernel_rfl) (by kernel_rfl) (fun _ _ _ h => h) (.inl ⟨by kernel_rfl, fun w' hS => ?_⟩) hS ?_
    rotate_left
    ·
      have y0 := (stay_of_below hS).cell x0; have y1 := (stay_of_below hS).cell x1
      go_simp
      try with_reducible rfl
    simp only [List.getElem_toArray, List.getElem_cons_succ, List.getElem_cons_zero, Act.put, List.setIfInBounds_toArray, List.set_cons_zero, List.set_cons_succ]
    refine wpAnyH_take (i := 6) (v := ?_) rfl (by kernel_rfl) (by kernel_rfl) (by kernel_rfl) (fun _ _ _ h => h) (.inl ⟨by kernel_rfl, fun w' hS => ?_⟩) hS ?_
    rotate_left
    ·
      have y0 := (stay_of_below hS).cell x0; have y1 := (stay_of_below hS).cell x1
      go_simp
      try with_reducible rfl
    simp only [List.getElem_toArray, List.getElem_cons_succ, List.getElem_cons_zero, Act.put, List.setIfInBounds_toArray, List.set_cons_zero, List.set_cons_succ]
    refine wpAnyH_take (i := 8) (v := ?_) rfl (by kernel_rfl) (by kernel_rfl) (by kernel_rfl) (fun _ _ _ h => h) (.inl ⟨by kernel_rfl, fun w' hS => ?_⟩) hS ?_
    rotate_left
    ·
      have y0 := (stay_of_below hS).cell x0; have y1 := (stay_of_below hS).cell x1
      go_simp
      try with_reducible rfl
    simp only [List.getElem_toArray, List.getElem_cons_succ, List.getElem_cons_zero, Act.put, List.setIfInBounds_toArray, List.set_cons_zero, List.set_cons_succ]
    refine wpAnyH_take (i := 9) (v := ?_) rfl (by kernel_rfl) (by kernel_rfl) (by kernel_rfl) (fun _ _ _ h => h) (.inl ⟨by kernel_rfl, fun w' hS => ?_⟩) hS ?_
    rotate_left
    ·
      have y0 := (stay_of_below hS).cell x0; have y1 := (stay_of_below hS).cell x1
      go_simp
      try with_reducible rfl
    simp only [List.getElem_toArray, List.getElem_cons_succ, List.getElem_cons_zero, Act.put, List.setIfInBounds_toArray, List.set_cons_zero, List.set_cons_succ]
    refine wpAnyH_take (i := 10) (v := ?_) rfl (by kernel_rfl) (by kernel_rfl) (by kernel_rfl) (fun _ _ _ h => h) (.inl ⟨by kernel_rfl, fun w' hS => ?_⟩) hS ?_
    rotate_left
    ·
      have y0 := (stay_of_below hS).cell x0; have y1 := (stay_of_below hS).cell x1
      go_simp
      try with_reducible rfl
    simp only [List.getElem_toArray, List.getElem_cons_succ, List.getElem_cons_zero, Act.put, List.setIfInBounds_toArray, List.set_cons_zero, List.set_cons_succ]
    refine wpAnyH_ready (rs := [5]) (by kernel_rfl) (by simp) ?_
    refine AllReadyH.cons rfl (fun K hK => ?_) AllReadyH.nil
    clear hS
    go_simp
    refine (project_may wd (hEq.out _ h0) _ _ A A.vars (tA.stay h0) (TextsA.below tV h0) hmA (may_rows hmA).1 (by omega)).mono ?_
    rintro e w21 ⟨v, rfl, hO⟩
    obtain ⟨vv, rv, rfl, hbw21, hown, hszs, hMR⟩ := hO
    obtain ⟨anw21, cnw21, hvn⟩ := own_form4x hown
    obtain ⟨arw21, crw21, hvr⟩ := hMR.form
    subst hvn
    subst hvr
    have tw21 : TabA w21 1048576 _ _ := ⟨_, _, rfl, ⟨own_row (by rw [textsV_length]; exact hown), hszs⟩, hMR.read⟩
    clear hown hszs hMR
    go_wp2_with fail
    refine hK.out _ _ (h0.trans (hbw21.mono h0.size)) (fun hS => ?_)
    clear hK K
    try simp only [List.getElem_toArray, List.getElem_cons_succ, List.getElem_cons_zero, Act.put, List.setIfInBounds_toArray, List.set_cons_zero, List.set_cons_succ]
    have h21 := h0.trans (hbw21.mono h0.size)
    refine wpAnyH_ready (rs := [7]) (by kernel_rfl) (by simp) ?_
    refine AllReadyH.cons rfl (fun K hK => ?_) AllReadyH.nil
    clear hS
    go_simp
    refine (project_may w21 (hEq.out _ h21) _ _ (projT A A.vars) (A.vars.take m1) tw21 (TextsA.below tH h21) hmP1 hnH (by have := hlP1.out; omega)).mono ?_
    rintro e w22 ⟨v, rfl, hO⟩
    obtain ⟨vv, rv, rfl, hbw22, hown, hszs, hMR⟩ := hO
    obtain ⟨anw22, cnw22, hvn⟩ := own_form4x hown
    obtain ⟨arw22, crw22, hvr⟩ := hMR.form
    subst hvn
    subst hvr
    have tw22 : TabA w22 1048576 _ _ := ⟨_, _, rfl, ⟨own_row (by rw [textsV_length]; exact hown), hszs⟩, hMR.read⟩
    clear hown hszs hMR
    go_wp2_with fail
    refine hK.out _ _ (h21.trans (hbw22.mono h21.size)) (fun hS => ?_)
    clear hK K
    try simp only [List.getElem_toArray, List.getElem_cons_succ, List.getElem_cons_zero, Act.put, List.setIfInBounds_toArray, List.set_cons_zero, List.set_cons_succ]
    have h22 := h21.trans (hbw22.mono h21.size)
    have tw22b : TabA w22 1048576 (.agg #[.slice anw22 (projT (projT A A.vars) (A.vars.take m1)).vars.length cnw22, .slice arw22 (projT (projT A A.vars) (A.vars.take m1)).rows.length crw22]) (projT A (A.vars.take m1)) := by
      rw [← hpp.out]
      exact tw22
    refine wpAnyH_ready (rs := [11]) (by kernel_rfl) (by simp) ?_
    refine AllReadyH.cons rfl (fun K hK => ?_) AllReadyH.nil
    clear hS
    go_simp
    refine (project_may w22 (hEq.out _ h22) _ _ A (A.vars.take m1) (tA.stay h22) (TextsA.below tH h22) hmA hnH (by omega)).mono ?_
    rintro e w23 ⟨v, rfl, hO⟩
    obtain ⟨vv, rv, rfl, hbw23, hown, hszs, hMR⟩ := hO
    obtain ⟨anw23, cnw23, hvn⟩ := own_form4x hown
    obtain ⟨arw23, crw23, hvr⟩ := hMR.form
    subst hvn
    subst hvr
    have tw23 : TabA w23 1048576 _ _ := ⟨_, _, rfl, ⟨own_row (by rw [textsV_length]; exact hown), hszs⟩, hMR.read⟩
    clear hown hszs hMR
    go_wp2_with fail
    refine hK.out _ _ (h22.trans (hbw23.mono h22.size)) (fun hS => ?_)
    clear hK K
    try simp only [List.getElem_toArray, List.getElem_cons_succ, List.getElem_cons_zero, Act.put, List.setIfInBounds_toArray, List.set_cons_zero, List.set_cons_succ]
    have h23 := h22.trans (hbw23.mono h22.size)
    refine wpAnyH_ready (rs := [12]) (by kernel_rfl) (by simp) ?_
    refine AllReadyH.cons rfl (fun K hK => ?_) AllReadyH.nil
    clear hS
    go_simp
    refine (eqTab_same 1048576 (by omega) w23 _ _ (projT A (A.vars.take m1)) (tw22b.stay hbw23) tw23 (by have := hlP3.out; omega) (by have := hlP2.out; omega)).mono ?_
    rintro e w24 ⟨rfl, hb24⟩
    go_wp2_with fail
    refine hK.out _ _ (h23.trans (hb24.mono h23.size)) (fun hS => ?_)
    clear hK K
    try simp only [List.getElem_toArray, List.getElem_cons_succ, List.getElem_cons_zero, Act.put, List.setIfInBounds_toArray, List.set_cons_zero, List.set_cons_succ]
    have h24 := h23.trans (hb24.mono h23.size)
    clear hb24 tw21 tw22 tw22b tw23 hbw21 hbw22 hbw23 h0 h21 h22 h23
    refine wpAnyH_take (i := 13) (v := ?_) rfl (by kernel_rfl) (by kernel_rfl) (by kernel_rfl) (fun _ _ _ h => h) (.inl ⟨by kernel_rfl, fun w' hS => ?_⟩) hS ?_
    rotate_left
    ·
      have y0 := (stay_of_below hS).cell x0; have y1 := (stay_of_below hS).cell x1
      go_simp
      try with_reducible rfl
    simp only [List.getElem_toArray, List.getElem_cons_succ, List.getElem_cons_zero, Act.put, List.setIfInBounds_toArray, List.set_cons_zero, List.set_cons_succ]
    refine wpAnyH_take (i := 14) (v := ?_) rfl (by kernel_rfl) (by kernel_rfl) (by kernel_rfl) (fun _ _ _ h => h) (.inl ⟨by kernel_rfl, fun w' hS => ?_⟩) hS ?_
    rotate_left
    ·
      have y0 := (stay_of_below hS).cell x0; have y1 := (stay_of_below hS).cell x1
      go_simp
      try with_reducible rfl
    simp only [List.getElem_toArray, List.getElem_cons_succ, List.getElem_cons_zero, Act.put, List.setIfInBounds_toArray, List.set_cons_zero, List.set_cons_succ]
    refine wpAnyH_take (i := 15) (v := ?_) rfl (by kernel_rfl) (by kernel_rfl) (by kernel_rfl) (fun _ _ _ h => h) (.inl ⟨by kernel_rfl, fun w' hS => ?_⟩) hS ?_
    rotate_left
    ·
      have y0 := (stay_of_below hS).cell x0; have y1 := (stay_of_below hS).cell x1
      go_simp
      try with_reducible rfl
    simp only [List.getElem_toArray, List.getElem_cons_succ, List.getElem_cons_zero, Act.put, List.setIfInBounds_toArray, List.set_cons_zero, List.set_cons_succ]
    refine wpAnyH_take (i := 16) (v := ?_) rfl (by kernel_rfl) (by kernel_rfl) (by kernel_rfl) (fun _ _ _ h => h) (.inl ⟨by kernel_rfl, fun w' hS => ?_⟩) hS ?_
    rotate_left
    ·
      have y0 := (stay_of_below hS).cell x0; have y1 := (stay_of_below hS).cell x1
      go_simp
      try with_reducible rfl
    simp only [List.getElem_toArray, List.getElem_cons_succ, List.getElem_cons_zero, Act.put, List.setIfInBounds_toArray, List.set_cons_zero, List.set_cons_succ]
    refine wpAnyH_take (i := 17) (v := ?_) rfl (by kernel_rfl) (by kernel_rfl) (by kernel_rfl) (fun _ _ _ h => h) (.inl ⟨by kernel_rfl, fun w' hS => ?_⟩) hS ?_
    rotate_left
    ·
      have y0 := (stay_of_below hS).cell x0; have y1 := (stay_of_below hS).cell x1
      go_simp
      try with_reducible rfl
    simp only [List.getElem_toArray, List.getElem_cons_succ, List.getElem_cons_zero, Act.put, List.setIfInBounds_toArray, List.set_cons_zero, List.set_cons_succ]
    refine wpAnyH_take (i := 20) (v := ?_) rfl (by kernel_rfl) (by kernel_rfl) (by kernel_rfl) (fun _ _ _ h => h) (.inl ⟨by kernel_rfl, fun w' hS => ?_⟩) hS ?_
    rotate_left
    ·
      have y0 := (stay_of_below hS).cell x0; have y1 := (stay_of_below hS).cell x1
      go_simp
      try with_reducible rfl
    simp only [List.getElem_toArray, List.getElem_cons_succ, List.getElem_cons_zero, Act.put, List.setIfInBounds_toArray, List.set_cons_zero, List.set_cons_succ]
    refine wpAnyH_take (i := 21) (v := ?_) rfl (by kernel_rfl) (by kernel_rfl) (by kernel_rfl) (fun _ _ _ h => h) (.inl ⟨by kernel_rfl, fun w' hS => ?_⟩) hS ?_
    rotate_left
    ·
      have y0 := (stay_of_below hS).cell x0; have y1 := (stay_of_below hS).cell x1
      go_simp
      try with_reducible rfl
    simp only [List.getElem_toArray, List.getElem_cons_succ, List.getElem_cons_zero, Act.put, List.setIfInBounds_toArray, List.set_cons_zero, List.set_cons_succ]
    refine wpAnyH_ready (rs := [18]) (by kernel_rfl) (by simp) ?_
    refine AllReadyH.cons rfl (fun K hK => ?_) AllReadyH.nil
    clear hS
    go_simp
    refine (union_may w24 (hEq.out _ h24) _ _ A A (tA.stay h24) (tA.stay h24) hmA hmA (by omega)).mono ?_
    rintro e w25 ⟨v, rfl, hO⟩
    obtain ⟨vv, rv, rfl, hbw25, hown, hszs, hMR⟩ := hO
    obtain ⟨anw25, cnw25, hvn⟩ := own_form4x hown
    obtain ⟨arw25, crw25, hvr⟩ := hMR.form
    subst hvn
    subst hvr
    have tw25 : TabA w25 1048576 _ _ := ⟨_, _, rfl, ⟨own_row (by rw [textsV_length]; exact hown), hszs⟩, hMR.read⟩
    clear hown hszs hMR
    go_wp2_with fail
    refine hK.out _ _ (h24.trans (hbw25.mono h24.size)) (fun hS => ?_)
    clear hK K
    try simp only [List.getElem_toArray, List.getElem_cons_succ, List.getElem_cons_zero, Act.put, List.setIfInBounds_toArray, List.set_cons_zero, List.set_cons_succ]
    have h25 := h24.trans (hbw25.mono h24.size)
    refine wpAnyH_ready (rs := [19]) (by kernel_rfl) (by simp) ?_
    refine AllReadyH.cons rfl (fun K hK => ?_) AllReadyH.nil
    clear hS
    go_simp
    refine (distinct_may w25 (hEq.out _ h25) _ (unionT A A) tw25 hmAA (by have := hAA.out; omega) hkAA).mono ?_
    rintro e w26 ⟨v, rfl, hO⟩
    obtain ⟨vv, rv, rfl, hbw26, hown, hszs, hMR⟩ := hO
    obtain ⟨anw26, cnw26, hvn⟩ := own_form4x hown
    obtain ⟨arw26, crw26, hvr⟩ := hMR.form
    subst hvn
    subst hvr
    have tw26 : TabA w26 1048576 _ _ := ⟨_, _, rfl, ⟨own_row (by rw [textsV_length]; exact hown), hszs⟩, hMR.read⟩
    clear hown hszs hMR
    go_wp2_with fail
    refine hK.out _ _ (h25.trans (hbw26.mono h25.size)) (fun hS => ?_)
    clear hK K
    try simp only [List.getElem_toArray, List.getElem_cons_succ, List.getElem_cons_zero, Act.put, List.setIfInBounds_toArray, List.set_cons_zero, List.set_cons_succ]
    have h26 := h25.trans (hbw26.mono h25.size)
    refine wpAnyH_ready (rs := [22]) (by kernel_rfl) (by simp) ?_
    refine AllReadyH.cons rfl (fun K hK => ?_) AllReadyH.nil
    clear hS
    go_simp
    refine (distinct_may w26 (hEq.out _ h26) _ A (tA.stay h26) hmA (by omega) hkA).mono ?_
    rintro e w27 ⟨v, rfl, hO⟩
    obtain ⟨vv, rv, rfl, hbw27, hown, hszs, hMR⟩ := hO
    obtain ⟨anw27, cnw27, hvn⟩ := own_form4x hown
    obtain ⟨arw27, crw27, hvr⟩ := hMR.form
    subst hvn
    subst hvr
    have tw27 : TabA w27 1048576 _ _ := ⟨_, _, rfl, ⟨own_row (by rw [textsV_length]; exact hown), hszs⟩, hMR.read⟩
    clear hown hszs hMR
    go_wp2_with fail
    refine hK.out _ _ (h26.trans (hbw27.mono h26.size)) (fun hS => ?_)
    clear hK K
    try simp only [List.getElem_toArray, List.getElem_cons_succ, List.getElem_cons_zero, Act.put, List.setIfInBounds_toArray, List.set_cons_zero, List.set_cons_succ]
    have h27 := h26.trans (hbw27.mono h26.size)
    have cs2 := same_may w27 (hEq.out _ h27) _ _ _ _ (tw26.stay hbw27) tw27 (dist_may hmAA) (dist_may hmA) (by have := hAA.out; have := hdl2.out; omega) (by have := hdl.out; omega) hkDD hkD
    rw [hdu.out] at cs2
    replace cs2 := Lib.hid cs2
    refine wpAnyH_ready (rs := [23]) (by kernel_rfl) (by simp) ?_
    refine AllReadyH.cons rfl (fun K hK => ?_) AllReadyH.nil
    clear hS
    go_simp
    refine (cs2.out).mono ?_
    rintro e w28 ⟨rfl, hb28⟩
    go_wp2_with fail
    refine hK.out _ _ (h27.trans (hb28.mono h27.size)) (fun hS => ?_)
    clear hK K
    try simp only [List.getElem_toArray, List.getElem_cons_succ, List.getElem_cons_zero, Act.put, List.setIfInBounds_toArray, List.set_cons_zero, List.set_cons_succ]
    have h28 := h27.trans (hb28.mono h27.size)
    clear hb28 tw25 tw26 tw27 hbw25 hbw26 hbw27 h24 h25 h26 h27 cs2
    refine wpAnyH_take (i := 24) (v := ?_) rfl (by kernel_rfl) (by kernel_rfl) (by kernel_rfl) (fun _ _ _ h => h) (.inl ⟨by kernel_rfl, fun w' hS => ?_⟩) hS ?_
    rotate_left
    ·
      skip
      go_simp
      try with_reducible rfl
    simp only [List.getElem_toArray, List.getElem_cons_succ, List.getElem_cons_zero, Act.put, List.setIfInBounds_toArray, List.set_cons_zero, List.set_cons_succ]
    refine wpAnyH_take (i := 25) (v := ?_) rfl (by kernel_rfl) (by kernel_rfl) (by kernel_rfl) (fun _ _ _ h => h) (.inl ⟨by kernel_rfl, fun w' hS => ?_⟩) hS ?_
    rotate_left
    ·
      skip
      go_simp
      try with_reducible rfl
    simp only [List.getElem_toArray, List.getElem_cons_succ, List.getElem_cons_zero, Act.put, List.setIfInBounds_toArray, List.set_cons_zero, List.set_cons_succ]
    refine wpAnyH_ready (rs := [26]) (by kernel_rfl) (by simp) ?_
    refine AllReadyH.cons rfl (fun K hK => ?_) AllReadyH.nil
    clear hS
    go_simp
    refine (wakes9_any w28 (hEq.out _ h28)).mono ?_
    rintro e w29 ⟨rfl, hb29⟩
    go_wp2_with fail
    refine hK.out _ _ (h28.trans (hb29.mono h28.size)) (fun hS => ?_)
    clear hK K
    try simp only [List.getElem_toArray, List.getElem_cons_succ, List.getElem_cons_zero, Act.put, List.setIfInBounds_toArray, List.set_cons_zero, List.set_cons_succ]
    have h29 := h28.trans (hb29.mono h28.size)
    clear hb29 h28
    refine wpAnyH_take (i := 27) (v := ?_) rfl (by kernel_rfl) (by kernel_rfl) (by kernel_rfl) (fun _ _ _ h => h) (.inl ⟨by kernel_rfl, fun w' hS => ?_⟩) hS ?_
    rotate_left
    ·
      skip
      go_simp
      try with_reducible rfl
    simp only [List.getElem_toArray, List.getElem_cons_succ, List.getElem_cons_zero, Act.put, List.setIfInBounds_toArray, List.set_cons_zero, List.set_cons_succ]
    refine wpAnyH_take (i := 28) (v := ?_) rfl (by kernel_rfl) (by kernel_rfl) (by kernel_rfl) (fun _ _ _ h => h) (.inl ⟨by kernel_rfl, fun w' hS => ?_⟩) hS ?_
    rotate_left
    ·
      skip
      go_simp
      try with_reducible rfl
    simp only [List.getElem_toArray, List.getElem_cons_succ, List.getElem_cons_zero, Act.put, List.setIfInBounds_toArray, List.set_cons_zero, List.set_cons_succ]
    refine wpAnyH_done (by kernel_rfl) ?_ _
    clear hS
    have hfin := Lib.hid (hBq.out.trans (h29.mono hBq.out.size))
    clear h29
    go_wp2
    go_ret
    exact ⟨rfl, hfin.out⟩
end Go.Proofs.YtjpondgobogkeaaGreatDoor.tab
