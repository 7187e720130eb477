/- Contract of compare: the order of two numbers. -/
import Derived.Test.YtjncjcellpbhcaaGreatDoorVPlain
import Derived.Test.YtjncjcellpbhcaaGreatDoorValCmp
import Derived.Deep.RegionHeld3
namespace Go.Proofs.YtjncjcellpbhcaaGreatDoor.val
open Go.ChangeShapes Go.WideShapes Go.ChangeAt Go.RowKit kit dec
set_option linter.unusedVariables false
set_option linter.unusedSimpArgs false
theorem cmp_e20 (n m : Int) (t u : ByteArray) : cmpI (numV 2 n t) (numV 2 m u) = cmpI n m := by
  have hp := E20_pos
  have h0 : (0 : Int) < (E20 : Int) := by omega
  unfold numV
  rw [if_pos rfl, if_pos rfl]
  unfold cmpI
  by_cases h : n = m
  · rw [if_pos h, if_pos (by rw [h])]
  · rw [if_neg h, if_neg (fun e => h (Int.eq_of_mul_eq_mul_right (by omega) e))]
    by_cases h2 : n < m
    · rw [if_pos h2, if_pos (Int.mul_lt_mul_of_pos_right h2 h0)]
    · rw [if_neg h2, if_neg (fun e => h2 (Int.lt_of_mul_lt_mul_right e (Int.le_of_lt h0)))]
set_option maxRecDepth 100000 in
theorem exact_call (k : Int) (b : Bool) (n : Int) (hn : In64 n) (t x : ByteArray) (s : Value) (w : World) (hE : Env w) : Calls Tryz.prog 31 #[agg6 k b n t x s] w fun e w' => ∃ u : ByteArray, e = .returned (.string u) ∧ (chk u.data.toList = true ∧ zof u.data.toList = numV k n t) ∧ Below w.heap.size w w' := by
  have hb : Below w.heap.size w (w.alloc (.cells #[.int .i64 k, .bool b, .int .i64 n, .string t, .string x, s] 26)) := (Below.refl _ _).alloc (Nat.le_refl _) _
  have hof := ofInt_call n (w.alloc (.cells #[.int .i64 k, .bool b, .int .i64 n, .string t, .string x, s] 26)) (hE.below hb) hn.1 hn.2
  have hck := chk_any t (w.alloc (.cells #[.int .i64 k, .bool b, .int .i64 n, .string t, .string x, s] 26)) (hE.below hb)
  have hbk : Blk (w.alloc (.cells #[.int .i64 k, .bool b, .int .i64 n, .string t, .string x, s] 26)) w.heap.size #[.int .i64 k, .bool b, .int .i64 n, .string t, .string x, s] 26 := Blk.new _ _ _
  have h1 : chk (tx (canon (n * E20))).data.toList = true ∧ zof (tx (canon (n * E20))).data.toList = n * E20 := ⟨chk_canon _ (ofInt_small n hn.1 hn.2), zof_canon _ (ofInt_small n hn.1 hn.2)⟩
  have h0 : chk [48, 46, 48] = true ∧ zof [48, 46, 48] = 0 := by
    rw [show ([48, 46, 48] : List UInt8) = canon 0 by kernel_rfl]
    exact ⟨chk_canon 0 (by unfold small top; decide), zof_canon 0 (by unfold small top; decide)⟩
  have h3 : ∀ c, chk t.data.toList = c → (c = true → chk t.data.toList = true ∧ zof t.data.toList = (if chk t.data.toList then zof t.data.toList else 0)) ∧ (c = false → (0 : Int) = (if chk t.data.toList then zof t.data.toList else 0)) := fun c hc => ⟨fun h => by rw [hc, h]; exact ⟨rfl, rfl⟩, fun h => by rw [hc, h]; rfl⟩
  unfold numV
  generalize canon (n * E20) = R at *
  obtain ⟨c, hc⟩ : ∃ c, chk t.data.toList = c := ⟨_, rfl⟩
  have h4 := h3 c hc
  rw [hc] at hck
  replace h0 := Lib.hid h0
  replace h1 := Lib.hid h1
  replace h4 := Lib.hid h4
  clear h3 hc
  replace hof := Lib.hid hof
  replace hck := Lib.hid hck
  unfold agg6
  by_cases h2 : k = 2
  · subst h2
    go_enter Tryz.func31, Tryz.ntmps31
    go_wp2_with fail
    refine hof.out.mono ?_
    rintro e w2 ⟨rfl, hb2⟩
    go_wp2
    go_ret
    exact ⟨_, rfl, h1.out, hb.trans (hb2.mono hb.size)⟩
  · have q2 : (k == 2) = false := by simpa using h2
    rw [if_neg h2]
    clear h2 hof h1
    generalize (if chk t.data.toList = true then zof t.data.toList else 0) = Z at *
    cases c
    · go_enter Tryz.func31, Tryz.ntmps31
      go_wp2_with fail
      refine hck.out.mono ?_
      rintro e w2 ⟨rfl, hb2⟩
      go_wp2
      go_ret
      exact ⟨_, rfl, ⟨h0.out.1, h0.out.2.trans (h4.out.2 (by simp))⟩, hb.trans (hb2.mono hb.size)⟩
    · go_enter Tryz.func31, Tryz.ntmps31
      go_wp2_with fail
      refine hck.out.mono ?_
      rintro e w2 ⟨rfl, hb2⟩
      have c3 : w2.cell? ⟨w.heap.size, 3, none⟩ = some (.string t) := (hbk.keep (Keep.ofBelow hb2) (by simp)).cell 3 rfl
      go_wp2
      go_ret
      exact ⟨_, rfl, h4.out.1 (by simp), hb.trans (hb2.mono hb.size)⟩
set_option maxRecDepth 100000 in
theorem compare_call (k : Int) (b : Bool) (n : Int) (hn : In64 n) (t x : ByteArray) (s : Value) (k2 : Int) (bb : Bool) (n2 : Int) (hn2 : In64 n2) (t2 x2 : ByteArray) (s2 : Value) (w : World) (hE : Env w) :
    Calls Tryz.prog 83 #[agg6 k b n t x s, agg6 k2 bb n2 t2 x2 s2] w fun e w' => e = .returned (.int .i64 (cmpI (numV k n t) (numV k2 n2 t2))) ∧ Below w.heap.size w w' := by
  have h2 := B2.made w (c6 k b n t x s) (c6 k2 bb n2 t2 x2 s2)
  have hex := fun W hE => exact_call k b n hn t x s W hE
  have hex2 := fun W hE => exact_call k2 bb n2 hn2 t2 x2 s2 W hE
  unfold agg6 at hex hex2 ⊢
  unfold c6 at h2
  replace hex := Lib.hid hex
  replace hex2 := Lib.hid hex2
  replace hE := Lib.hid hE
  by_cases hkk : k = 2 ∧ k2 = 2
  · obtain ⟨rfl, rfl⟩ := hkk
    have hcc := Lib.hid (cmp_e20 n n2 t t2)
    clear hex hex2
    generalize cmpI (numV 2 n t) (numV 2 n2 t2) = R at *
    go_enter Tryz.func83, Tryz.ntmps83
    go_wp2_with (go_at_call 110; refine (cmp64_any _ _ _).mono ?_; rintro e w' ⟨rfl, rfl⟩)
    go_ret
    exact ⟨ret_int hcc.out.symm, h2.below⟩
  · obtain ⟨q, hq⟩ : ∃ q : Bool, (k == 2) = q := ⟨_, rfl⟩
    obtain ⟨q2, hq2⟩ : ∃ q : Bool, (k2 == 2) = q := ⟨_, rfl⟩
    have hqq : (q && q2) = false := by
      rw [← hq, ← hq2]
      apply Bool.eq_false_iff.2
      intro h
      rw [Bool.and_eq_true, beq_iff_eq, beq_iff_eq] at h
      exact hkk h
    clear hkk
    generalize numV k n t = Z1 at *
    generalize numV k2 n2 t2 = Z2 at *
    go_enter Tryz.func83, Tryz.ntmps83
    cases q
    · clear hqq
      go_upto_region 3 with fail
      generalize (w.alloc (.cells #[.int .i64 k, .bool b, .int .i64 n, .string t, .string x, s] 26)).alloc (.cells #[.int .i64 k2, .bool bb, .int .i64 n2, .string t2, .string x2, s2] 26) = W at *
      have hd := h2.on (below_drewN (Below.refl _ _) 1)
      have hS0 : B2 w W.drew _ _ := hd
      refine wp_region_held_drew (S := fun V => B2 w V #[.int .i64 k, .bool b, .int .i64 n, .string t, .string x, s] #[.int .i64 k2, .bool bb, .int .i64 n2, .string t2, .string x2, s2]) (by kernel_rfl) hS0 (fun hS => ?_)
      clear hS0 hd h2
      generalize W.drew = V0 at *
      have hV := hS
      refine wpAnyH_take (i := 0) (v := .agg #[.int .i64 k, .bool b, .int .i64 n, .string t, .string x, s]) rfl (by kernel_rfl) (by kernel_rfl) (by kernel_rfl) (fun _ _ _ h => h) (.inl ⟨by kernel_rfl, fun w' hS => by have x0 := hS.b0.cell 0 rfl; have x1 := hS.b0.cell 1 rfl; have x2 := hS.b0.cell 2 rfl; have x3 := hS.b0.cell 3 rfl; have x4 := hS.b0.cell 4 rfl; have x5 := hS.b0.cell 5 rfl; go_simp; try exact ⟨rfl, rfl, rfl⟩⟩) hS ?_; simp only [List.getElem_toArray, List.getElem_cons_succ, List.getElem_cons_zero, Act.put, List.setIfInBounds_toArray, List.set_cons_zero, List.set_cons_succ]
      refine wpAnyH_take (i := 2) (v := .agg #[.int .i64 k2, .bool bb, .int .i64 n2, .string t2, .string x2, s2]) rfl (by kernel_rfl) (by kernel_rfl) (by kernel_rfl) (fun _ _ _ h => h) (.inl ⟨by kernel_rfl, fun w' hS => by have x0 := hS.b1.cell 0 rfl; have x1 := hS.b1.cell 1 rfl; have x2 := hS.b1.cell 2 rfl; have x3 := hS.b1.cell 3 rfl; have x4 := hS.b1.cell 4 rfl; have x5 := hS.b1.cell 5 rfl; go_simp; try exact ⟨rfl, rfl, rfl⟩⟩) hS ?_; simp only [List.getElem_toArray, List.getElem_cons_succ, List.getElem_cons_zero, Act.put, List.setIfInBounds_toArray, List.set_cons_zero, List.set_cons_succ]
      refine wpAnyH_ready (rs := [1]) (by kernel_rfl) (by simp) ?_
      refine AllReadyH.cons rfl (fun K hK => ?_) AllReadyH.nil
      clear hS
      go_simp
      refine (hex.out _ (hE.out.below hV.below)).mono ?_
      rintro e w5 ⟨u5, rfl, hu5, hb5⟩
      go_wp2_with fail
      refine hK.out _ _ (hV.on hb5) (fun hS => ?_)
      clear hK K
      try simp only [List.getElem_toArray, List.getElem_cons_succ, List.getElem_cons_zero, Act.put, List.setIfInBounds_toArray, List.set_cons_zero, List.set_cons_succ]
      replace hu5 := Lib.hid hu5
      have hV5 := hV.on hb5
      refine wpAnyH_ready (rs := [3]) (by kernel_rfl) (by simp) ?_
      refine AllReadyH.cons rfl (fun K hK => ?_) AllReadyH.nil
      clear hS
      go_simp
      refine (hex2.out _ (hE.out.below hV5.below)).mono ?_
      rintro e w6 ⟨u6, rfl, hu6, hb6⟩
      go_wp2_with fail
      refine hK.out _ _ (hV5.on hb6) (fun hS => ?_)
      clear hK K
      try simp only [List.getElem_toArray, List.getElem_cons_succ, List.getElem_cons_zero, Act.put, List.setIfInBounds_toArray, List.set_cons_zero, List.set_cons_succ]
      replace hu6 := Lib.hid hu6
      have hV6 := hV5.on hb6
      refine wpAnyH_ready (rs := [4]) (by kernel_rfl) (by simp) ?_
      refine AllReadyH.cons rfl (fun K hK => ?_) AllReadyH.nil
      clear hS
      go_simp
      refine (cmp_call u5 u6 _ (hE.out.below hV6.below)).mono ?_
      rintro e w7 ⟨rfl, hb7⟩
      go_wp2_with fail
      refine hK.out _ _ (hV6.on hb7) (fun hS => ?_)
      clear hK K
      try simp only [List.getElem_toArray, List.getElem_cons_succ, List.getElem_cons_zero, Act.put, List.setIfInBounds_toArray, List.set_cons_zero, List.set_cons_succ]
      have hV7 := hV6.on hb7
      generalize hr : cmpR u5.data.toList u6.data.toList = r at *
      replace hr := Lib.hid hr
      refine wpAnyH_take (i := 5) (v := .int .i64 r) rfl (by kernel_rfl) (by kernel_rfl) (by kernel_rfl) (fun _ _ _ h => h) (.inl ⟨by kernel_rfl, fun _ _ => by kernel_rfl⟩) hS ?_; simp only [List.getElem_toArray, List.getElem_cons_succ, List.getElem_cons_zero, Act.put, List.setIfInBounds_toArray, List.set_cons_zero, List.set_cons_succ]
      refine wpAnyH_done (by kernel_rfl) ?_ _
      go_wp2_with fail
      go_ret
      exact ⟨ret_int (by rw [← hr.out]; unfold cmpR; rw [hu5.out.1, hu6.out.1, hu5.out.2, hu6.out.2]; rfl), hV7.below⟩
    · obtain rfl : q2 = false := by simpa using hqq
      go_upto_region 3 with fail
      generalize (w.alloc (.cells #[.int .i64 k, .bool b, .int .i64 n, .string t, .string x, s] 26)).alloc (.cells #[.int .i64 k2, .bool bb, .int .i64 n2, .string t2, .string x2, s2] 26) = W at *
      have hd := h2.on (below_drewN (Below.refl _ _) 1)
      have hS0 : B2 w W.drew _ _ := hd
      refine wp_region_held_drew (S := fun V => B2 w V #[.int .i64 k, .bool b, .int .i64 n, .string t, .string x, s] #[.int .i64 k2, .bool bb, .int .i64 n2, .string t2, .string x2, s2]) (by kernel_rfl) hS0 (fun hS => ?_)
      clear hS0 hd h2
      generalize W.drew = V0 at *
      have hV := hS
      refine wpAnyH_take (i := 0) (v := .agg #[.int .i64 k, .bool b, .int .i64 n, .string t, .string x, s]) rfl (by kernel_rfl) (by kernel_rfl) (by kernel_rfl) (fun _ _ _ h => h) (.inl ⟨by kernel_rfl, fun w' hS => by have x0 := hS.b0.cell 0 rfl; have x1 := hS.b0.cell 1 rfl; have x2 := hS.b0.cell 2 rfl; have x3 := hS.b0.cell 3 rfl; have x4 := hS.b0.cell 4 rfl; have x5 := hS.b0.cell 5 rfl; go_simp; try exact ⟨rfl, rfl, rfl⟩⟩) hS ?_; simp only [List.getElem_toArray, List.getElem_cons_succ, List.getElem_cons_zero, Act.put, List.setIfInBounds_toArray, List.set_cons_zero, List.set_cons_succ]
      refine wpAnyH_take (i := 2) (v := .agg #[.int .i64 k2, .bool bb, .int .i64 n2, .string t2, .string x2, s2]) rfl (by kernel_rfl) (by kernel_rfl) (by kernel_rfl) (fun _ _ _ h => h) (.inl ⟨by kernel_rfl, fun w' hS => by have x0 := hS.b1.cell 0 rfl; have x1 := hS.b1.cell 1 rfl; have x2 := hS.b1.cell 2 rfl; have x3 := hS.b1.cell 3 rfl; have x4 := hS.b1.cell 4 rfl; have x5 := hS.b1.cell 5 rfl; go_simp; try exact ⟨rfl, rfl, rfl⟩⟩) hS ?_; simp only [List.getElem_toArray, List.getElem_cons_succ, List.getElem_cons_zero, Act.put, List.setIfInBounds_toArray, List.set_cons_zero, List.set_cons_succ]
      refine wpAnyH_ready (rs := [1]) (by kernel_rfl) (by simp) ?_
      refine AllReadyH.cons rfl (fun K hK => ?_) AllReadyH.nil
      clear hS
      go_simp
      refine (hex.out _ (hE.out.below hV.below)).mono ?_
      rintro e w5 ⟨u5, rfl, hu5, hb5⟩
      go_wp2_with fail
      refine hK.out _ _ (hV.on hb5) (fun hS => ?_)
      clear hK K
      try simp only [List.getElem_toArray, List.getElem_cons_succ, List.getElem_cons_zero, Act.put, List.setIfInBounds_toArray, List.set_cons_zero, List.set_cons_succ]
      replace hu5 := Lib.hid hu5
      have hV5 := hV.on hb5
      refine wpAnyH_ready (rs := [3]) (by kernel_rfl) (by simp) ?_
      refine AllReadyH.cons rfl (fun K hK => ?_) AllReadyH.nil
      clear hS
      go_simp
      refine (hex2.out _ (hE.out.below hV5.below)).mono ?_
      rintro e w6 ⟨u6, rfl, hu6, hb6⟩
      go_wp2_with fail
      refine hK.out _ _ (hV5.on hb6) (fun hS => ?_)
      clear hK K
      try simp only [List.getElem_toArray, List.getElem_cons_succ, List.getElem_cons_zero, Act.put, List.setIfInBounds_toArray, List.set_cons_zero, List.set_cons_succ]
      replace hu6 := Lib.hid hu6
      have hV6 := hV5.on hb6
      refine wpAnyH_ready (rs := [4]) (by kernel_rfl) (by simp) ?_
      refine AllReadyH.cons rfl (fun K hK => ?_) AllReadyH.nil
      clear hS
      go_simp
      refine (cmp_call u5 u6 _ (hE.out.below hV6.below)).mono ?_
      rintro e w7 ⟨rfl, hb7⟩
      go_wp2_with fail
      refine hK.out _ _ (hV6.on hb7) (fun hS => ?_)
      clear hK K
      try simp only [List.getElem_toArray, List.getElem_cons_succ, List.getElem_cons_zero, Act.put, List.setIfInBounds_toArray, List.set_cons_zero, List.set_cons_succ]
      have hV7 := hV6.on hb7
      generalize hr : cmpR u5.data.toList u6.data.toList = r at *
      replace hr := Lib.hid hr
      refine wpAnyH_take (i := 5) (v := .int .i64 r) rfl (by kernel_rfl) (by kernel_rfl) (by kernel_rfl) (fun _ _ _ h => h) (.inl ⟨by kernel_rfl, fun _ _ => by kernel_rfl⟩) hS ?_; simp only [List.getElem_toArray, List.getElem_cons_succ, List.getElem_cons_zero, Act.put, List.setIfInBounds_toArray, List.set_cons_zero, List.set_cons_succ]
      refine wpAnyH_done (by kernel_rfl) ?_ _
      go_wp2_with fail
      go_ret
      exact ⟨ret_int (by rw [← hr.out]; unfold cmpR; rw [hu5.out.1, hu6.out.1, hu5.out.2, hu6.out.2]; rfl), hV7.below⟩
end Go.Proofs.YtjncjcellpbhcaaGreatDoor.val
