/- Contract of Order. -/
import Derived.Test.YthecgifgjagmaaaGreatDoorVOrder
namespace Go.Proofs.YthecgifgjagmaaaGreatDoor.val
open Go.ChangeShapes Go.WideShapes Go.ChangeAt Go.RowKit kit dec
set_option linter.unusedVariables false
set_option linter.unusedSimpArgs false
theorem below_drew (w : World) : Below w.heap.size w w.drew := below_drewN (Below.refl _ _) 1
/-- Three boxes: the language, two values. -/
structure B3 (w W : World) (lang : Int) (c d : Array Value) : Prop where
  below : Below w.heap.size w W
  b0 : Blk W w.heap.size #[.int .i64 lang] 3
  b1 : Blk W (w.heap.size + 1) c 26
  b2 : Blk W (w.heap.size + 1 + 1) d 26
theorem B3.made (w : World) (lang : Int) (c d : Array Value) : B3 w (((w.alloc (.cells #[.int .i64 lang] 3)).alloc (.cells c 26)).alloc (.cells d 26)) lang c d := by
  refine ⟨((((Keep.refl [] w).alloc _).alloc _).alloc _).below, ((Blk.new _ _ _).alloc _).alloc _, ?_, ?_⟩
  · have := (Blk.new (w.alloc (.cells #[.int .i64 lang] 3)) c 26).alloc (.cells d 26)
    rwa [World.size_alloc] at this
  · have := Blk.new ((w.alloc (.cells #[.int .i64 lang] 3)).alloc (.cells c 26)) d 26
    rwa [World.size_alloc, World.size_alloc] at this
theorem B3.on {w W W' : World} {lang : Int} {c d : Array Value} (h : B3 w W lang c d) (hb : Below W.heap.size W W') : B3 w W' lang c d := ⟨h.below.trans (hb.mono h.below.size), h.b0.keep (Keep.ofBelow hb) (by simp), h.b1.keep (Keep.ofBelow hb) (by simp), h.b2.keep (Keep.ofBelow hb) (by simp)⟩
theorem B3.cells {w W : World} {lang : Int} {c0 c1 c2 c3 c4 c5 d0 d1 d2 d3 d4 d5 : Value} (h : B3 w W lang #[c0, c1, c2, c3, c4, c5] #[d0, d1, d2, d3, d4, d5]) :
    W.cell? ⟨w.heap.size, 0, none⟩ = some (.int .i64 lang) ∧ W.cell? ⟨w.heap.size + 1, 0, none⟩ = some c0 ∧ W.cell? ⟨w.heap.size + 1, 1, none⟩ = some c1 ∧ W.cell? ⟨w.heap.size + 1, 2, none⟩ = some c2 ∧ W.cell? ⟨w.heap.size + 1, 3, none⟩ = some c3 ∧ W.cell? ⟨w.heap.size + 1, 4, none⟩ = some c4 ∧ W.cell? ⟨w.heap.size + 1, 5, none⟩ = some c5 ∧
    W.cell? ⟨w.heap.size + 1 + 1, 0, none⟩ = some d0 ∧ W.cell? ⟨w.heap.size + 1 + 1, 1, none⟩ = some d1 ∧ W.cell? ⟨w.heap.size + 1 + 1, 2, none⟩ = some d2 ∧ W.cell? ⟨w.heap.size + 1 + 1, 3, none⟩ = some d3 ∧ W.cell? ⟨w.heap.size + 1 + 1, 4, none⟩ = some d4 ∧ W.cell? ⟨w.heap.size + 1 + 1, 5, none⟩ = some d5 :=
  ⟨h.b0.cell 0 rfl, h.b1.cell 0 rfl, h.b1.cell 1 rfl, h.b1.cell 2 rfl, h.b1.cell 3 rfl, h.b1.cell 4 rfl, h.b1.cell 5 rfl, h.b2.cell 0 rfl, h.b2.cell 1 rfl, h.b2.cell 2 rfl, h.b2.cell 3 rfl, h.b2.cell 4 rfl, h.b2.cell 5 rfl⟩
set_option maxRecDepth 100000 in
set_option maxHeartbeats 4000000 in
theorem order_all (N : Nat) (hN : N ≤ 9223372036854775807) (lang : Int) : ∀ m, OrdX N m lang := by
  intro m
  induction m with
  | zero => intro w hE k b n hn t x s l k2 bb n2 hn2 t2 x2 s2 l2 hm; omega
  | succ m ih =>
    intro w hE k b n hn t x s l k2 bb n2 hn2 t2 x2 s2 l2 hm ha ha2
    have h3 := B3.made w lang #[.int .i64 k, .bool b, .int .i64 n, .string t, .string x, s] #[.int .i64 k2, .bool bb, .int .i64 n2, .string t2, .string x2, s2]
    have hcmp : ∀ W, Below w.heap.size w W → Calls Tryz.prog 53 #[agg6 k b n t x s, agg6 k2 bb n2 t2 x2 s2] W fun e w' => e = .returned (.int .i64 (cmpI (numV k n t) (numV k2 n2 t2))) ∧ Below W.heap.size W w' := fun W hb => compare_call k b n hn t x s k2 bb n2 hn2 t2 x2 s2 W (hE.below hb)
    have hcf : ∀ W, Below w.heap.size w W → W.cell? ⟨w.heap.size, 0, none⟩ = some (.int .i64 lang) → Calls Tryz.prog 61 #[s, s2, .func (.func 62) #[] #[.pointer (some ⟨w.heap.size, 0, none⟩)]] W fun e w' => e = .returned (.int .i64 (ordL (decide (lang = 1)) l l2)) ∧ Below W.heap.size W w' :=
      fun W hb hc => compareFunc_call N m hN lang ih W (hE.below hb) w.heap.size hc s s2 l l2 (by omega) (ha.stay hb) (ha2.stay hb)
    have hr1 := fun W => rank_any lang k b n t x s W
    have hr2 := fun W => rank_any lang k2 bb n2 t2 x2 s2 W
    have hord := ordV_mk (decide (lang = 1)) k b n t x l k2 bb n2 t2 x2 l2
    obtain ⟨ao, cap, rfl⟩ := LA.form6 ha
    obtain ⟨ao2, cap2, rfl⟩ := LA.form6 ha2
    rw [hord]
    clear ha ha2 hE ih hord
    have hcl := fun (h : rankV (decide (lang = 1)) k = rankV (decide (lang = 1)) k2) => cls h
    generalize rankV (decide (lang = 1)) k = r1 at *
    generalize rankV (decide (lang = 1)) k2 = r2 at *
    generalize ordL (decide (lang = 1)) l l2 = oL at *
    have hRn : r1 ≠ r2 → cmpI r1 r2 = orI (cmpI r1 r2) (restV k n b t x oL k2 n2 bb t2 x2) := fun e => by unfold orI; rw [if_neg (fun h => e ((cmpI_zero _ _).1 h))]
    have hRe : r1 = r2 → restV k n b t x oL k2 n2 bb t2 x2 = orI (cmpI r1 r2) (restV k n b t x oL k2 n2 bb t2 x2) := fun e => by rw [e, cmpI_self]; rfl
    generalize orI (cmpI r1 r2) (restV k n b t x oL k2 n2 bb t2 x2) = R at *
    replace hRn := Lib.hid hRn
    replace hRe := Lib.hid hRe
    unfold agg6 at hcmp hr1 hr2 ⊢
    replace hcmp := Lib.hid hcmp
    replace hcf := Lib.hid hcf
    replace hcl := Lib.hid hcl
    replace hr1 := Lib.hid hr1
    replace hr2 := Lib.hid hr2
    go_enter Tryz.func28, Tryz.ntmps28
    go_upto_region 1 with fail
    generalize hs1 : Value.slice ao l.length cap = s at *
    generalize hs2 : Value.slice ao2 l2.length cap2 = s2 at *
    replace hs1 := Lib.hid hs1
    replace hs2 := Lib.hid hs2
    have hd := h3.on (below_drew _)
    generalize ((w.alloc (.cells #[.int .i64 lang] 3)).alloc (.cells #[.int .i64 k, .bool b, .int .i64 n, .string t, .string x, s] 26)).alloc (.cells #[.int .i64 k2, .bool bb, .int .i64 n2, .string t2, .string x2, s2] 26) = W1 at *
    refine wp_region_held_drew (S := fun V => B3 w V lang #[.int .i64 k, .bool b, .int .i64 n, .string t, .string x, s] #[.int .i64 k2, .bool bb, .int .i64 n2, .string t2, .string x2, s2]) (by kernel_rfl) hd (fun hS => ?_)
    have hV := hd
    clear hd h3
    generalize W1.drew = V0 at *
    refine wpAnyH_take (i := 0) (v := ?_) rfl (by kernel_rfl) (by kernel_rfl) (by kernel_rfl) (fun _ _ _ h => h) (.inl ⟨by kernel_rfl, fun w' hS => ?_⟩) hS ?_
    rotate_left
    ·
      have l0 := hS.b0.cell 0 rfl
      go_simp
      try with_reducible rfl
    simp only [List.getElem_toArray, List.getElem_cons_succ, List.getElem_cons_zero, Act.put, List.setIfInBounds_toArray, List.set_cons_zero, List.set_cons_succ]
    refine wpAnyH_take (i := 1) (v := ?_) rfl (by kernel_rfl) (by kernel_rfl) (by kernel_rfl) (fun _ _ _ h => h) (.inl ⟨by kernel_rfl, fun w' hS => ?_⟩) hS ?_
    rotate_left
    ·
      have x0 := hS.b1.cell 0 rfl
      have x1 := hS.b1.cell 1 rfl
      have x2c := hS.b1.cell 2 rfl
      have x3 := hS.b1.cell 3 rfl
      have x4 := hS.b1.cell 4 rfl
      have x5 := hS.b1.cell 5 rfl
      go_simp
      try with_reducible rfl
    simp only [List.getElem_toArray, List.getElem_cons_succ, List.getElem_cons_zero, Act.put, List.setIfInBounds_toArray, List.set_cons_zero, List.set_cons_succ]
    refine wpAnyH_take (i := 3) (v := ?_) rfl (by kernel_rfl) (by kernel_rfl) (by kernel_rfl) (fun _ _ _ h => h) (.inl ⟨by kernel_rfl, fun w' hS => ?_⟩) hS ?_
    rotate_left
    ·
      have l0 := hS.b0.cell 0 rfl
      go_simp
      try with_reducible rfl
    simp only [List.getElem_toArray, List.getElem_cons_succ, List.getElem_cons_zero, Act.put, List.setIfInBounds_toArray, List.set_cons_zero, List.set_cons_succ]
    refine wpAnyH_take (i := 4) (v := ?_) rfl (by kernel_rfl) (by kernel_rfl) (by kernel_rfl) (fun _ _ _ h => h) (.inl ⟨by kernel_rfl, fun w' hS => ?_⟩) hS ?_
    rotate_left
    ·
      have y0 := hS.b2.cell 0 rfl
      have y1 := hS.b2.cell 1 rfl
      have y2 := hS.b2.cell 2 rfl
      have y3 := hS.b2.cell 3 rfl
      have y4 := hS.b2.cell 4 rfl
      have y5 := hS.b2.cell 5 rfl
      go_simp
      try with_reducible rfl
    simp only [List.getElem_toArray, List.getElem_cons_succ, List.getElem_cons_zero, Act.put, List.setIfInBounds_toArray, List.set_cons_zero, List.set_cons_succ]
    refine wpAnyH_ready (rs := [2]) (by kernel_rfl) (by simp) ?_
    refine AllReadyH.cons rfl (fun K hK => ?_) AllReadyH.nil
    clear hS
    go_simp
    refine (hr1.out _).mono ?_
    rintro e w5 ⟨rfl, hb5⟩
    go_wp2_with fail
    refine hK.out _ _ (hV.on hb5) (fun hS => ?_)
    clear hK K
    try simp only [List.getElem_toArray, List.getElem_cons_succ, List.getElem_cons_zero, Act.put, List.setIfInBounds_toArray, List.set_cons_zero, List.set_cons_succ]
    have hV5 := hV.on hb5
    refine wpAnyH_ready (rs := [5]) (by kernel_rfl) (by simp) ?_
    refine AllReadyH.cons rfl (fun K hK => ?_) AllReadyH.nil
    clear hS
    go_simp
    refine (hr2.out _).mono ?_
    rintro e w6 ⟨rfl, hb6⟩
    go_wp2_with fail
    refine hK.out _ _ (hV5.on hb6) (fun hS => ?_)
    clear hK K
    try simp only [List.getElem_toArray, List.getElem_cons_succ, List.getElem_cons_zero, Act.put, List.setIfInBounds_toArray, List.set_cons_zero, List.set_cons_succ]
    have hV6 := hV5.on hb6
    refine wpAnyH_ready (rs := [6]) (by kernel_rfl) (by simp) ?_
    refine AllReadyH.cons rfl (fun K hK => ?_) AllReadyH.nil
    clear hS
    go_simp
    refine (cmpInt_any _ _ _).mono ?_
    rintro e w' ⟨rfl, hw'⟩
    rw [hw']
    clear hw'
    go_wp2_with fail
    refine hK.out _ _ hV6 (fun hS => ?_)
    clear hK K
    try simp only [List.getElem_toArray, List.getElem_cons_succ, List.getElem_cons_zero, Act.put, List.setIfInBounds_toArray, List.set_cons_zero, List.set_cons_succ]
    refine wpAnyH_take (i := 7) (v := ?_) rfl (by kernel_rfl) (by kernel_rfl) (by kernel_rfl) (fun _ _ _ h => h) (.inl ⟨by kernel_rfl, fun w' hS => ?_⟩) hS ?_
    rotate_left
    ·
      skip
      go_simp
      try with_reducible rfl
    simp only [List.getElem_toArray, List.getElem_cons_succ, List.getElem_cons_zero, Act.put, List.setIfInBounds_toArray, List.set_cons_zero, List.set_cons_succ]
    refine wpAnyH_done (by kernel_rfl) ?_ _
    clear hS hb5 hb6 hV hV5 hr1 hr2
    by_cases hrr : r1 = r2
    case neg =>
      have hcb : (cmpI r1 r2 != 0) = true := bne_iff_ne.2 fun e => hrr ((cmpI_zero _ _).1 e)
      have hR := Lib.hid (hRn.out hrr)
      have hbe := Lib.hid hV6.below
      generalize cmpI r1 r2 = c at *
      clear hV6 hcl hRn hRe
      go_wp2
      go_ret
      exact ⟨ret_int hR.out, hbe.out⟩
    have hcc := Lib.hid (hcl.out hrr)
    have hR := Lib.hid (hRe.out hrr)
    have hcb : (cmpI r1 r2 != 0) = false := by rw [hrr, cmpI_self]; rfl
    generalize cmpI r1 r2 = c0 at *
    clear hcl hRn hRe hrr
    have cv := hV6
    clear hV6
    obtain ⟨l0, x0, x1, x2c, x3, x4, x5, y0, y1, y2, y3, y4, y5⟩ := cv.cells
    rcases kinds k with rfl | rfl | rfl | rfl | rfl | rfl | rfl | rfl | rfl | rfl | rfl | ⟨h0, h1, h2, h3, h4, h5, h6, h7, h8, h9, h10⟩
    · have hR2 : orI (cmpT t t2) (cmpT x x2) = R := by rw [← hR.out]; simp [restV, isNum]
      replace hR2 := Lib.hid hR2
      clear hR hcc
      -- the call of part, and what it tells
      have hpt := Lib.hid (fun W => part_any (0) b n t x s W)
      unfold partV agg6 at hpt
      simp only [if_true, Int.reduceEq, reduceCtorEq, if_false, or_true, true_or, or_false, or_self] at hpt
      go_wp2_with fail
      refine (hpt.out _).mono ?_
      rintro e w3 ⟨rfl, hb3⟩
      clear hpt x0 x1 x2c x3 x4 x5 y0 y1 y2 y3 y4 y5 l0
      have c3 := cv.on hb3
      clear hb3 cv
      obtain ⟨l0, x0, x1, x2c, x3, x4, x5, y0, y1, y2, y3, y4, y5⟩ := c3.cells
      replace c3 := Lib.hid c3
      have tb0 := tb_0_0
      have tb1 := tb_0_1
      have tb2 := tb_0_2
      have tb3 := tb_0_3
      have tb4 := tb_0_4
      have tb5 := tb_0_5
      have tb6 := tb_0_6
      have tb7 := tb_0_7
      have tb8 := tb_0_8
      go_upto_region 22 with fail
      clear tb0 tb1 tb2 tb3 tb4 tb5 tb6 tb7 tb8
      clear x0 x1 x2c x3 x4 x5 y0 y1 y2 y3 y4 y5 l0
      have c4 := c3.out.on (below_drew _)
      clear c3
      refine wp_region_held_drew (S := fun V => B3 w V lang #[.int .i64 0, .bool b, .int .i64 n, .string t, .string x, s] #[.int .i64 k2, .bool bb, .int .i64 n2, .string t2, .string x2, s2]) (by kernel_rfl) c4 (fun hS => ?_)
      have hV := c4
      clear c4
      generalize w3.drew = V1 at *
      refine wpAnyH_take (i := 0) (v := ?_) rfl (by kernel_rfl) (by kernel_rfl) (by kernel_rfl) (fun _ _ _ h => h) (.inl ⟨by kernel_rfl, fun w' hS => ?_⟩) hS ?_
      rotate_left
      ·
        obtain ⟨l0, x0, x1, x2c, x3, x4, x5, y0, y1, y2, y3, y4, y5⟩ := hS.cells
        go_simp
        try with_reducible rfl
      simp only [List.getElem_toArray, List.getElem_cons_succ, List.getElem_cons_zero, Act.put, List.setIfInBounds_toArray, List.set_cons_zero, List.set_cons_succ]
      refine wpAnyH_take (i := 1) (v := ?_) rfl (by kernel_rfl) (by kernel_rfl) (by kernel_rfl) (fun _ _ _ h => h) (.inl ⟨by kernel_rfl, fun w' hS => ?_⟩) hS ?_
      rotate_left
      ·
        obtain ⟨l0, x0, x1, x2c, x3, x4, x5, y0, y1, y2, y3, y4, y5⟩ := hS.cells
        go_simp
        try with_reducible rfl
      simp only [List.getElem_toArray, List.getElem_cons_succ, List.getElem_cons_zero, Act.put, List.setIfInBounds_toArray, List.set_cons_zero, List.set_cons_succ]
      refine wpAnyH_take (i := 2) (v := ?_) rfl (by kernel_rfl) (by kernel_rfl) (by kernel_rfl) (fun _ _ _ h => h) (.inl ⟨by kernel_rfl, fun w' hS => ?_⟩) hS ?_
      rotate_left
      ·
        obtain ⟨l0, x0, x1, x2c, x3, x4, x5, y0, y1, y2, y3, y4, y5⟩ := hS.cells
        go_simp
        try with_reducible rfl
      simp only [List.getElem_toArray, List.getElem_cons_succ, List.getElem_cons_zero, Act.put, List.setIfInBounds_toArray, List.set_cons_zero, List.set_cons_succ]
      refine wpAnyH_take (i := 3) (v := ?_) rfl (by kernel_rfl) (by kernel_rfl) (by kernel_rfl) (fun _ _ _ h => h) (.inl ⟨by kernel_rfl, fun w' hS => ?_⟩) hS ?_
      rotate_left
      ·
        obtain ⟨l0, x0, x1, x2c, x3, x4, x5, y0, y1, y2, y3, y4, y5⟩ := hS.cells
        go_simp
        try with_reducible rfl
      simp only [List.getElem_toArray, List.getElem_cons_succ, List.getElem_cons_zero, Act.put, List.setIfInBounds_toArray, List.set_cons_zero, List.set_cons_succ]
      refine wpAnyH_take (i := 5) (v := ?_) rfl (by kernel_rfl) (by kernel_rfl) (by kernel_rfl) (fun _ _ _ h => h) (.inl ⟨by kernel_rfl, fun w' hS => ?_⟩) hS ?_
      rotate_left
      ·
        obtain ⟨l0, x0, x1, x2c, x3, x4, x5, y0, y1, y2, y3, y4, y5⟩ := hS.cells
        go_simp
        try with_reducible rfl
      simp only [List.getElem_toArray, List.getElem_cons_succ, List.getElem_cons_zero, Act.put, List.setIfInBounds_toArray, List.set_cons_zero, List.set_cons_succ]
      refine wpAnyH_take (i := 6) (v := ?_) rfl (by kernel_rfl) (by kernel_rfl) (by kernel_rfl) (fun _ _ _ h => h) (.inl ⟨by kernel_rfl, fun w' hS => ?_⟩) hS ?_
      rotate_left
      ·
        obtain ⟨l0, x0, x1, x2c, x3, x4, x5, y0, y1, y2, y3, y4, y5⟩ := hS.cells
        go_simp
        try with_reducible rfl
      simp only [List.getElem_toArray, List.getElem_cons_succ, List.getElem_cons_zero, Act.put, List.setIfInBounds_toArray, List.set_cons_zero, List.set_cons_succ]
      refine wpAnyH_take (i := 7) (v := ?_) rfl (by kernel_rfl) (by kernel_rfl) (by kernel_rfl) (fun _ _ _ h => h) (.inl ⟨by kernel_rfl, fun w' hS => ?_⟩) hS ?_
      rotate_left
      ·
        obtain ⟨l0, x0, x1, x2c, x3, x4, x5, y0, y1, y2, y3, y4, y5⟩ := hS.cells
        go_simp
        try with_reducible rfl
      simp only [List.getElem_toArray, List.getElem_cons_succ, List.getElem_cons_zero, Act.put, List.setIfInBounds_toArray, List.set_cons_zero, List.set_cons_succ]
      refine wpAnyH_take (i := 8) (v := ?_) rfl (by kernel_rfl) (by kernel_rfl) (by kernel_rfl) (fun _ _ _ h => h) (.inl ⟨by kernel_rfl, fun w' hS => ?_⟩) hS ?_
      rotate_left
      ·
        obtain ⟨l0, x0, x1, x2c, x3, x4, x5, y0, y1, y2, y3, y4, y5⟩ := hS.cells
        go_simp
        try with_reducible rfl
      simp only [List.getElem_toArray, List.getElem_cons_succ, List.getElem_cons_zero, Act.put, List.setIfInBounds_toArray, List.set_cons_zero, List.set_cons_succ]
      refine wpAnyH_ready (rs := [4]) (by kernel_rfl) (by simp) ?_
      refine AllReadyH.cons rfl (fun K hK => ?_) AllReadyH.nil
      clear hS
      go_simp
      refine (cmpStr_any _ _ _).mono ?_
      rintro e w' ⟨rfl, hw'⟩
      rw [hw']
      clear hw'
      go_wp2_with fail
      refine hK.out _ _ (hV) (fun hS => ?_)
      clear hK K
      try simp only [List.getElem_toArray, List.getElem_cons_succ, List.getElem_cons_zero, Act.put, List.setIfInBounds_toArray, List.set_cons_zero, List.set_cons_succ]
      refine wpAnyH_ready (rs := [9]) (by kernel_rfl) (by simp) ?_
      refine AllReadyH.cons rfl (fun K hK => ?_) AllReadyH.nil
      clear hS
      go_simp
      refine (cmpStr_any _ _ _).mono ?_
      rintro e w' ⟨rfl, hw'⟩
      rw [hw']
      clear hw'
      go_wp2_with fail
      refine hK.out _ _ (hV) (fun hS => ?_)
      clear hK K
      try simp only [List.getElem_toArray, List.getElem_cons_succ, List.getElem_cons_zero, Act.put, List.setIfInBounds_toArray, List.set_cons_zero, List.set_cons_succ]
      refine wpAnyH_ready (rs := [10]) (by kernel_rfl) (by simp) ?_
      refine AllReadyH.cons rfl (fun K hK => ?_) AllReadyH.nil
      clear hS
      go_simp
      go_wp2_with fail
      have hal := hV.on ((Below.refl _ _).alloc (Nat.le_refl _) _ : Below V1.heap.size V1 (V1.alloc (.cells #[.int .i64 (cmpT t t2), .int .i64 (cmpT x x2)] 3)))
      have hq : Blk (V1.alloc (.cells #[.int .i64 (cmpT t t2), .int .i64 (cmpT x x2)] 3)) V1.heap.size #[.int .i64 (cmpT t t2), .int .i64 (cmpT x x2)] 3 := Blk.new _ _ _
      refine hK.out _ _ hal (fun hS => ?_)
      clear hK K hV
      try simp only [List.getElem_toArray, List.getElem_cons_succ, List.getElem_cons_zero, Act.put, List.setIfInBounds_toArray, List.set_cons_zero, List.set_cons_succ]
      have hor := or_any V1.heap.size _ _ _ (hq.cell 0 rfl) (hq.cell 1 rfl)
      generalize V1.alloc (.cells #[.int .i64 (cmpT t t2), .int .i64 (cmpT x x2)] 3) = V2 at *
      clear hq
      replace hor := Lib.hid hor
      refine wpAnyH_ready (rs := [11]) (by kernel_rfl) (by simp) ?_
      refine AllReadyH.cons rfl (fun K hK => ?_) AllReadyH.nil
      clear hS
      go_simp
      refine (hor.out).mono ?_
      rintro e w' ⟨rfl, hw'⟩
      rw [hw']
      clear hw'
      go_wp2_with fail
      refine hK.out _ _ (hal) (fun hS => ?_)
      clear hK K
      try simp only [List.getElem_toArray, List.getElem_cons_succ, List.getElem_cons_zero, Act.put, List.setIfInBounds_toArray, List.set_cons_zero, List.set_cons_succ]
      refine wpAnyH_take (i := 12) (v := ?_) rfl (by kernel_rfl) (by kernel_rfl) (by kernel_rfl) (fun _ _ _ h => h) (.inl ⟨by kernel_rfl, fun w' hS => ?_⟩) hS ?_
      rotate_left
      ·
        skip
        go_simp
        try with_reducible rfl
      simp only [List.getElem_toArray, List.getElem_cons_succ, List.getElem_cons_zero, Act.put, List.setIfInBounds_toArray, List.set_cons_zero, List.set_cons_succ]
      refine wpAnyH_done (by kernel_rfl) ?_ _
      clear hS hor
      have hbe := Lib.hid hal.below
      clear hal
      go_wp2
      go_ret
      exact ⟨ret_int hR2.out, hbe.out⟩
    · have hR2 : cmpI (b2i b) (b2i bb) = R := by rw [← hR.out]; simp [restV, isNum]
      replace hR2 := Lib.hid hR2
      clear hR hcc
      have htr : ∀ (c : Bool) (W : World), Calls Tryz.prog 52 #[.bool c] W fun e w' => e = .returned (.int .i64 (b2i c)) ∧ w' = W := fun c W => truth_any c W
      replace htr := Lib.hid htr
      -- the call of part, and what it tells
      have hpt := Lib.hid (fun W => part_any (1) b n t x s W)
      unfold partV agg6 at hpt
      simp only [if_true, Int.reduceEq, reduceCtorEq, if_false, or_true, true_or, or_false, or_self] at hpt
      go_wp2_with fail
      refine (hpt.out _).mono ?_
      rintro e w3 ⟨rfl, hb3⟩
      clear hpt x0 x1 x2c x3 x4 x5 y0 y1 y2 y3 y4 y5 l0
      have c3 := cv.on hb3
      clear hb3 cv
      obtain ⟨l0, x0, x1, x2c, x3, x4, x5, y0, y1, y2, y3, y4, y5⟩ := c3.cells
      replace c3 := Lib.hid c3
      have tb0 := tb_1_0
      have tb1 := tb_1_1
      have tb2 := tb_1_2
      have tb3 := tb_1_3
      have tb4 := tb_1_4
      have tb5 := tb_1_5
      have tb6 := tb_1_6
      have tb7 := tb_1_7
      have tb8 := tb_1_8
      go_upto_region 21 with fail
      clear tb0 tb1 tb2 tb3 tb4 tb5 tb6 tb7 tb8
      clear x0 x1 x2c x3 x4 x5 y0 y1 y2 y3 y4 y5 l0
      have c4 := c3.out.on (below_drew _)
      clear c3
      refine wp_region_held_drew (S := fun V => B3 w V lang #[.int .i64 1, .bool b, .int .i64 n, .string t, .string x, s] #[.int .i64 k2, .bool bb, .int .i64 n2, .string t2, .string x2, s2]) (by kernel_rfl) c4 (fun hS => ?_)
      have hV := c4
      clear c4
      generalize w3.drew = V1 at *
      refine wpAnyH_take (i := 0) (v := ?_) rfl (by kernel_rfl) (by kernel_rfl) (by kernel_rfl) (fun _ _ _ h => h) (.inl ⟨by kernel_rfl, fun w' hS => ?_⟩) hS ?_
      rotate_left
      ·
        obtain ⟨l0, x0, x1, x2c, x3, x4, x5, y0, y1, y2, y3, y4, y5⟩ := hS.cells
        go_simp
        try with_reducible rfl
      simp only [List.getElem_toArray, List.getElem_cons_succ, List.getElem_cons_zero, Act.put, List.setIfInBounds_toArray, List.set_cons_zero, List.set_cons_succ]
      refine wpAnyH_take (i := 1) (v := ?_) rfl (by kernel_rfl) (by kernel_rfl) (by kernel_rfl) (fun _ _ _ h => h) (.inl ⟨by kernel_rfl, fun w' hS => ?_⟩) hS ?_
      rotate_left
      ·
        obtain ⟨l0, x0, x1, x2c, x3, x4, x5, y0, y1, y2, y3, y4, y5⟩ := hS.cells
        go_simp
        try with_reducible rfl
      simp only [List.getElem_toArray, List.getElem_cons_succ, List.getElem_cons_zero, Act.put, List.setIfInBounds_toArray, List.set_cons_zero, List.set_cons_succ]
      refine wpAnyH_take (i := 3) (v := ?_) rfl (by kernel_rfl) (by kernel_rfl) (by kernel_rfl) (fun _ _ _ h => h) (.inl ⟨by kernel_rfl, fun w' hS => ?_⟩) hS ?_
      rotate_left
      ·
        obtain ⟨l0, x0, x1, x2c, x3, x4, x5, y0, y1, y2, y3, y4, y5⟩ := hS.cells
        go_simp
        try with_reducible rfl
      simp only [List.getElem_toArray, List.getElem_cons_succ, List.getElem_cons_zero, Act.put, List.setIfInBounds_toArray, List.set_cons_zero, List.set_cons_succ]
      refine wpAnyH_take (i := 4) (v := ?_) rfl (by kernel_rfl) (by kernel_rfl) (by kernel_rfl) (fun _ _ _ h => h) (.inl ⟨by kernel_rfl, fun w' hS => ?_⟩) hS ?_
      rotate_left
      ·
        obtain ⟨l0, x0, x1, x2c, x3, x4, x5, y0, y1, y2, y3, y4, y5⟩ := hS.cells
        go_simp
        try with_reducible rfl
      simp only [List.getElem_toArray, List.getElem_cons_succ, List.getElem_cons_zero, Act.put, List.setIfInBounds_toArray, List.set_cons_zero, List.set_cons_succ]
      refine wpAnyH_ready (rs := [2]) (by kernel_rfl) (by simp) ?_
      refine AllReadyH.cons rfl (fun K hK => ?_) AllReadyH.nil
      clear hS
      go_simp
      refine (htr.out _ _).mono ?_
      rintro e w' ⟨rfl, hw'⟩
      rw [hw']
      clear hw'
      go_wp2_with fail
      refine hK.out _ _ (hV) (fun hS => ?_)
      clear hK K
      try simp only [List.getElem_toArray, List.getElem_cons_succ, List.getElem_cons_zero, Act.put, List.setIfInBounds_toArray, List.set_cons_zero, List.set_cons_succ]
      refine wpAnyH_ready (rs := [5]) (by kernel_rfl) (by simp) ?_
      refine AllReadyH.cons rfl (fun K hK => ?_) AllReadyH.nil
      clear hS
      go_simp
      refine (htr.out _ _).mono ?_
      rintro e w' ⟨rfl, hw'⟩
      rw [hw']
      clear hw'
      go_wp2_with fail
      refine hK.out _ _ (hV) (fun hS => ?_)
      clear hK K
      try simp only [List.getElem_toArray, List.getElem_cons_succ, List.getElem_cons_zero, Act.put, List.setIfInBounds_toArray, List.set_cons_zero, List.set_cons_succ]
      refine wpAnyH_ready (rs := [6]) (by kernel_rfl) (by simp) ?_
      refine AllReadyH.cons rfl (fun K hK => ?_) AllReadyH.nil
      clear hS
      go_simp
      refine (cmpInt_any _ _ _).mono ?_
      rintro e w' ⟨rfl, hw'⟩
      rw [hw']
      clear hw'
      go_wp2_with fail
      refine hK.out _ _ (hV) (fun hS => ?_)
      clear hK K
      try simp only [List.getElem_toArray, List.getElem_cons_succ, List.getElem_cons_zero, Act.put, List.setIfInBounds_toArray, List.set_cons_zero, List.set_cons_succ]
      refine wpAnyH_take (i := 7) (v := ?_) rfl (by kernel_rfl) (by kernel_rfl) (by kernel_rfl) (fun _ _ _ h => h) (.inl ⟨by kernel_rfl, fun w' hS => ?_⟩) hS ?_
      rotate_left
      ·
        skip
        go_simp
        try with_reducible rfl
      simp only [List.getElem_toArray, List.getElem_cons_succ, List.getElem_cons_zero, Act.put, List.setIfInBounds_toArray, List.set_cons_zero, List.set_cons_succ]
      refine wpAnyH_done (by kernel_rfl) ?_ _
      clear hS
      have hbe := Lib.hid hV.below
      clear hV
      go_wp2
      go_ret
      exact ⟨ret_int hR2.out, hbe.out⟩
    · -- the call of part, and what it tells
      have hpt := Lib.hid (fun W => part_any (2) b n t x s W)
      unfold partV agg6 at hpt
      simp only [if_true, Int.reduceEq, reduceCtorEq, if_false, or_true, true_or, or_false, or_self] at hpt
      go_wp2_with fail
      refine (hpt.out _).mono ?_
      rintro e w3 ⟨rfl, hb3⟩
      clear hpt x0 x1 x2c x3 x4 x5 y0 y1 y2 y3 y4 y5 l0
      have c3 := cv.on hb3
      clear hb3 cv
      obtain ⟨l0, x0, x1, x2c, x3, x4, x5, y0, y1, y2, y3, y4, y5⟩ := c3.cells
      replace c3 := Lib.hid c3
      have tb0 := tb_2_0
      have tb1 := tb_2_1
      have tb2 := tb_2_2
      have tb3 := tb_2_3
      have tb4 := tb_2_4
      have tb5 := tb_2_5
      have tb6 := tb_2_6
      have tb7 := tb_2_7
      have tb8 := tb_2_8
      go_wp2_with fail
      refine (hcmp.out _ c3.out.below).mono ?_
      rintro e w4 ⟨rfl, hb4⟩
      have c4 := c3.out.on hb4
      clear c3 hb4 hcmp x0 x1 x2c x3 x4 x5 y0 y1 y2 y3 y4 y5 l0
      obtain ⟨l0, x0, x1, x2c, x3, x4, x5, y0, y1, y2, y3, y4, y5⟩ := c4.cells
      replace c4 := Lib.hid c4
      by_cases hQ : cmpI (numV 2 n t) (numV k2 n2 t2) = 0
      case neg =>
        have hR2 : cmpI (numV 2 n t) (numV k2 n2 t2) = R := by rw [← hR.out]; unfold restV; rw [if_pos (show isNum 2 = true by decide)]; unfold orI; rw [if_neg hQ]
        have hQb : (cmpI (numV 2 n t) (numV k2 n2 t2) != 0) = true := bne_iff_ne.2 hQ
        replace hR2 := Lib.hid hR2
        clear hR hcc hQ
        generalize cmpI (numV 2 n t) (numV k2 n2 t2) = Q at *
        go_wp2
        go_ret
        exact ⟨ret_int hR2.out, c4.out.below⟩
      have hR2 : (if ((2 : Int) = 2 ∨ k2 = 2) then cmpI 2 k2 else cmpT t t2) = R := by rw [← hR.out]; unfold restV; rw [if_pos (show isNum 2 = true by decide)]; unfold orI; rw [if_pos hQ]
      have hQb : (cmpI (numV 2 n t) (numV k2 n2 t2) != 0) = false := by rw [hQ]; rfl
      clear hR hcc hQ
      generalize cmpI (numV 2 n t) (numV k2 n2 t2) = Q at *
      rw [if_pos (.inl rfl)] at hR2
      replace hR2 := Lib.hid hR2
      go_wp2_with (first | (go_at_call 57; refine (cmpInt_any _ _ _).mono ?_; rintro e w' ⟨rfl, hw'⟩; rw [hw']; clear hw') | (go_at_call 60; refine (cmpStr_any _ _ _).mono ?_; rintro e w' ⟨rfl, hw'⟩; rw [hw']; clear hw'))
      go_ret
      exact ⟨ret_int hR2.out, c4.out.below⟩
    · -- the call of part, and what it tells
      have hpt := Lib.hid (fun W => part_any (3) b n t x s W)
      unfold partV agg6 at hpt
      simp only [if_true, Int.reduceEq, reduceCtorEq, if_false, or_true, true_or, or_false, or_self] at hpt
      go_wp2_with fail
      refine (hpt.out _).mono ?_
      rintro e w3 ⟨rfl, hb3⟩
      clear hpt x0 x1 x2c x3 x4 x5 y0 y1 y2 y3 y4 y5 l0
      have c3 := cv.on hb3
      clear hb3 cv
      obtain ⟨l0, x0, x1, x2c, x3, x4, x5, y0, y1, y2, y3, y4, y5⟩ := c3.cells
      replace c3 := Lib.hid c3
      have tb0 := tb_3_0
      have tb1 := tb_3_1
      have tb2 := tb_3_2
      have tb3 := tb_3_3
      have tb4 := tb_3_4
      have tb5 := tb_3_5
      have tb6 := tb_3_6
      have tb7 := tb_3_7
      have tb8 := tb_3_8
      go_wp2_with fail
      refine (hcmp.out _ c3.out.below).mono ?_
      rintro e w4 ⟨rfl, hb4⟩
      have c4 := c3.out.on hb4
      clear c3 hb4 hcmp x0 x1 x2c x3 x4 x5 y0 y1 y2 y3 y4 y5 l0
      obtain ⟨l0, x0, x1, x2c, x3, x4, x5, y0, y1, y2, y3, y4, y5⟩ := c4.cells
      replace c4 := Lib.hid c4
      by_cases hQ : cmpI (numV 3 n t) (numV k2 n2 t2) = 0
      case neg =>
        have hR2 : cmpI (numV 3 n t) (numV k2 n2 t2) = R := by rw [← hR.out]; unfold restV; rw [if_pos (show isNum 3 = true by decide)]; unfold orI; rw [if_neg hQ]
        have hQb : (cmpI (numV 3 n t) (numV k2 n2 t2) != 0) = true := bne_iff_ne.2 hQ
        replace hR2 := Lib.hid hR2
        clear hR hcc hQ
        generalize cmpI (numV 3 n t) (numV k2 n2 t2) = Q at *
        go_wp2
        go_ret
        exact ⟨ret_int hR2.out, c4.out.below⟩
      have hR2 : (if ((3 : Int) = 2 ∨ k2 = 2) then cmpI 3 k2 else cmpT t t2) = R := by rw [← hR.out]; unfold restV; rw [if_pos (show isNum 3 = true by decide)]; unfold orI; rw [if_pos hQ]
      have hQb : (cmpI (numV 3 n t) (numV k2 n2 t2) != 0) = false := by rw [hQ]; rfl
      clear hR hcc hQ
      generalize cmpI (numV 3 n t) (numV k2 n2 t2) = Q at *
      by_cases hk2 : k2 = 2
      · rw [if_pos (.inr hk2)] at hR2
        subst hk2
        replace hR2 := Lib.hid hR2
        go_wp2_with (first | (go_at_call 57; refine (cmpInt_any _ _ _).mono ?_; rintro e w' ⟨rfl, hw'⟩; rw [hw']; clear hw') | (go_at_call 60; refine (cmpStr_any _ _ _).mono ?_; rintro e w' ⟨rfl, hw'⟩; rw [hw']; clear hw'))
        go_ret
        exact ⟨ret_int hR2.out, c4.out.below⟩
      · rw [if_neg (by omega)] at hR2
        have hk2b : (k2 == 2) = false := beq_eq_false_iff_ne.2 hk2
        clear hk2
        replace hR2 := Lib.hid hR2
        go_wp2_with (first | (go_at_call 57; refine (cmpInt_any _ _ _).mono ?_; rintro e w' ⟨rfl, hw'⟩; rw [hw']; clear hw') | (go_at_call 60; refine (cmpStr_any _ _ _).mono ?_; rintro e w' ⟨rfl, hw'⟩; rw [hw']; clear hw'))
        go_ret
        exact ⟨ret_int hR2.out, c4.out.below⟩
    · have hR2 : orI (cmpT t t2) (cmpT x x2) = R := by rw [← hR.out]; simp [restV, isNum]
      replace hR2 := Lib.hid hR2
      clear hR hcc
      -- the call of part, and what it tells
      have hpt := Lib.hid (fun W => part_any (4) b n t x s W)
      unfold partV agg6 at hpt
      simp only [if_true, Int.reduceEq, reduceCtorEq, if_false, or_true, true_or, or_false, or_self] at hpt
      go_wp2_with fail
      refine (hpt.out _).mono ?_
      rintro e w3 ⟨rfl, hb3⟩
      clear hpt x0 x1 x2c x3 x4 x5 y0 y1 y2 y3 y4 y5 l0
      have c3 := cv.on hb3
      clear hb3 cv
      obtain ⟨l0, x0, x1, x2c, x3, x4, x5, y0, y1, y2, y3, y4, y5⟩ := c3.cells
      replace c3 := Lib.hid c3
      have tb0 := tb_4_0
      have tb1 := tb_4_1
      have tb2 := tb_4_2
      have tb3 := tb_4_3
      have tb4 := tb_4_4
      have tb5 := tb_4_5
      have tb6 := tb_4_6
      have tb7 := tb_4_7
      have tb8 := tb_4_8
      go_upto_region 22 with fail
      clear tb0 tb1 tb2 tb3 tb4 tb5 tb6 tb7 tb8
      clear x0 x1 x2c x3 x4 x5 y0 y1 y2 y3 y4 y5 l0
      have c4 := c3.out.on (below_drew _)
      clear c3
      refine wp_region_held_drew (S := fun V => B3 w V lang #[.int .i64 4, .bool b, .int .i64 n, .string t, .string x, s] #[.int .i64 k2, .bool bb, .int .i64 n2, .string t2, .string x2, s2]) (by kernel_rfl) c4 (fun hS => ?_)
      have hV := c4
      clear c4
      generalize w3.drew = V1 at *
      refine wpAnyH_take (i := 0) (v := ?_) rfl (by kernel_rfl) (by kernel_rfl) (by kernel_rfl) (fun _ _ _ h => h) (.inl ⟨by kernel_rfl, fun w' hS => ?_⟩) hS ?_
      rotate_left
      ·
        obtain ⟨l0, x0, x1, x2c, x3, x4, x5, y0, y1, y2, y3, y4, y5⟩ := hS.cells
        go_simp
        try with_reducible rfl
      simp only [List.getElem_toArray, List.getElem_cons_succ, List.getElem_cons_zero, Act.put, List.setIfInBounds_toArray, List.set_cons_zero, List.set_cons_succ]
      refine wpAnyH_take (i := 1) (v := ?_) rfl (by kernel_rfl) (by kernel_rfl) (by kernel_rfl) (fun _ _ _ h => h) (.inl ⟨by kernel_rfl, fun w' hS => ?_⟩) hS ?_
      rotate_left
      ·
        obtain ⟨l0, x0, x1, x2c, x3, x4, x5, y0, y1, y2, y3, y4, y5⟩ := hS.cells
        go_simp
        try with_reducible rfl
      simp only [List.getElem_toArray, List.getElem_cons_succ, List.getElem_cons_zero, Act.put, List.setIfInBounds_toArray, List.set_cons_zero, List.set_cons_succ]
      refine wpAnyH_take (i := 2) (v := ?_) rfl (by kernel_rfl) (by kernel_rfl) (by kernel_rfl) (fun _ _ _ h => h) (.inl ⟨by kernel_rfl, fun w' hS => ?_⟩) hS ?_
      rotate_left
      ·
        obtain ⟨l0, x0, x1, x2c, x3, x4, x5, y0, y1, y2, y3, y4, y5⟩ := hS.cells
        go_simp
        try with_reducible rfl
      simp only [List.getElem_toArray, List.getElem_cons_succ, List.getElem_cons_zero, Act.put, List.setIfInBounds_toArray, List.set_cons_zero, List.set_cons_succ]
      refine wpAnyH_take (i := 3) (v := ?_) rfl (by kernel_rfl) (by kernel_rfl) (by kernel_rfl) (fun _ _ _ h => h) (.inl ⟨by kernel_rfl, fun w' hS => ?_⟩) hS ?_
      rotate_left
      ·
        obtain ⟨l0, x0, x1, x2c, x3, x4, x5, y0, y1, y2, y3, y4, y5⟩ := hS.cells
        go_simp
        try with_reducible rfl
      simp only [List.getElem_toArray, List.getElem_cons_succ, List.getElem_cons_zero, Act.put, List.setIfInBounds_toArray, List.set_cons_zero, List.set_cons_succ]
      refine wpAnyH_take (i := 5) (v := ?_) rfl (by kernel_rfl) (by kernel_rfl) (by kernel_rfl) (fun _ _ _ h => h) (.inl ⟨by kernel_rfl, fun w' hS => ?_⟩) hS ?_
      rotate_left
      ·
        obtain ⟨l0, x0, x1, x2c, x3, x4, x5, y0, y1, y2, y3, y4, y5⟩ := hS.cells
        go_simp
        try with_reducible rfl
      simp only [List.getElem_toArray, List.getElem_cons_succ, List.getElem_cons_zero, Act.put, List.setIfInBounds_toArray, List.set_cons_zero, List.set_cons_succ]
      refine wpAnyH_take (i := 6) (v := ?_) rfl (by kernel_rfl) (by kernel_rfl) (by kernel_rfl) (fun _ _ _ h => h) (.inl ⟨by kernel_rfl, fun w' hS => ?_⟩) hS ?_
      rotate_left
      ·
        obtain ⟨l0, x0, x1, x2c, x3, x4, x5, y0, y1, y2, y3, y4, y5⟩ := hS.cells
        go_simp
        try with_reducible rfl
      simp only [List.getElem_toArray, List.getElem_cons_succ, List.getElem_cons_zero, Act.put, List.setIfInBounds_toArray, List.set_cons_zero, List.set_cons_succ]
      refine wpAnyH_take (i := 7) (v := ?_) rfl (by kernel_rfl) (by kernel_rfl) (by kernel_rfl) (fun _ _ _ h => h) (.inl ⟨by kernel_rfl, fun w' hS => ?_⟩) hS ?_
      rotate_left
      ·
        obtain ⟨l0, x0, x1, x2c, x3, x4, x5, y0, y1, y2, y3, y4, y5⟩ := hS.cells
        go_simp
        try with_reducible rfl
      simp only [List.getElem_toArray, List.getElem_cons_succ, List.getElem_cons_zero, Act.put, List.setIfInBounds_toArray, List.set_cons_zero, List.set_cons_succ]
      refine wpAnyH_take (i := 8) (v := ?_) rfl (by kernel_rfl) (by kernel_rfl) (by kernel_rfl) (fun _ _ _ h => h) (.inl ⟨by kernel_rfl, fun w' hS => ?_⟩) hS ?_
      rotate_left
      ·
        obtain ⟨l0, x0, x1, x2c, x3, x4, x5, y0, y1, y2, y3, y4, y5⟩ := hS.cells
        go_simp
        try with_reducible rfl
      simp only [List.getElem_toArray, List.getElem_cons_succ, List.getElem_cons_zero, Act.put, List.setIfInBounds_toArray, List.set_cons_zero, List.set_cons_succ]
      refine wpAnyH_ready (rs := [4]) (by kernel_rfl) (by simp) ?_
      refine AllReadyH.cons rfl (fun K hK => ?_) AllReadyH.nil
      clear hS
      go_simp
      refine (cmpStr_any _ _ _).mono ?_
      rintro e w' ⟨rfl, hw'⟩
      rw [hw']
      clear hw'
      go_wp2_with fail
      refine hK.out _ _ (hV) (fun hS => ?_)
      clear hK K
      try simp only [List.getElem_toArray, List.getElem_cons_succ, List.getElem_cons_zero, Act.put, List.setIfInBounds_toArray, List.set_cons_zero, List.set_cons_succ]
      refine wpAnyH_ready (rs := [9]) (by kernel_rfl) (by simp) ?_
      refine AllReadyH.cons rfl (fun K hK => ?_) AllReadyH.nil
      clear hS
      go_simp
      refine (cmpStr_any _ _ _).mono ?_
      rintro e w' ⟨rfl, hw'⟩
      rw [hw']
      clear hw'
      go_wp2_with fail
      refine hK.out _ _ (hV) (fun hS => ?_)
      clear hK K
      try simp only [List.getElem_toArray, List.getElem_cons_succ, List.getElem_cons_zero, Act.put, List.setIfInBounds_toArray, List.set_cons_zero, List.set_cons_succ]
      refine wpAnyH_ready (rs := [10]) (by kernel_rfl) (by simp) ?_
      refine AllReadyH.cons rfl (fun K hK => ?_) AllReadyH.nil
      clear hS
      go_simp
      go_wp2_with fail
      have hal := hV.on ((Below.refl _ _).alloc (Nat.le_refl _) _ : Below V1.heap.size V1 (V1.alloc (.cells #[.int .i64 (cmpT t t2), .int .i64 (cmpT x x2)] 3)))
      have hq : Blk (V1.alloc (.cells #[.int .i64 (cmpT t t2), .int .i64 (cmpT x x2)] 3)) V1.heap.size #[.int .i64 (cmpT t t2), .int .i64 (cmpT x x2)] 3 := Blk.new _ _ _
      refine hK.out _ _ hal (fun hS => ?_)
      clear hK K hV
      try simp only [List.getElem_toArray, List.getElem_cons_succ, List.getElem_cons_zero, Act.put, List.setIfInBounds_toArray, List.set_cons_zero, List.set_cons_succ]
      have hor := or_any V1.heap.size _ _ _ (hq.cell 0 rfl) (hq.cell 1 rfl)
      generalize V1.alloc (.cells #[.int .i64 (cmpT t t2), .int .i64 (cmpT x x2)] 3) = V2 at *
      clear hq
      replace hor := Lib.hid hor
      refine wpAnyH_ready (rs := [11]) (by kernel_rfl) (by simp) ?_
      refine AllReadyH.cons rfl (fun K hK => ?_) AllReadyH.nil
      clear hS
      go_simp
      refine (hor.out).mono ?_
      rintro e w' ⟨rfl, hw'⟩
      rw [hw']
      clear hw'
      go_wp2_with fail
      refine hK.out _ _ (hal) (fun hS => ?_)
      clear hK K
      try simp only [List.getElem_toArray, List.getElem_cons_succ, List.getElem_cons_zero, Act.put, List.setIfInBounds_toArray, List.set_cons_zero, List.set_cons_succ]
      refine wpAnyH_take (i := 12) (v := ?_) rfl (by kernel_rfl) (by kernel_rfl) (by kernel_rfl) (fun _ _ _ h => h) (.inl ⟨by kernel_rfl, fun w' hS => ?_⟩) hS ?_
      rotate_left
      ·
        skip
        go_simp
        try with_reducible rfl
      simp only [List.getElem_toArray, List.getElem_cons_succ, List.getElem_cons_zero, Act.put, List.setIfInBounds_toArray, List.set_cons_zero, List.set_cons_succ]
      refine wpAnyH_done (by kernel_rfl) ?_ _
      clear hS hor
      have hbe := Lib.hid hal.below
      clear hal
      go_wp2
      go_ret
      exact ⟨ret_int hR2.out, hbe.out⟩
    · have hR2 : oL = R := by rw [← hR.out]; simp [restV, isNum]
      replace hR2 := Lib.hid hR2
      clear hR hcc
      -- the call of part, and what it tells
      have hpt := Lib.hid (fun W => part_any (5) b n t x s W)
      unfold partV agg6 at hpt
      simp only [if_true, Int.reduceEq, reduceCtorEq, if_false, or_true, true_or, or_false, or_self] at hpt
      go_wp2_with fail
      refine (hpt.out _).mono ?_
      rintro e w3 ⟨rfl, hb3⟩
      clear hpt x0 x1 x2c x3 x4 x5 y0 y1 y2 y3 y4 y5 l0
      have c3 := cv.on hb3
      clear hb3 cv
      obtain ⟨l0, x0, x1, x2c, x3, x4, x5, y0, y1, y2, y3, y4, y5⟩ := c3.cells
      replace c3 := Lib.hid c3
      have tb0 := tb_5_0
      have tb1 := tb_5_1
      have tb2 := tb_5_2
      have tb3 := tb_5_3
      have tb4 := tb_5_4
      have tb5 := tb_5_5
      have tb6 := tb_5_6
      have tb7 := tb_5_7
      have tb8 := tb_5_8
      go_wp2_with fail
      refine (hcf.out _ c3.out.below l0).mono ?_
      rintro e w4 ⟨rfl, hb4⟩
      have hbe := Lib.hid (c3.out.on hb4).below
      clear c3 hb4 hcf
      go_wp2
      go_ret
      exact ⟨ret_int hR2.out, hbe.out⟩
    · have hR2 : cmpI n n2 = R := by rw [← hR.out]; simp [restV, isNum]
      replace hR2 := Lib.hid hR2
      clear hR hcc
      -- the call of part, and what it tells
      have hpt := Lib.hid (fun W => part_any (6) b n t x s W)
      unfold partV agg6 at hpt
      simp only [if_true, Int.reduceEq, reduceCtorEq, if_false, or_true, true_or, or_false, or_self] at hpt
      go_wp2_with fail
      refine (hpt.out _).mono ?_
      rintro e w3 ⟨rfl, hb3⟩
      clear hpt x0 x1 x2c x3 x4 x5 y0 y1 y2 y3 y4 y5 l0
      have c3 := cv.on hb3
      clear hb3 cv
      obtain ⟨l0, x0, x1, x2c, x3, x4, x5, y0, y1, y2, y3, y4, y5⟩ := c3.cells
      replace c3 := Lib.hid c3
      have tb0 := tb_6_0
      have tb1 := tb_6_1
      have tb2 := tb_6_2
      have tb3 := tb_6_3
      have tb4 := tb_6_4
      have tb5 := tb_6_5
      have tb6 := tb_6_6
      have tb7 := tb_6_7
      have tb8 := tb_6_8
      go_wp2_with (go_at_call 63; refine (cmp64_any _ _ _).mono ?_; rintro e w' ⟨rfl, hw'⟩; rw [hw']; clear hw')
      go_ret
      exact ⟨ret_int hR2.out, c3.out.below⟩
    · have hR2 : cmpI n n2 = R := by rw [← hR.out]; simp [restV, isNum]
      replace hR2 := Lib.hid hR2
      clear hR hcc
      -- the call of part, and what it tells
      have hpt := Lib.hid (fun W => part_any (7) b n t x s W)
      unfold partV agg6 at hpt
      simp only [if_true, Int.reduceEq, reduceCtorEq, if_false, or_true, true_or, or_false, or_self] at hpt
      go_wp2_with fail
      refine (hpt.out _).mono ?_
      rintro e w3 ⟨rfl, hb3⟩
      clear hpt x0 x1 x2c x3 x4 x5 y0 y1 y2 y3 y4 y5 l0
      have c3 := cv.on hb3
      clear hb3 cv
      obtain ⟨l0, x0, x1, x2c, x3, x4, x5, y0, y1, y2, y3, y4, y5⟩ := c3.cells
      replace c3 := Lib.hid c3
      have tb0 := tb_6_0
      have tb1 := tb_6_1
      have tb2 := tb_6_2
      have tb3 := tb_6_3
      have tb4 := tb_6_4
      have tb5 := tb_6_5
      have tb6 := tb_6_6
      have tb7 := tb_6_7
      have tb8 := tb_6_8
      go_wp2_with (go_at_call 63; refine (cmp64_any _ _ _).mono ?_; rintro e w' ⟨rfl, hw'⟩; rw [hw']; clear hw')
      go_ret
      exact ⟨ret_int hR2.out, c3.out.below⟩
    · have hR2 : orI (cmpT t t2) (cmpT x x2) = R := by rw [← hR.out]; simp [restV, isNum]
      replace hR2 := Lib.hid hR2
      clear hR hcc
      -- the call of part, and what it tells
      have hpt := Lib.hid (fun W => part_any (8) b n t x s W)
      unfold partV agg6 at hpt
      simp only [if_true, Int.reduceEq, reduceCtorEq, if_false, or_true, true_or, or_false, or_self] at hpt
      go_wp2_with fail
      refine (hpt.out _).mono ?_
      rintro e w3 ⟨rfl, hb3⟩
      clear hpt x0 x1 x2c x3 x4 x5 y0 y1 y2 y3 y4 y5 l0
      have c3 := cv.on hb3
      clear hb3 cv
      obtain ⟨l0, x0, x1, x2c, x3, x4, x5, y0, y1, y2, y3, y4, y5⟩ := c3.cells
      replace c3 := Lib.hid c3
      have tb0 := tb_4_0
      have tb1 := tb_4_1
      have tb2 := tb_4_2
      have tb3 := tb_4_3
      have tb4 := tb_4_4
      have tb5 := tb_4_5
      have tb6 := tb_4_6
      have tb7 := tb_4_7
      have tb8 := tb_4_8
      go_upto_region 22 with fail
      clear tb0 tb1 tb2 tb3 tb4 tb5 tb6 tb7 tb8
      clear x0 x1 x2c x3 x4 x5 y0 y1 y2 y3 y4 y5 l0
      have c4 := c3.out.on (below_drew _)
      clear c3
      refine wp_region_held_drew (S := fun V => B3 w V lang #[.int .i64 8, .bool b, .int .i64 n, .string t, .string x, s] #[.int .i64 k2, .bool bb, .int .i64 n2, .string t2, .string x2, s2]) (by kernel_rfl) c4 (fun hS => ?_)
      have hV := c4
      clear c4
      generalize w3.drew = V1 at *
      refine wpAnyH_take (i := 0) (v := ?_) rfl (by kernel_rfl) (by kernel_rfl) (by kernel_rfl) (fun _ _ _ h => h) (.inl ⟨by kernel_rfl, fun w' hS => ?_⟩) hS ?_
      rotate_left
      ·
        obtain ⟨l0, x0, x1, x2c, x3, x4, x5, y0, y1, y2, y3, y4, y5⟩ := hS.cells
        go_simp
        try with_reducible rfl
      simp only [List.getElem_toArray, List.getElem_cons_succ, List.getElem_cons_zero, Act.put, List.setIfInBounds_toArray, List.set_cons_zero, List.set_cons_succ]
      refine wpAnyH_take (i := 1) (v := ?_) rfl (by kernel_rfl) (by kernel_rfl) (by kernel_rfl) (fun _ _ _ h => h) (.inl ⟨by kernel_rfl, fun w' hS => ?_⟩) hS ?_
      rotate_left
      ·
        obtain ⟨l0, x0, x1, x2c, x3, x4, x5, y0, y1, y2, y3, y4, y5⟩ := hS.cells
        go_simp
        try with_reducible rfl
      simp only [List.getElem_toArray, List.getElem_cons_succ, List.getElem_cons_zero, Act.put, List.setIfInBounds_toArray, List.set_cons_zero, List.set_cons_succ]
      refine wpAnyH_take (i := 2) (v := ?_) rfl (by kernel_rfl) (by kernel_rfl) (by kernel_rfl) (fun _ _ _ h => h) (.inl ⟨by kernel_rfl, fun w' hS => ?_⟩) hS ?_
      rotate_left
      ·
        obtain ⟨l0, x0, x1, x2c, x3, x4, x5, y0, y1, y2, y3, y4, y5⟩ := hS.cells
        go_simp
        try with_reducible rfl
      simp only [List.getElem_toArray, List.getElem_cons_succ, List.getElem_cons_zero, Act.put, List.setIfInBounds_toArray, List.set_cons_zero, List.set_cons_succ]
      refine wpAnyH_take (i := 3) (v := ?_) rfl (by kernel_rfl) (by kernel_rfl) (by kernel_rfl) (fun _ _ _ h => h) (.inl ⟨by kernel_rfl, fun w' hS => ?_⟩) hS ?_
      rotate_left
      ·
        obtain ⟨l0, x0, x1, x2c, x3, x4, x5, y0, y1, y2, y3, y4, y5⟩ := hS.cells
        go_simp
        try with_reducible rfl
      simp only [List.getElem_toArray, List.getElem_cons_succ, List.getElem_cons_zero, Act.put, List.setIfInBounds_toArray, List.set_cons_zero, List.set_cons_succ]
      refine wpAnyH_take (i := 5) (v := ?_) rfl (by kernel_rfl) (by kernel_rfl) (by kernel_rfl) (fun _ _ _ h => h) (.inl ⟨by kernel_rfl, fun w' hS => ?_⟩) hS ?_
      rotate_left
      ·
        obtain ⟨l0, x0, x1, x2c, x3, x4, x5, y0, y1, y2, y3, y4, y5⟩ := hS.cells
        go_simp
        try with_reducible rfl
      simp only [List.getElem_toArray, List.getElem_cons_succ, List.getElem_cons_zero, Act.put, List.setIfInBounds_toArray, List.set_cons_zero, List.set_cons_succ]
      refine wpAnyH_take (i := 6) (v := ?_) rfl (by kernel_rfl) (by kernel_rfl) (by kernel_rfl) (fun _ _ _ h => h) (.inl ⟨by kernel_rfl, fun w' hS => ?_⟩) hS ?_
      rotate_left
      ·
        obtain ⟨l0, x0, x1, x2c, x3, x4, x5, y0, y1, y2, y3, y4, y5⟩ := hS.cells
        go_simp
        try with_reducible rfl
      simp only [List.getElem_toArray, List.getElem_cons_succ, List.getElem_cons_zero, Act.put, List.setIfInBounds_toArray, List.set_cons_zero, List.set_cons_succ]
      refine wpAnyH_take (i := 7) (v := ?_) rfl (by kernel_rfl) (by kernel_rfl) (by kernel_rfl) (fun _ _ _ h => h) (.inl ⟨by kernel_rfl, fun w' hS => ?_⟩) hS ?_
      rotate_left
      ·
        obtain ⟨l0, x0, x1, x2c, x3, x4, x5, y0, y1, y2, y3, y4, y5⟩ := hS.cells
        go_simp
        try with_reducible rfl
      simp only [List.getElem_toArray, List.getElem_cons_succ, List.getElem_cons_zero, Act.put, List.setIfInBounds_toArray, List.set_cons_zero, List.set_cons_succ]
      refine wpAnyH_take (i := 8) (v := ?_) rfl (by kernel_rfl) (by kernel_rfl) (by kernel_rfl) (fun _ _ _ h => h) (.inl ⟨by kernel_rfl, fun w' hS => ?_⟩) hS ?_
      rotate_left
      ·
        obtain ⟨l0, x0, x1, x2c, x3, x4, x5, y0, y1, y2, y3, y4, y5⟩ := hS.cells
        go_simp
        try with_reducible rfl
      simp only [List.getElem_toArray, List.getElem_cons_succ, List.getElem_cons_zero, Act.put, List.setIfInBounds_toArray, List.set_cons_zero, List.set_cons_succ]
      refine wpAnyH_ready (rs := [4]) (by kernel_rfl) (by simp) ?_
      refine AllReadyH.cons rfl (fun K hK => ?_) AllReadyH.nil
      clear hS
      go_simp
      refine (cmpStr_any _ _ _).mono ?_
      rintro e w' ⟨rfl, hw'⟩
      rw [hw']
      clear hw'
      go_wp2_with fail
      refine hK.out _ _ (hV) (fun hS => ?_)
      clear hK K
      try simp only [List.getElem_toArray, List.getElem_cons_succ, List.getElem_cons_zero, Act.put, List.setIfInBounds_toArray, List.set_cons_zero, List.set_cons_succ]
      refine wpAnyH_ready (rs := [9]) (by kernel_rfl) (by simp) ?_
      refine AllReadyH.cons rfl (fun K hK => ?_) AllReadyH.nil
      clear hS
      go_simp
      refine (cmpStr_any _ _ _).mono ?_
      rintro e w' ⟨rfl, hw'⟩
      rw [hw']
      clear hw'
      go_wp2_with fail
      refine hK.out _ _ (hV) (fun hS => ?_)
      clear hK K
      try simp only [List.getElem_toArray, List.getElem_cons_succ, List.getElem_cons_zero, Act.put, List.setIfInBounds_toArray, List.set_cons_zero, List.set_cons_succ]
      refine wpAnyH_ready (rs := [10]) (by kernel_rfl) (by simp) ?_
      refine AllReadyH.cons rfl (fun K hK => ?_) AllReadyH.nil
      clear hS
      go_simp
      go_wp2_with fail
      have hal := hV.on ((Below.refl _ _).alloc (Nat.le_refl _) _ : Below V1.heap.size V1 (V1.alloc (.cells #[.int .i64 (cmpT t t2), .int .i64 (cmpT x x2)] 3)))
      have hq : Blk (V1.alloc (.cells #[.int .i64 (cmpT t t2), .int .i64 (cmpT x x2)] 3)) V1.heap.size #[.int .i64 (cmpT t t2), .int .i64 (cmpT x x2)] 3 := Blk.new _ _ _
      refine hK.out _ _ hal (fun hS => ?_)
      clear hK K hV
      try simp only [List.getElem_toArray, List.getElem_cons_succ, List.getElem_cons_zero, Act.put, List.setIfInBounds_toArray, List.set_cons_zero, List.set_cons_succ]
      have hor := or_any V1.heap.size _ _ _ (hq.cell 0 rfl) (hq.cell 1 rfl)
      generalize V1.alloc (.cells #[.int .i64 (cmpT t t2), .int .i64 (cmpT x x2)] 3) = V2 at *
      clear hq
      replace hor := Lib.hid hor
      refine wpAnyH_ready (rs := [11]) (by kernel_rfl) (by simp) ?_
      refine AllReadyH.cons rfl (fun K hK => ?_) AllReadyH.nil
      clear hS
      go_simp
      refine (hor.out).mono ?_
      rintro e w' ⟨rfl, hw'⟩
      rw [hw']
      clear hw'
      go_wp2_with fail
      refine hK.out _ _ (hal) (fun hS => ?_)
      clear hK K
      try simp only [List.getElem_toArray, List.getElem_cons_succ, List.getElem_cons_zero, Act.put, List.setIfInBounds_toArray, List.set_cons_zero, List.set_cons_succ]
      refine wpAnyH_take (i := 12) (v := ?_) rfl (by kernel_rfl) (by kernel_rfl) (by kernel_rfl) (fun _ _ _ h => h) (.inl ⟨by kernel_rfl, fun w' hS => ?_⟩) hS ?_
      rotate_left
      ·
        skip
        go_simp
        try with_reducible rfl
      simp only [List.getElem_toArray, List.getElem_cons_succ, List.getElem_cons_zero, Act.put, List.setIfInBounds_toArray, List.set_cons_zero, List.set_cons_succ]
      refine wpAnyH_done (by kernel_rfl) ?_ _
      clear hS hor
      have hbe := Lib.hid hal.below
      clear hal
      go_wp2
      go_ret
      exact ⟨ret_int hR2.out, hbe.out⟩
    · have hR2 : orI (cmpT t t2) (cmpT x x2) = R := by rw [← hR.out]; simp [restV, isNum]
      replace hR2 := Lib.hid hR2
      clear hR hcc
      -- the call of part, and what it tells
      have hpt := Lib.hid (fun W => part_any (9) b n t x s W)
      unfold partV agg6 at hpt
      simp only [if_true, Int.reduceEq, reduceCtorEq, if_false, or_true, true_or, or_false, or_self] at hpt
      go_wp2_with fail
      refine (hpt.out _).mono ?_
      rintro e w3 ⟨rfl, hb3⟩
      clear hpt x0 x1 x2c x3 x4 x5 y0 y1 y2 y3 y4 y5 l0
      have c3 := cv.on hb3
      clear hb3 cv
      obtain ⟨l0, x0, x1, x2c, x3, x4, x5, y0, y1, y2, y3, y4, y5⟩ := c3.cells
      replace c3 := Lib.hid c3
      have tb0 := tb_4_0
      have tb1 := tb_4_1
      have tb2 := tb_4_2
      have tb3 := tb_4_3
      have tb4 := tb_4_4
      have tb5 := tb_4_5
      have tb6 := tb_4_6
      have tb7 := tb_4_7
      have tb8 := tb_4_8
      go_upto_region 22 with fail
      clear tb0 tb1 tb2 tb3 tb4 tb5 tb6 tb7 tb8
      clear x0 x1 x2c x3 x4 x5 y0 y1 y2 y3 y4 y5 l0
      have c4 := c3.out.on (below_drew _)
      clear c3
      refine wp_region_held_drew (S := fun V => B3 w V lang #[.int .i64 9, .bool b, .int .i64 n, .string t, .string x, s] #[.int .i64 k2, .bool bb, .int .i64 n2, .string t2, .string x2, s2]) (by kernel_rfl) c4 (fun hS => ?_)
      have hV := c4
      clear c4
      generalize w3.drew = V1 at *
      refine wpAnyH_take (i := 0) (v := ?_) rfl (by kernel_rfl) (by kernel_rfl) (by kernel_rfl) (fun _ _ _ h => h) (.inl ⟨by kernel_rfl, fun w' hS => ?_⟩) hS ?_
      rotate_left
      ·
        obtain ⟨l0, x0, x1, x2c, x3, x4, x5, y0, y1, y2, y3, y4, y5⟩ := hS.cells
        go_simp
        try with_reducible rfl
      simp only [List.getElem_toArray, List.getElem_cons_succ, List.getElem_cons_zero, Act.put, List.setIfInBounds_toArray, List.set_cons_zero, List.set_cons_succ]
      refine wpAnyH_take (i := 1) (v := ?_) rfl (by kernel_rfl) (by kernel_rfl) (by kernel_rfl) (fun _ _ _ h => h) (.inl ⟨by kernel_rfl, fun w' hS => ?_⟩) hS ?_
      rotate_left
      ·
        obtain ⟨l0, x0, x1, x2c, x3, x4, x5, y0, y1, y2, y3, y4, y5⟩ := hS.cells
        go_simp
        try with_reducible rfl
      simp only [List.getElem_toArray, List.getElem_cons_succ, List.getElem_cons_zero, Act.put, List.setIfInBounds_toArray, List.set_cons_zero, List.set_cons_succ]
      refine wpAnyH_take (i := 2) (v := ?_) rfl (by kernel_rfl) (by kernel_rfl) (by kernel_rfl) (fun _ _ _ h => h) (.inl ⟨by kernel_rfl, fun w' hS => ?_⟩) hS ?_
      rotate_left
      ·
        obtain ⟨l0, x0, x1, x2c, x3, x4, x5, y0, y1, y2, y3, y4, y5⟩ := hS.cells
        go_simp
        try with_reducible rfl
      simp only [List.getElem_toArray, List.getElem_cons_succ, List.getElem_cons_zero, Act.put, List.setIfInBounds_toArray, List.set_cons_zero, List.set_cons_succ]
      refine wpAnyH_take (i := 3) (v := ?_) rfl (by kernel_rfl) (by kernel_rfl) (by kernel_rfl) (fun _ _ _ h => h) (.inl ⟨by kernel_rfl, fun w' hS => ?_⟩) hS ?_
      rotate_left
      ·
        obtain ⟨l0, x0, x1, x2c, x3, x4, x5, y0, y1, y2, y3, y4, y5⟩ := hS.cells
        go_simp
        try with_reducible rfl
      simp only [List.getElem_toArray, List.getElem_cons_succ, List.getElem_cons_zero, Act.put, List.setIfInBounds_toArray, List.set_cons_zero, List.set_cons_succ]
      refine wpAnyH_take (i := 5) (v := ?_) rfl (by kernel_rfl) (by kernel_rfl) (by kernel_rfl) (fun _ _ _ h => h) (.inl ⟨by kernel_rfl, fun w' hS => ?_⟩) hS ?_
      rotate_left
      ·
        obtain ⟨l0, x0, x1, x2c, x3, x4, x5, y0, y1, y2, y3, y4, y5⟩ := hS.cells
        go_simp
        try with_reducible rfl
      simp only [List.getElem_toArray, List.getElem_cons_succ, List.getElem_cons_zero, Act.put, List.setIfInBounds_toArray, List.set_cons_zero, List.set_cons_succ]
      refine wpAnyH_take (i := 6) (v := ?_) rfl (by kernel_rfl) (by kernel_rfl) (by kernel_rfl) (fun _ _ _ h => h) (.inl ⟨by kernel_rfl, fun w' hS => ?_⟩) hS ?_
      rotate_left
      ·
        obtain ⟨l0, x0, x1, x2c, x3, x4, x5, y0, y1, y2, y3, y4, y5⟩ := hS.cells
        go_simp
        try with_reducible rfl
      simp only [List.getElem_toArray, List.getElem_cons_succ, List.getElem_cons_zero, Act.put, List.setIfInBounds_toArray, List.set_cons_zero, List.set_cons_succ]
      refine wpAnyH_take (i := 7) (v := ?_) rfl (by kernel_rfl) (by kernel_rfl) (by kernel_rfl) (fun _ _ _ h => h) (.inl ⟨by kernel_rfl, fun w' hS => ?_⟩) hS ?_
      rotate_left
      ·
        obtain ⟨l0, x0, x1, x2c, x3, x4, x5, y0, y1, y2, y3, y4, y5⟩ := hS.cells
        go_simp
        try with_reducible rfl
      simp only [List.getElem_toArray, List.getElem_cons_succ, List.getElem_cons_zero, Act.put, List.setIfInBounds_toArray, List.set_cons_zero, List.set_cons_succ]
      refine wpAnyH_take (i := 8) (v := ?_) rfl (by kernel_rfl) (by kernel_rfl) (by kernel_rfl) (fun _ _ _ h => h) (.inl ⟨by kernel_rfl, fun w' hS => ?_⟩) hS ?_
      rotate_left
      ·
        obtain ⟨l0, x0, x1, x2c, x3, x4, x5, y0, y1, y2, y3, y4, y5⟩ := hS.cells
        go_simp
        try with_reducible rfl
      simp only [List.getElem_toArray, List.getElem_cons_succ, List.getElem_cons_zero, Act.put, List.setIfInBounds_toArray, List.set_cons_zero, List.set_cons_succ]
      refine wpAnyH_ready (rs := [4]) (by kernel_rfl) (by simp) ?_
      refine AllReadyH.cons rfl (fun K hK => ?_) AllReadyH.nil
      clear hS
      go_simp
      refine (cmpStr_any _ _ _).mono ?_
      rintro e w' ⟨rfl, hw'⟩
      rw [hw']
      clear hw'
      go_wp2_with fail
      refine hK.out _ _ (hV) (fun hS => ?_)
      clear hK K
      try simp only [List.getElem_toArray, List.getElem_cons_succ, List.getElem_cons_zero, Act.put, List.setIfInBounds_toArray, List.set_cons_zero, List.set_cons_succ]
      refine wpAnyH_ready (rs := [9]) (by kernel_rfl) (by simp) ?_
      refine AllReadyH.cons rfl (fun K hK => ?_) AllReadyH.nil
      clear hS
      go_simp
      refine (cmpStr_any _ _ _).mono ?_
      rintro e w' ⟨rfl, hw'⟩
      rw [hw']
      clear hw'
      go_wp2_with fail
      refine hK.out _ _ (hV) (fun hS => ?_)
      clear hK K
      try simp only [List.getElem_toArray, List.getElem_cons_succ, List.getElem_cons_zero, Act.put, List.setIfInBounds_toArray, List.set_cons_zero, List.set_cons_succ]
      refine wpAnyH_ready (rs := [10]) (by kernel_rfl) (by simp) ?_
      refine AllReadyH.cons rfl (fun K hK => ?_) AllReadyH.nil
      clear hS
      go_simp
      go_wp2_with fail
      have hal := hV.on ((Below.refl _ _).alloc (Nat.le_refl _) _ : Below V1.heap.size V1 (V1.alloc (.cells #[.int .i64 (cmpT t t2), .int .i64 (cmpT x x2)] 3)))
      have hq : Blk (V1.alloc (.cells #[.int .i64 (cmpT t t2), .int .i64 (cmpT x x2)] 3)) V1.heap.size #[.int .i64 (cmpT t t2), .int .i64 (cmpT x x2)] 3 := Blk.new _ _ _
      refine hK.out _ _ hal (fun hS => ?_)
      clear hK K hV
      try simp only [List.getElem_toArray, List.getElem_cons_succ, List.getElem_cons_zero, Act.put, List.setIfInBounds_toArray, List.set_cons_zero, List.set_cons_succ]
      have hor := or_any V1.heap.size _ _ _ (hq.cell 0 rfl) (hq.cell 1 rfl)
      generalize V1.alloc (.cells #[.int .i64 (cmpT t t2), .int .i64 (cmpT x x2)] 3) = V2 at *
      clear hq
      replace hor := Lib.hid hor
      refine wpAnyH_ready (rs := [11]) (by kernel_rfl) (by simp) ?_
      refine AllReadyH.cons rfl (fun K hK => ?_) AllReadyH.nil
      clear hS
      go_simp
      refine (hor.out).mono ?_
      rintro e w' ⟨rfl, hw'⟩
      rw [hw']
      clear hw'
      go_wp2_with fail
      refine hK.out _ _ (hal) (fun hS => ?_)
      clear hK K
      try simp only [List.getElem_toArray, List.getElem_cons_succ, List.getElem_cons_zero, Act.put, List.setIfInBounds_toArray, List.set_cons_zero, List.set_cons_succ]
      refine wpAnyH_take (i := 12) (v := ?_) rfl (by kernel_rfl) (by kernel_rfl) (by kernel_rfl) (fun _ _ _ h => h) (.inl ⟨by kernel_rfl, fun w' hS => ?_⟩) hS ?_
      rotate_left
      ·
        skip
        go_simp
        try with_reducible rfl
      simp only [List.getElem_toArray, List.getElem_cons_succ, List.getElem_cons_zero, Act.put, List.setIfInBounds_toArray, List.set_cons_zero, List.set_cons_succ]
      refine wpAnyH_done (by kernel_rfl) ?_ _
      clear hS hor
      have hbe := Lib.hid hal.below
      clear hal
      go_wp2
      go_ret
      exact ⟨ret_int hR2.out, hbe.out⟩
    · have hR2 : orI (cmpT t t2) (cmpT x x2) = R := by rw [← hR.out]; simp [restV, isNum]
      replace hR2 := Lib.hid hR2
      clear hR hcc
      -- the call of part, and what it tells
      have hpt := Lib.hid (fun W => part_any (10) b n t x s W)
      unfold partV agg6 at hpt
      simp only [if_true, Int.reduceEq, reduceCtorEq, if_false, or_true, true_or, or_false, or_self] at hpt
      go_wp2_with fail
      refine (hpt.out _).mono ?_
      rintro e w3 ⟨rfl, hb3⟩
      clear hpt x0 x1 x2c x3 x4 x5 y0 y1 y2 y3 y4 y5 l0
      have c3 := cv.on hb3
      clear hb3 cv
      obtain ⟨l0, x0, x1, x2c, x3, x4, x5, y0, y1, y2, y3, y4, y5⟩ := c3.cells
      replace c3 := Lib.hid c3
      have tb0 := tb_7_0
      have tb1 := tb_7_1
      have tb2 := tb_7_2
      have tb3 := tb_7_3
      have tb4 := tb_7_4
      have tb5 := tb_7_5
      have tb6 := tb_7_6
      have tb7 := tb_7_7
      have tb8 := tb_7_8
      go_upto_region 22 with fail
      clear tb0 tb1 tb2 tb3 tb4 tb5 tb6 tb7 tb8
      clear x0 x1 x2c x3 x4 x5 y0 y1 y2 y3 y4 y5 l0
      have c4 := c3.out.on (below_drew _)
      clear c3
      refine wp_region_held_drew (S := fun V => B3 w V lang #[.int .i64 10, .bool b, .int .i64 n, .string t, .string x, s] #[.int .i64 k2, .bool bb, .int .i64 n2, .string t2, .string x2, s2]) (by kernel_rfl) c4 (fun hS => ?_)
      have hV := c4
      clear c4
      generalize w3.drew = V1 at *
      refine wpAnyH_take (i := 0) (v := ?_) rfl (by kernel_rfl) (by kernel_rfl) (by kernel_rfl) (fun _ _ _ h => h) (.inl ⟨by kernel_rfl, fun w' hS => ?_⟩) hS ?_
      rotate_left
      ·
        obtain ⟨l0, x0, x1, x2c, x3, x4, x5, y0, y1, y2, y3, y4, y5⟩ := hS.cells
        go_simp
        try with_reducible rfl
      simp only [List.getElem_toArray, List.getElem_cons_succ, List.getElem_cons_zero, Act.put, List.setIfInBounds_toArray, List.set_cons_zero, List.set_cons_succ]
      refine wpAnyH_take (i := 1) (v := ?_) rfl (by kernel_rfl) (by kernel_rfl) (by kernel_rfl) (fun _ _ _ h => h) (.inl ⟨by kernel_rfl, fun w' hS => ?_⟩) hS ?_
      rotate_left
      ·
        obtain ⟨l0, x0, x1, x2c, x3, x4, x5, y0, y1, y2, y3, y4, y5⟩ := hS.cells
        go_simp
        try with_reducible rfl
      simp only [List.getElem_toArray, List.getElem_cons_succ, List.getElem_cons_zero, Act.put, List.setIfInBounds_toArray, List.set_cons_zero, List.set_cons_succ]
      refine wpAnyH_take (i := 2) (v := ?_) rfl (by kernel_rfl) (by kernel_rfl) (by kernel_rfl) (fun _ _ _ h => h) (.inl ⟨by kernel_rfl, fun w' hS => ?_⟩) hS ?_
      rotate_left
      ·
        obtain ⟨l0, x0, x1, x2c, x3, x4, x5, y0, y1, y2, y3, y4, y5⟩ := hS.cells
        go_simp
        try with_reducible rfl
      simp only [List.getElem_toArray, List.getElem_cons_succ, List.getElem_cons_zero, Act.put, List.setIfInBounds_toArray, List.set_cons_zero, List.set_cons_succ]
      refine wpAnyH_take (i := 3) (v := ?_) rfl (by kernel_rfl) (by kernel_rfl) (by kernel_rfl) (fun _ _ _ h => h) (.inl ⟨by kernel_rfl, fun w' hS => ?_⟩) hS ?_
      rotate_left
      ·
        obtain ⟨l0, x0, x1, x2c, x3, x4, x5, y0, y1, y2, y3, y4, y5⟩ := hS.cells
        go_simp
        try with_reducible rfl
      simp only [List.getElem_toArray, List.getElem_cons_succ, List.getElem_cons_zero, Act.put, List.setIfInBounds_toArray, List.set_cons_zero, List.set_cons_succ]
      refine wpAnyH_take (i := 5) (v := ?_) rfl (by kernel_rfl) (by kernel_rfl) (by kernel_rfl) (fun _ _ _ h => h) (.inl ⟨by kernel_rfl, fun w' hS => ?_⟩) hS ?_
      rotate_left
      ·
        obtain ⟨l0, x0, x1, x2c, x3, x4, x5, y0, y1, y2, y3, y4, y5⟩ := hS.cells
        go_simp
        try with_reducible rfl
      simp only [List.getElem_toArray, List.getElem_cons_succ, List.getElem_cons_zero, Act.put, List.setIfInBounds_toArray, List.set_cons_zero, List.set_cons_succ]
      refine wpAnyH_take (i := 6) (v := ?_) rfl (by kernel_rfl) (by kernel_rfl) (by kernel_rfl) (fun _ _ _ h => h) (.inl ⟨by kernel_rfl, fun w' hS => ?_⟩) hS ?_
      rotate_left
      ·
        obtain ⟨l0, x0, x1, x2c, x3, x4, x5, y0, y1, y2, y3, y4, y5⟩ := hS.cells
        go_simp
        try with_reducible rfl
      simp only [List.getElem_toArray, List.getElem_cons_succ, List.getElem_cons_zero, Act.put, List.setIfInBounds_toArray, List.set_cons_zero, List.set_cons_succ]
      refine wpAnyH_take (i := 7) (v := ?_) rfl (by kernel_rfl) (by kernel_rfl) (by kernel_rfl) (fun _ _ _ h => h) (.inl ⟨by kernel_rfl, fun w' hS => ?_⟩) hS ?_
      rotate_left
      ·
        obtain ⟨l0, x0, x1, x2c, x3, x4, x5, y0, y1, y2, y3, y4, y5⟩ := hS.cells
        go_simp
        try with_reducible rfl
      simp only [List.getElem_toArray, List.getElem_cons_succ, List.getElem_cons_zero, Act.put, List.setIfInBounds_toArray, List.set_cons_zero, List.set_cons_succ]
      refine wpAnyH_take (i := 8) (v := ?_) rfl (by kernel_rfl) (by kernel_rfl) (by kernel_rfl) (fun _ _ _ h => h) (.inl ⟨by kernel_rfl, fun w' hS => ?_⟩) hS ?_
      rotate_left
      ·
        obtain ⟨l0, x0, x1, x2c, x3, x4, x5, y0, y1, y2, y3, y4, y5⟩ := hS.cells
        go_simp
        try with_reducible rfl
      simp only [List.getElem_toArray, List.getElem_cons_succ, List.getElem_cons_zero, Act.put, List.setIfInBounds_toArray, List.set_cons_zero, List.set_cons_succ]
      refine wpAnyH_ready (rs := [4]) (by kernel_rfl) (by simp) ?_
      refine AllReadyH.cons rfl (fun K hK => ?_) AllReadyH.nil
      clear hS
      go_simp
      refine (cmpStr_any _ _ _).mono ?_
      rintro e w' ⟨rfl, hw'⟩
      rw [hw']
      clear hw'
      go_wp2_with fail
      refine hK.out _ _ (hV) (fun hS => ?_)
      clear hK K
      try simp only [List.getElem_toArray, List.getElem_cons_succ, List.getElem_cons_zero, Act.put, List.setIfInBounds_toArray, List.set_cons_zero, List.set_cons_succ]
      refine wpAnyH_ready (rs := [9]) (by kernel_rfl) (by simp) ?_
      refine AllReadyH.cons rfl (fun K hK => ?_) AllReadyH.nil
      clear hS
      go_simp
      refine (cmpStr_any _ _ _).mono ?_
      rintro e w' ⟨rfl, hw'⟩
      rw [hw']
      clear hw'
      go_wp2_with fail
      refine hK.out _ _ (hV) (fun hS => ?_)
      clear hK K
      try simp only [List.getElem_toArray, List.getElem_cons_succ, List.getElem_cons_zero, Act.put, List.setIfInBounds_toArray, List.set_cons_zero, List.set_cons_succ]
      refine wpAnyH_ready (rs := [10]) (by kernel_rfl) (by simp) ?_
      refine AllReadyH.cons rfl (fun K hK => ?_) AllReadyH.nil
      clear hS
      go_simp
      go_wp2_with fail
      have hal := hV.on ((Below.refl _ _).alloc (Nat.le_refl _) _ : Below V1.heap.size V1 (V1.alloc (.cells #[.int .i64 (cmpT t t2), .int .i64 (cmpT x x2)] 3)))
      have hq : Blk (V1.alloc (.cells #[.int .i64 (cmpT t t2), .int .i64 (cmpT x x2)] 3)) V1.heap.size #[.int .i64 (cmpT t t2), .int .i64 (cmpT x x2)] 3 := Blk.new _ _ _
      refine hK.out _ _ hal (fun hS => ?_)
      clear hK K hV
      try simp only [List.getElem_toArray, List.getElem_cons_succ, List.getElem_cons_zero, Act.put, List.setIfInBounds_toArray, List.set_cons_zero, List.set_cons_succ]
      have hor := or_any V1.heap.size _ _ _ (hq.cell 0 rfl) (hq.cell 1 rfl)
      generalize V1.alloc (.cells #[.int .i64 (cmpT t t2), .int .i64 (cmpT x x2)] 3) = V2 at *
      clear hq
      replace hor := Lib.hid hor
      refine wpAnyH_ready (rs := [11]) (by kernel_rfl) (by simp) ?_
      refine AllReadyH.cons rfl (fun K hK => ?_) AllReadyH.nil
      clear hS
      go_simp
      refine (hor.out).mono ?_
      rintro e w' ⟨rfl, hw'⟩
      rw [hw']
      clear hw'
      go_wp2_with fail
      refine hK.out _ _ (hal) (fun hS => ?_)
      clear hK K
      try simp only [List.getElem_toArray, List.getElem_cons_succ, List.getElem_cons_zero, Act.put, List.setIfInBounds_toArray, List.set_cons_zero, List.set_cons_succ]
      refine wpAnyH_take (i := 12) (v := ?_) rfl (by kernel_rfl) (by kernel_rfl) (by kernel_rfl) (fun _ _ _ h => h) (.inl ⟨by kernel_rfl, fun w' hS => ?_⟩) hS ?_
      rotate_left
      ·
        skip
        go_simp
        try with_reducible rfl
      simp only [List.getElem_toArray, List.getElem_cons_succ, List.getElem_cons_zero, Act.put, List.setIfInBounds_toArray, List.set_cons_zero, List.set_cons_succ]
      refine wpAnyH_done (by kernel_rfl) ?_ _
      clear hS hor
      have hbe := Lib.hid hal.below
      clear hal
      go_wp2
      go_ret
      exact ⟨ret_int hR2.out, hbe.out⟩
    · have hpk : partV k b n t x s = .iface 122 (.int .i64 k) := by
        unfold partV
        rw [if_neg h0, if_neg h1, if_neg h2, if_neg h3, if_neg (by omega), if_neg h5, if_neg (by omega), if_neg h10]
      have hpt := Lib.hid (fun W => part_any k b n t x s W)
      rw [hpk] at hpt
      unfold agg6 at hpt
      have hR2 : orI (cmpT t t2) (cmpT x x2) = R := by
        rw [← hR.out]
        unfold restV isNum
        rw [decide_eq_false (by omega), if_neg (by decide), if_neg h5, if_neg (by omega), if_neg h1]
      replace hR2 := Lib.hid hR2
      clear hpk h0 h1 h2 h3 h4 h5 h6 h7 h8 h9 h10 hR hcc
      go_wp2_with fail
      refine (hpt.out _).mono ?_
      rintro e w3 ⟨rfl, hb3⟩
      clear hpt x0 x1 x2c x3 x4 x5 y0 y1 y2 y3 y4 y5 l0
      have c3 := cv.on hb3
      clear hb3 cv
      obtain ⟨l0, x0, x1, x2c, x3, x4, x5, y0, y1, y2, y3, y4, y5⟩ := c3.cells
      replace c3 := Lib.hid c3
      have tb0 := tb_8_0
      have tb1 := tb_8_1
      have tb2 := tb_8_2
      have tb3 := tb_8_3
      have tb4 := tb_8_4
      have tb5 := tb_8_5
      have tb6 := tb_8_6
      have tb7 := tb_8_7
      have tb8 := tb_8_8
      go_upto_region 22 with fail
      clear tb0 tb1 tb2 tb3 tb4 tb5 tb6 tb7 tb8
      clear x0 x1 x2c x3 x4 x5 y0 y1 y2 y3 y4 y5 l0
      have c4 := c3.out.on (below_drew _)
      clear c3
      refine wp_region_held_drew (S := fun V => B3 w V lang #[.int .i64 k, .bool b, .int .i64 n, .string t, .string x, s] #[.int .i64 k2, .bool bb, .int .i64 n2, .string t2, .string x2, s2]) (by kernel_rfl) c4 (fun hS => ?_)
      have hV := c4
      clear c4
      generalize w3.drew = V1 at *
      refine wpAnyH_take (i := 0) (v := ?_) rfl (by kernel_rfl) (by kernel_rfl) (by kernel_rfl) (fun _ _ _ h => h) (.inl ⟨by kernel_rfl, fun w' hS => ?_⟩) hS ?_
      rotate_left
      ·
        obtain ⟨l0, x0, x1, x2c, x3, x4, x5, y0, y1, y2, y3, y4, y5⟩ := hS.cells
        go_simp
        try with_reducible rfl
      simp only [List.getElem_toArray, List.getElem_cons_succ, List.getElem_cons_zero, Act.put, List.setIfInBounds_toArray, List.set_cons_zero, List.set_cons_succ]
      refine wpAnyH_take (i := 1) (v := ?_) rfl (by kernel_rfl) (by kernel_rfl) (by kernel_rfl) (fun _ _ _ h => h) (.inl ⟨by kernel_rfl, fun w' hS => ?_⟩) hS ?_
      rotate_left
      ·
        obtain ⟨l0, x0, x1, x2c, x3, x4, x5, y0, y1, y2, y3, y4, y5⟩ := hS.cells
        go_simp
        try with_reducible rfl
      simp only [List.getElem_toArray, List.getElem_cons_succ, List.getElem_cons_zero, Act.put, List.setIfInBounds_toArray, List.set_cons_zero, List.set_cons_succ]
      refine wpAnyH_take (i := 2) (v := ?_) rfl (by kernel_rfl) (by kernel_rfl) (by kernel_rfl) (fun _ _ _ h => h) (.inl ⟨by kernel_rfl, fun w' hS => ?_⟩) hS ?_
      rotate_left
      ·
        obtain ⟨l0, x0, x1, x2c, x3, x4, x5, y0, y1, y2, y3, y4, y5⟩ := hS.cells
        go_simp
        try with_reducible rfl
      simp only [List.getElem_toArray, List.getElem_cons_succ, List.getElem_cons_zero, Act.put, List.setIfInBounds_toArray, List.set_cons_zero, List.set_cons_succ]
      refine wpAnyH_take (i := 3) (v := ?_) rfl (by kernel_rfl) (by kernel_rfl) (by kernel_rfl) (fun _ _ _ h => h) (.inl ⟨by kernel_rfl, fun w' hS => ?_⟩) hS ?_
      rotate_left
      ·
        obtain ⟨l0, x0, x1, x2c, x3, x4, x5, y0, y1, y2, y3, y4, y5⟩ := hS.cells
        go_simp
        try with_reducible rfl
      simp only [List.getElem_toArray, List.getElem_cons_succ, List.getElem_cons_zero, Act.put, List.setIfInBounds_toArray, List.set_cons_zero, List.set_cons_succ]
      refine wpAnyH_take (i := 5) (v := ?_) rfl (by kernel_rfl) (by kernel_rfl) (by kernel_rfl) (fun _ _ _ h => h) (.inl ⟨by kernel_rfl, fun w' hS => ?_⟩) hS ?_
      rotate_left
      ·
        obtain ⟨l0, x0, x1, x2c, x3, x4, x5, y0, y1, y2, y3, y4, y5⟩ := hS.cells
        go_simp
        try with_reducible rfl
      simp only [List.getElem_toArray, List.getElem_cons_succ, List.getElem_cons_zero, Act.put, List.setIfInBounds_toArray, List.set_cons_zero, List.set_cons_succ]
      refine wpAnyH_take (i := 6) (v := ?_) rfl (by kernel_rfl) (by kernel_rfl) (by kernel_rfl) (fun _ _ _ h => h) (.inl ⟨by kernel_rfl, fun w' hS => ?_⟩) hS ?_
      rotate_left
      ·
        obtain ⟨l0, x0, x1, x2c, x3, x4, x5, y0, y1, y2, y3, y4, y5⟩ := hS.cells
        go_simp
        try with_reducible rfl
      simp only [List.getElem_toArray, List.getElem_cons_succ, List.getElem_cons_zero, Act.put, List.setIfInBounds_toArray, List.set_cons_zero, List.set_cons_succ]
      refine wpAnyH_take (i := 7) (v := ?_) rfl (by kernel_rfl) (by kernel_rfl) (by kernel_rfl) (fun _ _ _ h => h) (.inl ⟨by kernel_rfl, fun w' hS => ?_⟩) hS ?_
      rotate_left
      ·
        obtain ⟨l0, x0, x1, x2c, x3, x4, x5, y0, y1, y2, y3, y4, y5⟩ := hS.cells
        go_simp
        try with_reducible rfl
      simp only [List.getElem_toArray, List.getElem_cons_succ, List.getElem_cons_zero, Act.put, List.setIfInBounds_toArray, List.set_cons_zero, List.set_cons_succ]
      refine wpAnyH_take (i := 8) (v := ?_) rfl (by kernel_rfl) (by kernel_rfl) (by kernel_rfl) (fun _ _ _ h => h) (.inl ⟨by kernel_rfl, fun w' hS => ?_⟩) hS ?_
      rotate_left
      ·
        obtain ⟨l0, x0, x1, x2c, x3, x4, x5, y0, y1, y2, y3, y4, y5⟩ := hS.cells
        go_simp
        try with_reducible rfl
      simp only [List.getElem_toArray, List.getElem_cons_succ, List.getElem_cons_zero, Act.put, List.setIfInBounds_toArray, List.set_cons_zero, List.set_cons_succ]
      refine wpAnyH_ready (rs := [4]) (by kernel_rfl) (by simp) ?_
      refine AllReadyH.cons rfl (fun K hK => ?_) AllReadyH.nil
      clear hS
      go_simp
      refine (cmpStr_any _ _ _).mono ?_
      rintro e w' ⟨rfl, hw'⟩
      rw [hw']
      clear hw'
      go_wp2_with fail
      refine hK.out _ _ (hV) (fun hS => ?_)
      clear hK K
      try simp only [List.getElem_toArray, List.getElem_cons_succ, List.getElem_cons_zero, Act.put, List.setIfInBounds_toArray, List.set_cons_zero, List.set_cons_succ]
      refine wpAnyH_ready (rs := [9]) (by kernel_rfl) (by simp) ?_
      refine AllReadyH.cons rfl (fun K hK => ?_) AllReadyH.nil
      clear hS
      go_simp
      refine (cmpStr_any _ _ _).mono ?_
      rintro e w' ⟨rfl, hw'⟩
      rw [hw']
      clear hw'
      go_wp2_with fail
      refine hK.out _ _ (hV) (fun hS => ?_)
      clear hK K
      try simp only [List.getElem_toArray, List.getElem_cons_succ, List.getElem_cons_zero, Act.put, List.setIfInBounds_toArray, List.set_cons_zero, List.set_cons_succ]
      refine wpAnyH_ready (rs := [10]) (by kernel_rfl) (by simp) ?_
      refine AllReadyH.cons rfl (fun K hK => ?_) AllReadyH.nil
      clear hS
      go_simp
      go_wp2_with fail
      have hal := hV.on ((Below.refl _ _).alloc (Nat.le_refl _) _ : Below V1.heap.size V1 (V1.alloc (.cells #[.int .i64 (cmpT t t2), .int .i64 (cmpT x x2)] 3)))
      have hq : Blk (V1.alloc (.cells #[.int .i64 (cmpT t t2), .int .i64 (cmpT x x2)] 3)) V1.heap.size #[.int .i64 (cmpT t t2), .int .i64 (cmpT x x2)] 3 := Blk.new _ _ _
      refine hK.out _ _ hal (fun hS => ?_)
      clear hK K hV
      try simp only [List.getElem_toArray, List.getElem_cons_succ, List.getElem_cons_zero, Act.put, List.setIfInBounds_toArray, List.set_cons_zero, List.set_cons_succ]
      have hor := or_any V1.heap.size _ _ _ (hq.cell 0 rfl) (hq.cell 1 rfl)
      generalize V1.alloc (.cells #[.int .i64 (cmpT t t2), .int .i64 (cmpT x x2)] 3) = V2 at *
      clear hq
      replace hor := Lib.hid hor
      refine wpAnyH_ready (rs := [11]) (by kernel_rfl) (by simp) ?_
      refine AllReadyH.cons rfl (fun K hK => ?_) AllReadyH.nil
      clear hS
      go_simp
      refine (hor.out).mono ?_
      rintro e w' ⟨rfl, hw'⟩
      rw [hw']
      clear hw'
      go_wp2_with fail
      refine hK.out _ _ (hal) (fun hS => ?_)
      clear hK K
      try simp only [List.getElem_toArray, List.getElem_cons_succ, List.getElem_cons_zero, Act.put, List.setIfInBounds_toArray, List.set_cons_zero, List.set_cons_succ]
      refine wpAnyH_take (i := 12) (v := ?_) rfl (by kernel_rfl) (by kernel_rfl) (by kernel_rfl) (fun _ _ _ h => h) (.inl ⟨by kernel_rfl, fun w' hS => ?_⟩) hS ?_
      rotate_left
      ·
        skip
        go_simp
        try with_reducible rfl
      simp only [List.getElem_toArray, List.getElem_cons_succ, List.getElem_cons_zero, Act.put, List.setIfInBounds_toArray, List.set_cons_zero, List.set_cons_succ]
      refine wpAnyH_done (by kernel_rfl) ?_ _
      clear hS hor
      have hbe := Lib.hid hal.below
      clear hal
      go_wp2
      go_ret
      exact ⟨ret_int hR2.out, hbe.out⟩
end Go.Proofs.YthecgifgjagmaaaGreatDoor.val
