/- Contract of compare: that it answers. -/
import Derived.Test.YtjncjcellpbhcaaGreatDoorValNum
import Derived.Deep.RegionHeld3
namespace Go.Proofs.YtjncjcellpbhcaaGreatDoor.val
open Go.ChangeShapes Go.WideShapes Go.ChangeAt Go.RowKit kit dec
set_option linter.unusedVariables false
set_option linter.unusedSimpArgs false
/-- The cells of a value. -/
def c6 (k : Int) (b : Bool) (n : Int) (t x : ByteArray) (s : Value) : Array Value := #[.int .i64 k, .bool b, .int .i64 n, .string t, .string x, s]
/-- Two boxes. -/
structure B2 (w W : World) (c d : Array Value) : Prop where
  below : Below w.heap.size w W
  b0 : Blk W w.heap.size c 26
  b1 : Blk W (w.heap.size + 1) d 26
theorem B2.made (w : World) (c d : Array Value) : B2 w ((w.alloc (.cells c 26)).alloc (.cells d 26)) c d := by
  refine ⟨(((Keep.refl [] w).alloc _).alloc _).below, (Blk.new _ _ _).alloc _, ?_⟩
  have := Blk.new (w.alloc (.cells c 26)) d 26
  rwa [World.size_alloc] at this
theorem B2.on {w W W' : World} {c d : Array Value} (h : B2 w W c d) (hb : Below W.heap.size W W') : B2 w W' c d := ⟨h.below.trans (hb.mono h.below.size), h.b0.keep (Keep.ofBelow hb) (by simp), h.b1.keep (Keep.ofBelow hb) (by simp)⟩
set_option maxRecDepth 100000 in
theorem compare_any (k : Int) (b : Bool) (n : Int) (hn : In64 n) (t x : ByteArray) (s : Value) (k2 : Int) (bb : Bool) (n2 : Int) (hn2 : In64 n2) (t2 x2 : ByteArray) (s2 : Value) (w : World) (hE : Env w) :
    Calls Tryz.prog 83 #[agg6 k b n t x s, agg6 k2 bb n2 t2 x2 s2] w fun e w' => ∃ r : Int, e = .returned (.int .i64 r) ∧ Below w.heap.size w w' := by
  have h2 := B2.made w (c6 k b n t x s) (c6 k2 bb n2 t2 x2 s2)
  have hex := fun W hE => exact_any k b n hn t x s W hE
  have hex2 := fun W hE => exact_any k2 bb n2 hn2 t2 x2 s2 W hE
  unfold agg6 at hex hex2 ⊢
  unfold c6 at h2
  replace hex := Lib.hid hex
  replace hex2 := Lib.hid hex2
  replace hE := Lib.hid hE
  by_cases hkk : k = 2 ∧ k2 = 2
  · obtain ⟨rfl, rfl⟩ := hkk
    go_enter Tryz.func83, Tryz.ntmps83
    go_wp2_with (go_at_call 110; refine (cmp64_any _ _ _).mono ?_; rintro e w' ⟨rfl, rfl⟩)
    go_ret
    exact ⟨_, rfl, h2.below⟩
  · obtain ⟨q, hq⟩ : ∃ q : Bool, (k == 2) = q := ⟨_, rfl⟩
    obtain ⟨q2, hq2⟩ : ∃ q : Bool, (k2 == 2) = q := ⟨_, rfl⟩
    have hqq : (q && q2) = false := by
      rw [← hq, ← hq2]
      apply Bool.eq_false_iff.2
      intro h
      rw [Bool.and_eq_true, beq_iff_eq, beq_iff_eq] at h
      exact hkk h
    clear hkk
    go_enter Tryz.func83, Tryz.ntmps83
    cases q
    · clear hqq
      go_upto_region 3 with fail
      generalize (w.alloc (.cells #[.int .i64 k, .bool b, .int .i64 n, .string t, .string x, s] 26)).alloc (.cells #[.int .i64 k2, .bool bb, .int .i64 n2, .string t2, .string x2, s2] 26) = W at *
      have hd := h2.on (below_drewN (Below.refl _ _) 1)
      have hS0 : B2 w W.drew _ _ := hd
      refine wp_region_held_drew (S := fun V => B2 w V #[.int .i64 k, .bool b, .int .i64 n, .string t, .string x, s] #[.int .i64 k2, .bool bb, .int .i64 n2, .string t2, .string x2, s2]) (by kernel_rfl) hS0 (fun hS => ?_)
      clear hS0 hd h2
      generalize W.drew = V0 at *
      have hV := hS
      refine wpAnyH_take (i := 0) (v := .agg #[.int .i64 k, .bool b, .int .i64 n, .string t, .string x, s]) rfl (by kernel_rfl) (by kernel_rfl) (by kernel_rfl) (fun _ _ _ h => h) (.inl ⟨by kernel_rfl, fun w' hS => by have x0 := hS.b0.cell 0 rfl; have x1 := hS.b0.cell 1 rfl; have x2 := hS.b0.cell 2 rfl; have x3 := hS.b0.cell 3 rfl; have x4 := hS.b0.cell 4 rfl; have x5 := hS.b0.cell 5 rfl; go_simp; try exact ⟨rfl, rfl, rfl⟩⟩) hS ?_; simp only [List.getElem_toArray, List.getElem_cons_succ, List.getElem_cons_zero, Act.put, List.setIfInBounds_toArray, List.set_cons_zero, List.set_cons_succ]
      refine wpAnyH_take (i := 2) (v := .agg #[.int .i64 k2, .bool bb, .int .i64 n2, .string t2, .string x2, s2]) rfl (by kernel_rfl) (by kernel_rfl) (by kernel_rfl) (fun _ _ _ h => h) (.inl ⟨by kernel_rfl, fun w' hS => by have x0 := hS.b1.cell 0 rfl; have x1 := hS.b1.cell 1 rfl; have x2 := hS.b1.cell 2 rfl; have x3 := hS.b1.cell 3 rfl; have x4 := hS.b1.cell 4 rfl; have x5 := hS.b1.cell 5 rfl; go_simp; try exact ⟨rfl, rfl, rfl⟩⟩) hS ?_; simp only [List.getElem_toArray, List.getElem_cons_succ, List.getElem_cons_zero, Act.put, List.setIfInBounds_toArray, List.set_cons_zero, List.set_cons_succ]
      refine wpAnyH_ready (rs := [1]) (by kernel_rfl) (by simp) ?_
      refine AllReadyH.cons rfl (fun K hK => ?_) AllReadyH.nil
      clear hS
      go_simp
      refine (hex.out _ (hE.out.below hV.below)).mono ?_
      rintro e w5 ⟨u5, rfl, hb5⟩
      go_wp2_with fail
      refine hK.out _ _ (hV.on hb5) (fun hS => ?_)
      clear hK K
      try simp only [List.getElem_toArray, List.getElem_cons_succ, List.getElem_cons_zero, Act.put, List.setIfInBounds_toArray, List.set_cons_zero, List.set_cons_succ]
      have hV5 := hV.on hb5
      refine wpAnyH_ready (rs := [3]) (by kernel_rfl) (by simp) ?_
      refine AllReadyH.cons rfl (fun K hK => ?_) AllReadyH.nil
      clear hS
      go_simp
      refine (hex2.out _ (hE.out.below hV5.below)).mono ?_
      rintro e w6 ⟨u6, rfl, hb6⟩
      go_wp2_with fail
      refine hK.out _ _ (hV5.on hb6) (fun hS => ?_)
      clear hK K
      try simp only [List.getElem_toArray, List.getElem_cons_succ, List.getElem_cons_zero, Act.put, List.setIfInBounds_toArray, List.set_cons_zero, List.set_cons_succ]
      have hV6 := hV5.on hb6
      refine wpAnyH_ready (rs := [4]) (by kernel_rfl) (by simp) ?_
      refine AllReadyH.cons rfl (fun K hK => ?_) AllReadyH.nil
      clear hS
      go_simp
      refine (cmp_call u5 u6 _ (hE.out.below hV6.below)).mono ?_
      rintro e w7 ⟨rfl, hb7⟩
      go_wp2_with fail
      refine hK.out _ _ (hV6.on hb7) (fun hS => ?_)
      clear hK K
      try simp only [List.getElem_toArray, List.getElem_cons_succ, List.getElem_cons_zero, Act.put, List.setIfInBounds_toArray, List.set_cons_zero, List.set_cons_succ]
      have hV7 := hV6.on hb7
      generalize cmpR u5.data.toList u6.data.toList = r at *
      refine wpAnyH_take (i := 5) (v := .int .i64 r) rfl (by kernel_rfl) (by kernel_rfl) (by kernel_rfl) (fun _ _ _ h => h) (.inl ⟨by kernel_rfl, fun _ _ => by kernel_rfl⟩) hS ?_; simp only [List.getElem_toArray, List.getElem_cons_succ, List.getElem_cons_zero, Act.put, List.setIfInBounds_toArray, List.set_cons_zero, List.set_cons_succ]
      refine wpAnyH_done (by kernel_rfl) ?_ _
      go_wp2_with fail
      go_ret
      exact ⟨_, rfl, hV7.below⟩
    · obtain rfl : q2 = false := by simpa using hqq
      go_upto_region 3 with fail
      generalize (w.alloc (.cells #[.int .i64 k, .bool b, .int .i64 n, .string t, .string x, s] 26)).alloc (.cells #[.int .i64 k2, .bool bb, .int .i64 n2, .string t2, .string x2, s2] 26) = W at *
      have hd := h2.on (below_drewN (Below.refl _ _) 1)
      have hS0 : B2 w W.drew _ _ := hd
      refine wp_region_held_drew (S := fun V => B2 w V #[.int .i64 k, .bool b, .int .i64 n, .string t, .string x, s] #[.int .i64 k2, .bool bb, .int .i64 n2, .string t2, .string x2, s2]) (by kernel_rfl) hS0 (fun hS => ?_)
      clear hS0 hd h2
      generalize W.drew = V0 at *
      have hV := hS
      refine wpAnyH_take (i := 0) (v := .agg #[.int .i64 k, .bool b, .int .i64 n, .string t, .string x, s]) rfl (by kernel_rfl) (by kernel_rfl) (by kernel_rfl) (fun _ _ _ h => h) (.inl ⟨by kernel_rfl, fun w' hS => by have x0 := hS.b0.cell 0 rfl; have x1 := hS.b0.cell 1 rfl; have x2 := hS.b0.cell 2 rfl; have x3 := hS.b0.cell 3 rfl; have x4 := hS.b0.cell 4 rfl; have x5 := hS.b0.cell 5 rfl; go_simp; try exact ⟨rfl, rfl, rfl⟩⟩) hS ?_; simp only [List.getElem_toArray, List.getElem_cons_succ, List.getElem_cons_zero, Act.put, List.setIfInBounds_toArray, List.set_cons_zero, List.set_cons_succ]
      refine wpAnyH_take (i := 2) (v := .agg #[.int .i64 k2, .bool bb, .int .i64 n2, .string t2, .string x2, s2]) rfl (by kernel_rfl) (by kernel_rfl) (by kernel_rfl) (fun _ _ _ h => h) (.inl ⟨by kernel_rfl, fun w' hS => by have x0 := hS.b1.cell 0 rfl; have x1 := hS.b1.cell 1 rfl; have x2 := hS.b1.cell 2 rfl; have x3 := hS.b1.cell 3 rfl; have x4 := hS.b1.cell 4 rfl; have x5 := hS.b1.cell 5 rfl; go_simp; try exact ⟨rfl, rfl, rfl⟩⟩) hS ?_; simp only [List.getElem_toArray, List.getElem_cons_succ, List.getElem_cons_zero, Act.put, List.setIfInBounds_toArray, List.set_cons_zero, List.set_cons_succ]
      refine wpAnyH_ready (rs := [1]) (by kernel_rfl) (by simp) ?_
      refine AllReadyH.cons rfl (fun K hK => ?_) AllReadyH.nil
      clear hS
      go_simp
      refine (hex.out _ (hE.out.below hV.below)).mono ?_
      rintro e w5 ⟨u5, rfl, hb5⟩
      go_wp2_with fail
      refine hK.out _ _ (hV.on hb5) (fun hS => ?_)
      clear hK K
      try simp only [List.getElem_toArray, List.getElem_cons_succ, List.getElem_cons_zero, Act.put, List.setIfInBounds_toArray, List.set_cons_zero, List.set_cons_succ]
      have hV5 := hV.on hb5
      refine wpAnyH_ready (rs := [3]) (by kernel_rfl) (by simp) ?_
      refine AllReadyH.cons rfl (fun K hK => ?_) AllReadyH.nil
      clear hS
      go_simp
      refine (hex2.out _ (hE.out.below hV5.below)).mono ?_
      rintro e w6 ⟨u6, rfl, hb6⟩
      go_wp2_with fail
      refine hK.out _ _ (hV5.on hb6) (fun hS => ?_)
      clear hK K
      try simp only [List.getElem_toArray, List.getElem_cons_succ, List.getElem_cons_zero, Act.put, List.setIfInBounds_toArray, List.set_cons_zero, List.set_cons_succ]
      have hV6 := hV5.on hb6
      refine wpAnyH_ready (rs := [4]) (by kernel_rfl) (by simp) ?_
      refine AllReadyH.cons rfl (fun K hK => ?_) AllReadyH.nil
      clear hS
      go_simp
      refine (cmp_call u5 u6 _ (hE.out.below hV6.below)).mono ?_
      rintro e w7 ⟨rfl, hb7⟩
      go_wp2_with fail
      refine hK.out _ _ (hV6.on hb7) (fun hS => ?_)
      clear hK K
      try simp only [List.getElem_toArray, List.getElem_cons_succ, List.getElem_cons_zero, Act.put, List.setIfInBounds_toArray, List.set_cons_zero, List.set_cons_succ]
      have hV7 := hV6.on hb7
      generalize cmpR u5.data.toList u6.data.toList = r at *
      refine wpAnyH_take (i := 5) (v := .int .i64 r) rfl (by kernel_rfl) (by kernel_rfl) (by kernel_rfl) (fun _ _ _ h => h) (.inl ⟨by kernel_rfl, fun _ _ => by kernel_rfl⟩) hS ?_; simp only [List.getElem_toArray, List.getElem_cons_succ, List.getElem_cons_zero, Act.put, List.setIfInBounds_toArray, List.set_cons_zero, List.set_cons_succ]
      refine wpAnyH_done (by kernel_rfl) ?_ _
      go_wp2_with fail
      go_ret
      exact ⟨_, rfl, hV7.below⟩
end Go.Proofs.YtjncjcellpbhcaaGreatDoor.val
