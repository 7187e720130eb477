/- The reference: EqTexts, EqInts of what is the same; the law's same. -/
import Derived.Test.YtnocncmjdhlmkaaHRef1
namespace Go.Proofs.Ytnocncmjdhlmkaa.hyp
open Go.ChangeShapes Go.WideShapes Go.ChangeAt Go.RowKit kit
set_option linter.unusedVariables false
set_option linter.unusedSimpArgs false
set_option maxRecDepth 100000 in
set_option maxHeartbeats 4000000 in
theorem eqT_same (w : World) (u v : Value) (l : List ByteArray) (h1 : TextsA w w.heap.size u l) (h2 : TextsA w w.heap.size v l) (hl : l.length ≤ 1048576) :
    Calls Try.prog 14 #[u, v] w fun e w' => e = .returned (.bool true) ∧ Below w.heap.size w w' := by
  obtain ⟨a, c, rfl, hc⟩ := h1.form
  obtain ⟨a2, c2, rfl, hc2⟩ := h2.form
  replace hc := Lib.hid hc
  replace hc2 := Lib.hid hc2
  clear h1 h2
  go_enter Try.func14, Try.ntmps14
  go_wp2
  go_loopw [5] (fun i wr => ∃ k : Nat, k ≤ l.length ∧ i = .int .i64 (k : Int) ∧ Hid (Below w.heap.size w wr)) (fun i _ => l.length - (intOf i).toNat)
  case atStart => exact ⟨0, by omega, rfl, Lib.hid (Below.refl _ _)⟩
  case round =>
    obtain ⟨k, hk, rfl, hb⟩ := hrel
    by_cases hlt : k < l.length
    · have hki : (k : Int) < (l.length : Int) := by omega
      have hk1 := Lib.hid (show k + 1 ≤ l.length from hlt)
      obtain ⟨b, off, rfl, -, x0⟩ := hc.out k hlt
      obtain ⟨b2, off2, rfl, -, x1⟩ := hc2.out k hlt
      have hbd : Hid (Below w.heap.size w wr.drew) := Lib.hid (hb.out.trans ⟨rfl, rfl, rfl, Nat.le_refl _, fun _ _ => rfl⟩)
      generalize l[k] = t at *
      clear hb
      go_wp2_with fail
      refine wp_region_held_drew (S := fun V => Below w.heap.size w V) (by kernel_rfl) hbd.out (fun hS => ?_)
      generalize wr.drew = V0 at *
      refine wpAnyH_take (i := 0) (v := ?_) rfl (by kernel_rfl) (by kernel_rfl) (by kernel_rfl) (fun _ _ _ h => h) (.inl ⟨by kernel_rfl, fun w' hS => ?_⟩) hS ?_
      rotate_left
      ·
        have q0 := (stay_of_below hS).cell x0; have q1 := (stay_of_below hS).cell x1
        go_simp
        try with_reducible rfl
      simp only [List.getElem_toArray, List.getElem_cons_succ, List.getElem_cons_zero, Act.put, List.setIfInBounds_toArray, List.set_cons_zero, List.set_cons_succ]
      refine wpAnyH_take (i := 1) (v := ?_) rfl (by kernel_rfl) (by kernel_rfl) (by kernel_rfl) (fun _ _ _ h => h) (.inl ⟨by kernel_rfl, fun w' hS => ?_⟩) hS ?_
      rotate_left
      ·
        have q0 := (stay_of_below hS).cell x0; have q1 := (stay_of_below hS).cell x1
        go_simp
        try with_reducible rfl
      simp only [List.getElem_toArray, List.getElem_cons_succ, List.getElem_cons_zero, Act.put, List.setIfInBounds_toArray, List.set_cons_zero, List.set_cons_succ]
      refine wpAnyH_take (i := 2) (v := ?_) rfl (by kernel_rfl) (by kernel_rfl) (by kernel_rfl) (fun _ _ _ h => h) (.inl ⟨by kernel_rfl, fun w' hS => ?_⟩) hS ?_
      rotate_left
      ·
        have q0 := (stay_of_below hS).cell x0; have q1 := (stay_of_below hS).cell x1
        go_simp
        try with_reducible rfl
      simp only [List.getElem_toArray, List.getElem_cons_succ, List.getElem_cons_zero, Act.put, List.setIfInBounds_toArray, List.set_cons_zero, List.set_cons_succ]
      refine wpAnyH_take (i := 3) (v := ?_) rfl (by kernel_rfl) (by kernel_rfl) (by kernel_rfl) (fun _ _ _ h => h) (.inl ⟨by kernel_rfl, fun w' hS => ?_⟩) hS ?_
      rotate_left
      ·
        have q0 := (stay_of_below hS).cell x0; have q1 := (stay_of_below hS).cell x1
        go_simp
        try with_reducible rfl
      simp only [List.getElem_toArray, List.getElem_cons_succ, List.getElem_cons_zero, Act.put, List.setIfInBounds_toArray, List.set_cons_zero, List.set_cons_succ]
      refine wpAnyH_take (i := 4) (v := ?_) rfl (by kernel_rfl) (by kernel_rfl) (by kernel_rfl) (fun _ _ _ h => h) (.inl ⟨by kernel_rfl, fun w' hS => ?_⟩) hS ?_
      rotate_left
      ·
        have q0 := (stay_of_below hS).cell x0; have q1 := (stay_of_below hS).cell x1
        go_simp
        try with_reducible rfl
      simp only [List.getElem_toArray, List.getElem_cons_succ, List.getElem_cons_zero, Act.put, List.setIfInBounds_toArray, List.set_cons_zero, List.set_cons_succ]
      refine wpAnyH_take (i := 5) (v := ?_) rfl (by kernel_rfl) (by kernel_rfl) (by kernel_rfl) (fun _ _ _ h => h) (.inl ⟨by kernel_rfl, fun w' hS => ?_⟩) hS ?_
      rotate_left
      ·
        have q0 := (stay_of_below hS).cell x0; have q1 := (stay_of_below hS).cell x1
        go_simp
        try with_reducible rfl
      simp only [List.getElem_toArray, List.getElem_cons_succ, List.getElem_cons_zero, Act.put, List.setIfInBounds_toArray, List.set_cons_zero, List.set_cons_succ]
      refine wpAnyH_take (i := 6) (v := ?_) rfl (by kernel_rfl) (by kernel_rfl) (by kernel_rfl) (fun _ _ _ h => h) (.inl ⟨by kernel_rfl, fun w' hS => ?_⟩) hS ?_
      rotate_left
      ·
        have q0 := (stay_of_below hS).cell x0; have q1 := (stay_of_below hS).cell x1
        go_simp
        try with_reducible rfl
      simp only [List.getElem_toArray, List.getElem_cons_succ, List.getElem_cons_zero, Act.put, List.setIfInBounds_toArray, List.set_cons_zero, List.set_cons_succ]
      refine wpAnyH_take (i := 7) (v := ?_) rfl (by kernel_rfl) (by kernel_rfl) (by kernel_rfl) (fun _ _ _ h => h) (.inl ⟨by kernel_rfl, fun w' hS => ?_⟩) hS ?_
      rotate_left
      ·
        have q0 := (stay_of_below hS).cell x0; have q1 := (stay_of_below hS).cell x1
        go_simp
        try with_reducible rfl
      simp only [List.getElem_toArray, List.getElem_cons_succ, List.getElem_cons_zero, Act.put, List.setIfInBounds_toArray, List.set_cons_zero, List.set_cons_succ]
      refine wpAnyH_take (i := 8) (v := ?_) rfl (by kernel_rfl) (by kernel_rfl) (by kernel_rfl) (fun _ _ _ h => h) (.inl ⟨by kernel_rfl, fun w' hS => ?_⟩) hS ?_
      rotate_left
      ·
        have q0 := (stay_of_below hS).cell x0; have q1 := (stay_of_below hS).cell x1
        go_simp
        try with_reducible rfl
      simp only [List.getElem_toArray, List.getElem_cons_succ, List.getElem_cons_zero, Act.put, List.setIfInBounds_toArray, List.set_cons_zero, List.set_cons_succ]
      refine wpAnyH_done (by kernel_rfl) ?_ _
      clear hS
      go_wp2
      go_roundw
      case rel => exact ⟨k + 1, hk1.out, by go_num, hbd⟩
      case measure => have := hk1.out; simp [intOf]; omega
    · have hki : ¬ (k : Int) < (l.length : Int) := by omega
      go_wp2
      go_ret
      exact ⟨rfl, hb.out⟩
set_option maxRecDepth 100000 in
set_option maxHeartbeats 4000000 in
theorem eqI_same (w : World) (u v : Value) (l : List Int) (h1 : RowA w w.heap.size u (numsV l)) (h2 : RowA w w.heap.size v (numsV l)) (hl : l.length ≤ 1048576) :
    Calls Try.prog 48 #[u, v] w fun e w' => e = .returned (.bool true) ∧ Below w.heap.size w w' := by
  obtain ⟨a, c, rfl, -, hc⟩ := h1.form
  obtain ⟨a2, c2, rfl, -, hc2⟩ := h2.form
  replace hc := Lib.hid hc
  replace hc2 := Lib.hid hc2
  rw [numsV_length]
  clear h1 h2
  go_enter Try.func48, Try.ntmps48
  go_wp2
  go_loopw [5] (fun i wr => ∃ k : Nat, k ≤ l.length ∧ i = .int .i64 (k : Int) ∧ Hid (Below w.heap.size w wr)) (fun i _ => l.length - (intOf i).toNat)
  case atStart => exact ⟨0, by omega, rfl, Lib.hid (Below.refl _ _)⟩
  case round =>
    obtain ⟨k, hk, rfl, hb⟩ := hrel
    by_cases hlt : k < l.length
    · have hki : (k : Int) < (l.length : Int) := by omega
      have hk1 := Lib.hid (show k + 1 ≤ l.length from hlt)
      obtain ⟨b, off, rfl, -, x0⟩ := hc.out k (by rw [numsV_length]; exact hlt)
      obtain ⟨b2, off2, rfl, -, x1⟩ := hc2.out k (by rw [numsV_length]; exact hlt)
      have e0 : (numsV l)[k]'(by rw [numsV_length]; exact hlt) = .int .i64 l[k] := by unfold numsV; rw [List.getElem_map]; rfl
      rw [e0] at x0 x1
      have hbd : Hid (Below w.heap.size w wr.drew) := Lib.hid (hb.out.trans ⟨rfl, rfl, rfl, Nat.le_refl _, fun _ _ => rfl⟩)
      replace e0 := Lib.hid e0
      generalize l[k] = t at *
      clear hb e0
      go_wp2_with fail
      refine wp_region_held_drew (S := fun V => Below w.heap.size w V) (by kernel_rfl) hbd.out (fun hS => ?_)
      generalize wr.drew = V0 at *
      refine wpAnyH_take (i := 0) (v := ?_) rfl (by kernel_rfl) (by kernel_rfl) (by kernel_rfl) (fun _ _ _ h => h) (.inl ⟨by kernel_rfl, fun w' hS => ?_⟩) hS ?_
      rotate_left
      ·
        have q0 := (stay_of_below hS).cell x0; have q1 := (stay_of_below hS).cell x1
        go_simp
        try with_reducible rfl
      simp only [List.getElem_toArray, List.getElem_cons_succ, List.getElem_cons_zero, Act.put, List.setIfInBounds_toArray, List.set_cons_zero, List.set_cons_succ]
      refine wpAnyH_take (i := 1) (v := ?_) rfl (by kernel_rfl) (by kernel_rfl) (by kernel_rfl) (fun _ _ _ h => h) (.inl ⟨by kernel_rfl, fun w' hS => ?_⟩) hS ?_
      rotate_left
      ·
        have q0 := (stay_of_below hS).cell x0; have q1 := (stay_of_below hS).cell x1
        go_simp
        try with_reducible rfl
      simp only [List.getElem_toArray, List.getElem_cons_succ, List.getElem_cons_zero, Act.put, List.setIfInBounds_toArray, List.set_cons_zero, List.set_cons_succ]
      refine wpAnyH_take (i := 2) (v := ?_) rfl (by kernel_rfl) (by kernel_rfl) (by kernel_rfl) (fun _ _ _ h => h) (.inl ⟨by kernel_rfl, fun w' hS => ?_⟩) hS ?_
      rotate_left
      ·
        have q0 := (stay_of_below hS).cell x0; have q1 := (stay_of_below hS).cell x1
        go_simp
        try with_reducible rfl
      simp only [List.getElem_toArray, List.getElem_cons_succ, List.getElem_cons_zero, Act.put, List.setIfInBounds_toArray, List.set_cons_zero, List.set_cons_succ]
      refine wpAnyH_take (i := 3) (v := ?_) rfl (by kernel_rfl) (by kernel_rfl) (by kernel_rfl) (fun _ _ _ h => h) (.inl ⟨by kernel_rfl, fun w' hS => ?_⟩) hS ?_
      rotate_left
      ·
        have q0 := (stay_of_below hS).cell x0; have q1 := (stay_of_below hS).cell x1
        go_simp
        try with_reducible rfl
      simp only [List.getElem_toArray, List.getElem_cons_succ, List.getElem_cons_zero, Act.put, List.setIfInBounds_toArray, List.set_cons_zero, List.set_cons_succ]
      refine wpAnyH_take (i := 4) (v := ?_) rfl (by kernel_rfl) (by kernel_rfl) (by kernel_rfl) (fun _ _ _ h => h) (.inl ⟨by kernel_rfl, fun w' hS => ?_⟩) hS ?_
      rotate_left
      ·
        have q0 := (stay_of_below hS).cell x0; have q1 := (stay_of_below hS).cell x1
        go_simp
        try with_reducible rfl
      simp only [List.getElem_toArray, List.getElem_cons_succ, List.getElem_cons_zero, Act.put, List.setIfInBounds_toArray, List.set_cons_zero, List.set_cons_succ]
      refine wpAnyH_take (i := 5) (v := ?_) rfl (by kernel_rfl) (by kernel_rfl) (by kernel_rfl) (fun _ _ _ h => h) (.inl ⟨by kernel_rfl, fun w' hS => ?_⟩) hS ?_
      rotate_left
      ·
        have q0 := (stay_of_below hS).cell x0; have q1 := (stay_of_below hS).cell x1
        go_simp
        try with_reducible rfl
      simp only [List.getElem_toArray, List.getElem_cons_succ, List.getElem_cons_zero, Act.put, List.setIfInBounds_toArray, List.set_cons_zero, List.set_cons_succ]
      refine wpAnyH_take (i := 6) (v := ?_) rfl (by kernel_rfl) (by kernel_rfl) (by kernel_rfl) (fun _ _ _ h => h) (.inl ⟨by kernel_rfl, fun w' hS => ?_⟩) hS ?_
      rotate_left
      ·
        have q0 := (stay_of_below hS).cell x0; have q1 := (stay_of_below hS).cell x1
        go_simp
        try with_reducible rfl
      simp only [List.getElem_toArray, List.getElem_cons_succ, List.getElem_cons_zero, Act.put, List.setIfInBounds_toArray, List.set_cons_zero, List.set_cons_succ]
      refine wpAnyH_take (i := 7) (v := ?_) rfl (by kernel_rfl) (by kernel_rfl) (by kernel_rfl) (fun _ _ _ h => h) (.inl ⟨by kernel_rfl, fun w' hS => ?_⟩) hS ?_
      rotate_left
      ·
        have q0 := (stay_of_below hS).cell x0; have q1 := (stay_of_below hS).cell x1
        go_simp
        try with_reducible rfl
      simp only [List.getElem_toArray, List.getElem_cons_succ, List.getElem_cons_zero, Act.put, List.setIfInBounds_toArray, List.set_cons_zero, List.set_cons_succ]
      refine wpAnyH_take (i := 8) (v := ?_) rfl (by kernel_rfl) (by kernel_rfl) (by kernel_rfl) (fun _ _ _ h => h) (.inl ⟨by kernel_rfl, fun w' hS => ?_⟩) hS ?_
      rotate_left
      ·
        have q0 := (stay_of_below hS).cell x0; have q1 := (stay_of_below hS).cell x1
        go_simp
        try with_reducible rfl
      simp only [List.getElem_toArray, List.getElem_cons_succ, List.getElem_cons_zero, Act.put, List.setIfInBounds_toArray, List.set_cons_zero, List.set_cons_succ]
      refine wpAnyH_done (by kernel_rfl) ?_ _
      clear hS
      go_wp2
      go_roundw
      case rel => exact ⟨k + 1, hk1.out, by go_num, hbd⟩
      case measure => have := hk1.out; simp [intOf]; omega
    · have hki : ¬ (k : Int) < (l.length : Int) := by omega
      go_wp2
      go_ret
      exact ⟨rfl, hb.out⟩
set_option maxRecDepth 100000 in
set_option maxHeartbeats 4000000 in
theorem same_same (w : World) (u v : Value) (bs : List BagD) (h1 : BagsA w w.heap.size u bs) (h2 : BagsA w w.heap.size v bs) (hl : bs.length ≤ 1048576) (hbs : ∀ b ∈ bs, b.names.length ≤ 1048576 ∧ b.edges.length ≤ 1048576) :
    Calls Try.prog 21 #[u, v] w fun e w' => e = .returned (.bool true) ∧ Below w.heap.size w w' := by
  have hA := Lib.hid (fun V (h : Below w.heap.size w V) => (h1.stay (stay_of_below h)).mono h.size)
  have hB := Lib.hid (fun V (h : Below w.heap.size w V) => (h2.stay (stay_of_below h)).mono h.size)
  obtain ⟨a, c, rfl, hc⟩ := id h1
  obtain ⟨a2, c2, rfl, hc2⟩ := id h2
  replace hc := Lib.hid hc
  replace hc2 := Lib.hid hc2
  clear h1 h2 hA hB
  go_enter Try.func21, Try.ntmps21
  go_wp2
  go_loopw [5] (fun i wr => ∃ k : Nat, k ≤ bs.length ∧ i = .int .i64 (k : Int) ∧ Hid (Below w.heap.size w wr)) (fun i _ => bs.length - (intOf i).toNat)
  case atStart => exact ⟨0, by omega, rfl, Lib.hid (Below.refl _ _)⟩
  case round =>
    obtain ⟨k, hk, rfl, hb⟩ := hrel
    by_cases hlt : k < bs.length
    · have hki : (k : Int) < (bs.length : Int) := by omega
      have hk1 := Lib.hid (show k + 1 ≤ bs.length from hlt)
      obtain ⟨b, off, vv, ve, rfl, -, x0, x1, x2, ht, hr⟩ := hc.out k hlt
      obtain ⟨b2, off2, vv2, ve2, rfl, -, y0, y1, y2, ht2, hr2⟩ := hc2.out k hlt
      obtain ⟨hn1, hn2⟩ := hbs _ (List.getElem_mem hlt)
      have hbd : Hid (Below w.heap.size w wr.drew) := Lib.hid (hb.out.trans ⟨rfl, rfl, rfl, Nat.le_refl _, fun _ _ => rfl⟩)
      generalize bs[k] = bg at *
      obtain ⟨ns, es, p⟩ := bg
      simp only at *
      have hq1 := Lib.hid (fun V (h : Below w.heap.size w V) => eqT_same V vv vv2 ns ((ht.stay (stay_of_below h)).mono h.size) ((ht2.stay (stay_of_below h)).mono h.size) hn1)
      have hq2 := Lib.hid (fun V (h : Below w.heap.size w V) => eqI_same V ve ve2 es ((hr.stay (stay_of_below h)).mono h.size) ((hr2.stay (stay_of_below h)).mono h.size) hn2)
      clear hb ht hr ht2 hr2
      go_wp2_with fail
      refine wp_region_held_drew (S := fun V => Below w.heap.size w V) (by kernel_rfl) hbd.out (fun hS => ?_)
      generalize wr.drew = V0 at *
      refine wpAnyH_take (i := 0) (v := ?_) rfl (by kernel_rfl) (by kernel_rfl) (by kernel_rfl) (fun _ _ _ h => h) (.inl ⟨by kernel_rfl, fun w' hS => ?_⟩) hS ?_
      rotate_left
      ·
        have q0 := (stay_of_below hS).cell x0; have q1 := (stay_of_below hS).cell y0
        go_simp
        try with_reducible rfl
      simp only [List.getElem_toArray, List.getElem_cons_succ, List.getElem_cons_zero, Act.put, List.setIfInBounds_toArray, List.set_cons_zero, List.set_cons_succ]
      refine wpAnyH_take (i := 1) (v := ?_) rfl (by kernel_rfl) (by kernel_rfl) (by kernel_rfl) (fun _ _ _ h => h) (.inl ⟨by kernel_rfl, fun w' hS => ?_⟩) hS ?_
      rotate_left
      ·
        have q0 := (stay_of_below hS).cell x0; have q1 := (stay_of_below hS).cell y0
        go_simp
        try with_reducible rfl
      simp only [List.getElem_toArray, List.getElem_cons_succ, List.getElem_cons_zero, Act.put, List.setIfInBounds_toArray, List.set_cons_zero, List.set_cons_succ]
      refine wpAnyH_take (i := 2) (v := ?_) rfl (by kernel_rfl) (by kernel_rfl) (by kernel_rfl) (fun _ _ _ h => h) (.inl ⟨by kernel_rfl, fun w' hS => ?_⟩) hS ?_
      rotate_left
      ·
        have q0 := (stay_of_below hS).cell x0; have q1 := (stay_of_below hS).cell y0
        go_simp
        try with_reducible rfl
      simp only [List.getElem_toArray, List.getElem_cons_succ, List.getElem_cons_zero, Act.put, List.setIfInBounds_toArray, List.set_cons_zero, List.set_cons_succ]
      refine wpAnyH_take (i := 3) (v := ?_) rfl (by kernel_rfl) (by kernel_rfl) (by kernel_rfl) (fun _ _ _ h => h) (.inl ⟨by kernel_rfl, fun w' hS => ?_⟩) hS ?_
      rotate_left
      ·
        have q0 := (stay_of_below hS).cell x0; have q1 := (stay_of_below hS).cell y0
        go_simp
        try with_reducible rfl
      simp only [List.getElem_toArray, List.getElem_cons_succ, List.getElem_cons_zero, Act.put, List.setIfInBounds_toArray, List.set_cons_zero, List.set_cons_succ]
      refine wpAnyH_take (i := 4) (v := ?_) rfl (by kernel_rfl) (by kernel_rfl) (by kernel_rfl) (fun _ _ _ h => h) (.inl ⟨by kernel_rfl, fun w' hS => ?_⟩) hS ?_
      rotate_left
      ·
        have q0 := (stay_of_below hS).cell x0; have q1 := (stay_of_below hS).cell y0
        go_simp
        try with_reducible rfl
      simp only [List.getElem_toArray, List.getElem_cons_succ, List.getElem_cons_zero, Act.put, List.setIfInBounds_toArray, List.set_cons_zero, List.set_cons_succ]
      refine wpAnyH_take (i := 5) (v := ?_) rfl (by kernel_rfl) (by kernel_rfl) (by kernel_rfl) (fun _ _ _ h => h) (.inl ⟨by kernel_rfl, fun w' hS => ?_⟩) hS ?_
      rotate_left
      ·
        have q0 := (stay_of_below hS).cell x0; have q1 := (stay_of_below hS).cell y0
        go_simp
        try with_reducible rfl
      simp only [List.getElem_toArray, List.getElem_cons_succ, List.getElem_cons_zero, Act.put, List.setIfInBounds_toArray, List.set_cons_zero, List.set_cons_succ]
      refine wpAnyH_take (i := 6) (v := ?_) rfl (by kernel_rfl) (by kernel_rfl) (by kernel_rfl) (fun _ _ _ h => h) (.inl ⟨by kernel_rfl, fun w' hS => ?_⟩) hS ?_
      rotate_left
      ·
        have q0 := (stay_of_below hS).cell x0; have q1 := (stay_of_below hS).cell y0
        go_simp
        try with_reducible rfl
      simp only [List.getElem_toArray, List.getElem_cons_succ, List.getElem_cons_zero, Act.put, List.setIfInBounds_toArray, List.set_cons_zero, List.set_cons_succ]
      refine wpAnyH_take (i := 7) (v := ?_) rfl (by kernel_rfl) (by kernel_rfl) (by kernel_rfl) (fun _ _ _ h => h) (.inl ⟨by kernel_rfl, fun w' hS => ?_⟩) hS ?_
      rotate_left
      ·
        have q0 := (stay_of_below hS).cell x0; have q1 := (stay_of_below hS).cell y0
        go_simp
        try with_reducible rfl
      simp only [List.getElem_toArray, List.getElem_cons_succ, List.getElem_cons_zero, Act.put, List.setIfInBounds_toArray, List.set_cons_zero, List.set_cons_succ]
      refine wpAnyH_take (i := 8) (v := ?_) rfl (by kernel_rfl) (by kernel_rfl) (by kernel_rfl) (fun _ _ _ h => h) (.inl ⟨by kernel_rfl, fun w' hS => ?_⟩) hS ?_
      rotate_left
      ·
        have q0 := (stay_of_below hS).cell x0; have q1 := (stay_of_below hS).cell y0
        go_simp
        try with_reducible rfl
      simp only [List.getElem_toArray, List.getElem_cons_succ, List.getElem_cons_zero, Act.put, List.setIfInBounds_toArray, List.set_cons_zero, List.set_cons_succ]
      refine wpAnyH_take (i := 9) (v := ?_) rfl (by kernel_rfl) (by kernel_rfl) (by kernel_rfl) (fun _ _ _ h => h) (.inl ⟨by kernel_rfl, fun w' hS => ?_⟩) hS ?_
      rotate_left
      ·
        have q0 := (stay_of_below hS).cell x0; have q1 := (stay_of_below hS).cell y0
        go_simp
        try with_reducible rfl
      simp only [List.getElem_toArray, List.getElem_cons_succ, List.getElem_cons_zero, Act.put, List.setIfInBounds_toArray, List.set_cons_zero, List.set_cons_succ]
      have hc1 := Lib.hid (hq1.out V0 hbd.out)
      refine wpAnyH_ready (rs := [10]) (by kernel_rfl) (by simp) ?_
      refine AllReadyH.cons rfl (fun K hK => ?_) AllReadyH.nil
      clear hS
      go_simp
      refine (hc1.out).mono ?_
      rintro e w7 ⟨rfl, hb7⟩
      go_wp2_with fail
      refine hK.out _ _ (hbd.out.trans (hb7.mono hbd.out.size)) (fun hS => ?_)
      clear hK K
      try simp only [List.getElem_toArray, List.getElem_cons_succ, List.getElem_cons_zero, Act.put, List.setIfInBounds_toArray, List.set_cons_zero, List.set_cons_succ]
      have hbd7 := Lib.hid (hbd.out.trans (hb7.mono hbd.out.size))
      refine wpAnyH_take (i := 11) (v := ?_) rfl (by kernel_rfl) (by kernel_rfl) (by kernel_rfl) (fun _ _ _ h => h) (.inl ⟨by kernel_rfl, fun w' hS => ?_⟩) hS ?_
      rotate_left
      ·
        have q0 := (stay_of_below hS).cell x1; have q1 := (stay_of_below hS).cell y1
        go_simp
        try with_reducible rfl
      simp only [List.getElem_toArray, List.getElem_cons_succ, List.getElem_cons_zero, Act.put, List.setIfInBounds_toArray, List.set_cons_zero, List.set_cons_succ]
      refine wpAnyH_take (i := 12) (v := ?_) rfl (by kernel_rfl) (by kernel_rfl) (by kernel_rfl) (fun _ _ _ h => h) (.inl ⟨by kernel_rfl, fun w' hS => ?_⟩) hS ?_
      rotate_left
      ·
        have q0 := (stay_of_below hS).cell x1; have q1 := (stay_of_below hS).cell y1
        go_simp
        try with_reducible rfl
      simp only [List.getElem_toArray, List.getElem_cons_succ, List.getElem_cons_zero, Act.put, List.setIfInBounds_toArray, List.set_cons_zero, List.set_cons_succ]
      refine wpAnyH_take (i := 13) (v := ?_) rfl (by kernel_rfl) (by kernel_rfl) (by kernel_rfl) (fun _ _ _ h => h) (.inl ⟨by kernel_rfl, fun w' hS => ?_⟩) hS ?_
      rotate_left
      ·
        have q0 := (stay_of_below hS).cell x1; have q1 := (stay_of_below hS).cell y1
        go_simp
        try with_reducible rfl
      simp only [List.getElem_toArray, List.getElem_cons_succ, List.getElem_cons_zero, Act.put, List.setIfInBounds_toArray, List.set_cons_zero, List.set_cons_succ]
      refine wpAnyH_take (i := 14) (v := ?_) rfl (by kernel_rfl) (by kernel_rfl) (by kernel_rfl) (fun _ _ _ h => h) (.inl ⟨by kernel_rfl, fun w' hS => ?_⟩) hS ?_
      rotate_left
      ·
        have q0 := (stay_of_below hS).cell x1; have q1 := (stay_of_below hS).cell y1
        go_simp
        try with_reducible rfl
      simp only [List.getElem_toArray, List.getElem_cons_succ, List.getElem_cons_zero, Act.put, List.setIfInBounds_toArray, List.set_cons_zero, List.set_cons_succ]
      refine wpAnyH_take (i := 15) (v := ?_) rfl (by kernel_rfl) (by kernel_rfl) (by kernel_rfl) (fun _ _ _ h => h) (.inl ⟨by kernel_rfl, fun w' hS => ?_⟩) hS ?_
      rotate_left
      ·
        have q0 := (stay_of_below hS).cell x1; have q1 := (stay_of_below hS).cell y1
        go_simp
        try with_reducible rfl
      simp only [List.getElem_toArray, List.getElem_cons_succ, List.getElem_cons_zero, Act.put, List.setIfInBounds_toArray, List.set_cons_zero, List.set_cons_succ]
      refine wpAnyH_take (i := 16) (v := ?_) rfl (by kernel_rfl) (by kernel_rfl) (by kernel_rfl) (fun _ _ _ h => h) (.inl ⟨by kernel_rfl, fun w' hS => ?_⟩) hS ?_
      rotate_left
      ·
        have q0 := (stay_of_below hS).cell x1; have q1 := (stay_of_below hS).cell y1
        go_simp
        try with_reducible rfl
      simp only [List.getElem_toArray, List.getElem_cons_succ, List.getElem_cons_zero, Act.put, List.setIfInBounds_toArray, List.set_cons_zero, List.set_cons_succ]
      refine wpAnyH_take (i := 17) (v := ?_) rfl (by kernel_rfl) (by kernel_rfl) (by kernel_rfl) (fun _ _ _ h => h) (.inl ⟨by kernel_rfl, fun w' hS => ?_⟩) hS ?_
      rotate_left
      ·
        have q0 := (stay_of_below hS).cell x1; have q1 := (stay_of_below hS).cell y1
        go_simp
        try with_reducible rfl
      simp only [List.getElem_toArray, List.getElem_cons_succ, List.getElem_cons_zero, Act.put, List.setIfInBounds_toArray, List.set_cons_zero, List.set_cons_succ]
      refine wpAnyH_take (i := 18) (v := ?_) rfl (by kernel_rfl) (by kernel_rfl) (by kernel_rfl) (fun _ _ _ h => h) (.inl ⟨by kernel_rfl, fun w' hS => ?_⟩) hS ?_
      rotate_left
      ·
        have q0 := (stay_of_below hS).cell x1; have q1 := (stay_of_below hS).cell y1
        go_simp
        try with_reducible rfl
      simp only [List.getElem_toArray, List.getElem_cons_succ, List.getElem_cons_zero, Act.put, List.setIfInBounds_toArray, List.set_cons_zero, List.set_cons_succ]
      refine wpAnyH_take (i := 19) (v := ?_) rfl (by kernel_rfl) (by kernel_rfl) (by kernel_rfl) (fun _ _ _ h => h) (.inl ⟨by kernel_rfl, fun w' hS => ?_⟩) hS ?_
      rotate_left
      ·
        have q0 := (stay_of_below hS).cell x1; have q1 := (stay_of_below hS).cell y1
        go_simp
        try with_reducible rfl
      simp only [List.getElem_toArray, List.getElem_cons_succ, List.getElem_cons_zero, Act.put, List.setIfInBounds_toArray, List.set_cons_zero, List.set_cons_succ]
      refine wpAnyH_take (i := 20) (v := ?_) rfl (by kernel_rfl) (by kernel_rfl) (by kernel_rfl) (fun _ _ _ h => h) (.inl ⟨by kernel_rfl, fun w' hS => ?_⟩) hS ?_
      rotate_left
      ·
        have q0 := (stay_of_below hS).cell x1; have q1 := (stay_of_below hS).cell y1
        go_simp
        try with_reducible rfl
      simp only [List.getElem_toArray, List.getElem_cons_succ, List.getElem_cons_zero, Act.put, List.setIfInBounds_toArray, List.set_cons_zero, List.set_cons_succ]
      refine wpAnyH_take (i := 21) (v := ?_) rfl (by kernel_rfl) (by kernel_rfl) (by kernel_rfl) (fun _ _ _ h => h) (.inl ⟨by kernel_rfl, fun w' hS => ?_⟩) hS ?_
      rotate_left
      ·
        have q0 := (stay_of_below hS).cell x1; have q1 := (stay_of_below hS).cell y1
        go_simp
        try with_reducible rfl
      simp only [List.getElem_toArray, List.getElem_cons_succ, List.getElem_cons_zero, Act.put, List.setIfInBounds_toArray, List.set_cons_zero, List.set_cons_succ]
      refine wpAnyH_take (i := 22) (v := ?_) rfl (by kernel_rfl) (by kernel_rfl) (by kernel_rfl) (fun _ _ _ h => h) (.inl ⟨by kernel_rfl, fun w' hS => ?_⟩) hS ?_
      rotate_left
      ·
        have q0 := (stay_of_below hS).cell x1; have q1 := (stay_of_below hS).cell y1
        go_simp
        try with_reducible rfl
      simp only [List.getElem_toArray, List.getElem_cons_succ, List.getElem_cons_zero, Act.put, List.setIfInBounds_toArray, List.set_cons_zero, List.set_cons_succ]
      have hc8 := Lib.hid (hq2.out w7 hbd7.out)
      refine wpAnyH_ready (rs := [23]) (by kernel_rfl) (by simp) ?_
      refine AllReadyH.cons rfl (fun K hK => ?_) AllReadyH.nil
      clear hS
      go_simp
      refine (hc8.out).mono ?_
      rintro e w8 ⟨rfl, hb8⟩
      go_wp2_with fail
      refine hK.out _ _ (hbd7.out.trans (hb8.mono hbd7.out.size)) (fun hS => ?_)
      clear hK K
      try simp only [List.getElem_toArray, List.getElem_cons_succ, List.getElem_cons_zero, Act.put, List.setIfInBounds_toArray, List.set_cons_zero, List.set_cons_succ]
      have hbd8 := Lib.hid (hbd7.out.trans (hb8.mono hbd7.out.size))
      refine wpAnyH_take (i := 24) (v := ?_) rfl (by kernel_rfl) (by kernel_rfl) (by kernel_rfl) (fun _ _ _ h => h) (.inl ⟨by kernel_rfl, fun w' hS => ?_⟩) hS ?_
      rotate_left
      ·
        have q0 := (stay_of_below hS).cell x2; have q1 := (stay_of_below hS).cell y2
        go_simp
        try with_reducible rfl
      simp only [List.getElem_toArray, List.getElem_cons_succ, List.getElem_cons_zero, Act.put, List.setIfInBounds_toArray, List.set_cons_zero, List.set_cons_succ]
      refine wpAnyH_take (i := 25) (v := ?_) rfl (by kernel_rfl) (by kernel_rfl) (by kernel_rfl) (fun _ _ _ h => h) (.inl ⟨by kernel_rfl, fun w' hS => ?_⟩) hS ?_
      rotate_left
      ·
        have q0 := (stay_of_below hS).cell x2; have q1 := (stay_of_below hS).cell y2
        go_simp
        try with_reducible rfl
      simp only [List.getElem_toArray, List.getElem_cons_succ, List.getElem_cons_zero, Act.put, List.setIfInBounds_toArray, List.set_cons_zero, List.set_cons_succ]
      refine wpAnyH_take (i := 26) (v := ?_) rfl (by kernel_rfl) (by kernel_rfl) (by kernel_rfl) (fun _ _ _ h => h) (.inl ⟨by kernel_rfl, fun w' hS => ?_⟩) hS ?_
      rotate_left
      ·
        have q0 := (stay_of_below hS).cell x2; have q1 := (stay_of_below hS).cell y2
        go_simp
        try with_reducible rfl
      simp only [List.getElem_toArray, List.getElem_cons_succ, List.getElem_cons_zero, Act.put, List.setIfInBounds_toArray, List.set_cons_zero, List.set_cons_succ]
      refine wpAnyH_take (i := 27) (v := ?_) rfl (by kernel_rfl) (by kernel_rfl) (by kernel_rfl) (fun _ _ _ h => h) (.inl ⟨by kernel_rfl, fun w' hS => ?_⟩) hS ?_
      rotate_left
      ·
        have q0 := (stay_of_below hS).cell x2; have q1 := (stay_of_below hS).cell y2
        go_simp
        try with_reducible rfl
      simp only [List.getElem_toArray, List.getElem_cons_succ, List.getElem_cons_zero, Act.put, List.setIfInBounds_toArray, List.set_cons_zero, List.set_cons_succ]
      refine wpAnyH_take (i := 28) (v := ?_) rfl (by kernel_rfl) (by kernel_rfl) (by kernel_rfl) (fun _ _ _ h => h) (.inl ⟨by kernel_rfl, fun w' hS => ?_⟩) hS ?_
      rotate_left
      ·
        have q0 := (stay_of_below hS).cell x2; have q1 := (stay_of_below hS).cell y2
        go_simp
        try with_reducible rfl
      simp only [List.getElem_toArray, List.getElem_cons_succ, List.getElem_cons_zero, Act.put, List.setIfInBounds_toArray, List.set_cons_zero, List.set_cons_succ]
      refine wpAnyH_take (i := 29) (v := ?_) rfl (by kernel_rfl) (by kernel_rfl) (by kernel_rfl) (fun _ _ _ h => h) (.inl ⟨by kernel_rfl, fun w' hS => ?_⟩) hS ?_
      rotate_left
      ·
        have q0 := (stay_of_below hS).cell x2; have q1 := (stay_of_below hS).cell y2
        go_simp
        try with_reducible rfl
      simp only [List.getElem_toArray, List.getElem_cons_succ, List.getElem_cons_zero, Act.put, List.setIfInBounds_toArray, List.set_cons_zero, List.set_cons_succ]
      refine wpAnyH_take (i := 30) (v := ?_) rfl (by kernel_rfl) (by kernel_rfl) (by kernel_rfl) (fun _ _ _ h => h) (.inl ⟨by kernel_rfl, fun w' hS => ?_⟩) hS ?_
      rotate_left
      ·
        have q0 := (stay_of_below hS).cell x2; have q1 := (stay_of_below hS).cell y2
        go_simp
        try with_reducible rfl
      simp only [List.getElem_toArray, List.getElem_cons_succ, List.getElem_cons_zero, Act.put, List.setIfInBounds_toArray, List.set_cons_zero, List.set_cons_succ]
      refine wpAnyH_take (i := 31) (v := ?_) rfl (by kernel_rfl) (by kernel_rfl) (by kernel_rfl) (fun _ _ _ h => h) (.inl ⟨by kernel_rfl, fun w' hS => ?_⟩) hS ?_
      rotate_left
      ·
        have q0 := (stay_of_below hS).cell x2; have q1 := (stay_of_below hS).cell y2
        go_simp
        try with_reducible rfl
      simp only [List.getElem_toArray, List.getElem_cons_succ, List.getElem_cons_zero, Act.put, List.setIfInBounds_toArray, List.set_cons_zero, List.set_cons_succ]
      refine wpAnyH_take (i := 32) (v := ?_) rfl (by kernel_rfl) (by kernel_rfl) (by kernel_rfl) (fun _ _ _ h => h) (.inl ⟨by kernel_rfl, fun w' hS => ?_⟩) hS ?_
      rotate_left
      ·
        have q0 := (stay_of_below hS).cell x2; have q1 := (stay_of_below hS).cell y2
        go_simp
        try with_reducible rfl
      simp only [List.getElem_toArray, List.getElem_cons_succ, List.getElem_cons_zero, Act.put, List.setIfInBounds_toArray, List.set_cons_zero, List.set_cons_succ]
      refine wpAnyH_take (i := 33) (v := ?_) rfl (by kernel_rfl) (by kernel_rfl) (by kernel_rfl) (fun _ _ _ h => h) (.inl ⟨by kernel_rfl, fun w' hS => ?_⟩) hS ?_
      rotate_left
      ·
        have q0 := (stay_of_below hS).cell x2; have q1 := (stay_of_below hS).cell y2
        go_simp
        try with_reducible rfl
      simp only [List.getElem_toArray, List.getElem_cons_succ, List.getElem_cons_zero, Act.put, List.setIfInBounds_toArray, List.set_cons_zero, List.set_cons_succ]
      refine wpAnyH_take (i := 34) (v := ?_) rfl (by kernel_rfl) (by kernel_rfl) (by kernel_rfl) (fun _ _ _ h => h) (.inl ⟨by kernel_rfl, fun w' hS => ?_⟩) hS ?_
      rotate_left
      ·
        have q0 := (stay_of_below hS).cell x2; have q1 := (stay_of_below hS).cell y2
        go_simp
        try with_reducible rfl
      simp only [List.getElem_toArray, List.getElem_cons_succ, List.getElem_cons_zero, Act.put, List.setIfInBounds_toArray, List.set_cons_zero, List.set_cons_succ]
      refine wpAnyH_take (i := 35) (v := ?_) rfl (by kernel_rfl) (by kernel_rfl) (by kernel_rfl) (fun _ _ _ h => h) (.inl ⟨by kernel_rfl, fun w' hS => ?_⟩) hS ?_
      rotate_left
      ·
        have q0 := (stay_of_below hS).cell x2; have q1 := (stay_of_below hS).cell y2
        go_simp
        try with_reducible rfl
      simp only [List.getElem_toArray, List.getElem_cons_succ, List.getElem_cons_zero, Act.put, List.setIfInBounds_toArray, List.set_cons_zero, List.set_cons_succ]
      refine wpAnyH_take (i := 36) (v := ?_) rfl (by kernel_rfl) (by kernel_rfl) (by kernel_rfl) (fun _ _ _ h => h) (.inl ⟨by kernel_rfl, fun w' hS => ?_⟩) hS ?_
      rotate_left
      ·
        have q0 := (stay_of_below hS).cell x2; have q1 := (stay_of_below hS).cell y2
        go_simp
        try with_reducible rfl
      simp only [List.getElem_toArray, List.getElem_cons_succ, List.getElem_cons_zero, Act.put, List.setIfInBounds_toArray, List.set_cons_zero, List.set_cons_succ]
      refine wpAnyH_take (i := 37) (v := ?_) rfl (by kernel_rfl) (by kernel_rfl) (by kernel_rfl) (fun _ _ _ h => h) (.inl ⟨by kernel_rfl, fun w' hS => ?_⟩) hS ?_
      rotate_left
      ·
        have q0 := (stay_of_below hS).cell x2; have q1 := (stay_of_below hS).cell y2
        go_simp
        try with_reducible rfl
      simp only [List.getElem_toArray, List.getElem_cons_succ, List.getElem_cons_zero, Act.put, List.setIfInBounds_toArray, List.set_cons_zero, List.set_cons_succ]
      refine wpAnyH_take (i := 38) (v := ?_) rfl (by kernel_rfl) (by kernel_rfl) (by kernel_rfl) (fun _ _ _ h => h) (.inl ⟨by kernel_rfl, fun w' hS => ?_⟩) hS ?_
      rotate_left
      ·
        have q0 := (stay_of_below hS).cell x2; have q1 := (stay_of_below hS).cell y2
        go_simp
        try with_reducible rfl
      simp only [List.getElem_toArray, List.getElem_cons_succ, List.getElem_cons_zero, Act.put, List.setIfInBounds_toArray, List.set_cons_zero, List.set_cons_succ]
      refine wpAnyH_done (by kernel_rfl) ?_ _
      clear hS
      go_wp2
      go_roundw
      case rel => exact ⟨k + 1, hk1.out, by go_num, hbd8⟩
      case measure => have := hk1.out; simp [intOf]; omega
    · have hki : ¬ (k : Int) < (bs.length : Int) := by omega
      go_wp2
      go_ret
      exact ⟨rfl, hb.out⟩
end Go.Proofs.Ytnocncmjdhlmkaa.hyp
