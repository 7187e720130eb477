/- Contract of checked: literals, and what is no kind. -/
import Derived.Test.YthecgifgjagmaaaGreatDoorValCheck
import Derived.Deep.RegionHeld3
namespace Go.Proofs.YthecgifgjagmaaaGreatDoor.val
open Go.ChangeShapes Go.WideShapes Go.ChangeAt Go.RowKit kit dec
set_option linter.unusedVariables false
set_option linter.unusedSimpArgs false
set_option maxRecDepth 100000 in
theorem checkedK (k : Int) (h0 : k ≠ 0) (h1 : k ≠ 1) (h2 : k ≠ 2) (h3 : k ≠ 3) (h4 : k ≠ 4) (h5 : k ≠ 5) (h6 : k ≠ 6) (h7 : k ≠ 7) (h8 : k ≠ 8) (h9 : k ≠ 9) (h10 : k ≠ 10) (b : Bool) (n : Int) (t x : ByteArray) (ao : Option Addr) (len cap : Nat) (deep : Nat) (w : World) :
    Calls Tryz.prog 54 #[agg6 k b n t x (.slice ao len cap), .int .i64 deep] w fun e w' => e = .returned (.bool false) ∧ Below w.heap.size w w' := by
  have hp : partV k b n t x (.slice ao len cap) = .iface 122 (.int .i64 k) := by
    unfold partV
    rw [if_neg h0, if_neg h1, if_neg h2, if_neg h3, if_neg (by omega), if_neg h5, if_neg (by omega), if_neg h10]
  have hpt := Lib.hid (fun w => part_any (k) b n t x (.slice ao len cap) w)
  unfold agg6 at hpt ⊢
  go_enter Tryz.func54, Tryz.ntmps54
  go_wp2_with fail
  refine (hpt.out _).mono ?_
  rintro e w1 ⟨he, hb1⟩
  have cw := (CW.made w (k) b n t x (.slice ao len cap) deep).on hb1
  clear hb1 hpt
  have x0 : w1.cell? ⟨w.heap.size, 0, none⟩ = some (.int .i64 (k)) := cw.b0.cell 0 rfl
  have x1 : w1.cell? ⟨w.heap.size, 1, none⟩ = some (.bool b) := cw.b0.cell 1 rfl
  have x2 : w1.cell? ⟨w.heap.size, 2, none⟩ = some (.int .i64 n) := cw.b0.cell 2 rfl
  have x3 : w1.cell? ⟨w.heap.size, 3, none⟩ = some (.string t) := cw.b0.cell 3 rfl
  have x4 : w1.cell? ⟨w.heap.size, 4, none⟩ = some (.string x) := cw.b0.cell 4 rfl
  have x5 : w1.cell? ⟨w.heap.size, 5, none⟩ = some (.slice ao len cap) := cw.b0.cell 5 rfl
  have y0 : w1.cell? ⟨w.heap.size + 1, 0, none⟩ = some (.int .i64 deep) := cw.b1.cell 0 rfl
  have z0 : w1.cell? ⟨w.heap.size + 1 + 1, 0, none⟩ = some (.int .i64 (k)) := cw.b2.cell 0 rfl
  have z1 : w1.cell? ⟨w.heap.size + 1 + 1, 1, none⟩ = some (.bool false) := cw.b2.cell 1 rfl
  have z2 : w1.cell? ⟨w.heap.size + 1 + 1, 2, none⟩ = some (.int .i64 0) := cw.b2.cell 2 rfl
  have z3 : w1.cell? ⟨w.heap.size + 1 + 1, 3, none⟩ = some (.string ⟨#[]⟩) := cw.b2.cell 3 rfl
  have z4 : w1.cell? ⟨w.heap.size + 1 + 1, 4, none⟩ = some (.string ⟨#[]⟩) := cw.b2.cell 4 rfl
  have z5 : w1.cell? ⟨w.heap.size + 1 + 1, 5, none⟩ = some (.slice none 0 0) := cw.b2.cell 5 rfl
  have f0 : w1.frozen? ⟨w.heap.size + 1 + 1, 0, none⟩ = false := cw.b2.free 0
  have f1 : w1.frozen? ⟨w.heap.size + 1 + 1, 1, none⟩ = false := cw.b2.free 1
  have f2 : w1.frozen? ⟨w.heap.size + 1 + 1, 2, none⟩ = false := cw.b2.free 2
  have f3 : w1.frozen? ⟨w.heap.size + 1 + 1, 3, none⟩ = false := cw.b2.free 3
  have f4 : w1.frozen? ⟨w.heap.size + 1 + 1, 4, none⟩ = false := cw.b2.free 4
  replace cw := Lib.hid cw
  rw [hp] at he
  subst he
  clear hp h0 h1 h2 h3 h4 h5 h6 h7 h8 h9 h10
  have ta0 := ta_8_0
  have ta1 := ta_8_1
  have ta2 := ta_8_2
  have ta3 := ta_8_3
  have ta4 := ta_8_4
  have ta5 := ta_8_5
  have ta6 := ta_8_6
  have ta7 := ta_8_7
  have ta8 := ta_8_8
  go_wp2
  go_ret
  exact ⟨rfl, cw.out.below⟩
set_option maxRecDepth 100000 in
set_option maxHeartbeats 1000000 in
theorem checked10 (b : Bool) (n : Int) (t x : ByteArray) (ao : Option Addr) (len cap : Nat) (deep : Nat) (w : World) (hts : t.size ≤ 9223372036854775807) (hxs : x.size ≤ 9223372036854775807) :
    Calls Tryz.prog 54 #[agg6 10 b n t x (.slice ao len cap), .int .i64 deep] w fun e w' => e = .returned (.bool (!b && decide (n = 0) && decide (len = 0) && decide (t.size ≤ 1048576) && iriB x)) ∧ Below w.heap.size w w' := by
  have htsi : (t.size : Int) ≤ 9223372036854775807 := by omega
  have hir := fun w => iri_any x w hxs
  generalize iriB x = c at *
  replace hir := Lib.hid hir
  have hpt := Lib.hid (fun w => part_any (10) b n t x (.slice ao len cap) w)
  unfold agg6 at hpt ⊢
  go_enter Tryz.func54, Tryz.ntmps54
  go_wp2_with fail
  refine (hpt.out _).mono ?_
  rintro e w1 ⟨he, hb1⟩
  have cw := (CW.made w (10) b n t x (.slice ao len cap) deep).on hb1
  clear hb1 hpt
  have x0 : w1.cell? ⟨w.heap.size, 0, none⟩ = some (.int .i64 (10)) := cw.b0.cell 0 rfl
  have x1 : w1.cell? ⟨w.heap.size, 1, none⟩ = some (.bool b) := cw.b0.cell 1 rfl
  have x2 : w1.cell? ⟨w.heap.size, 2, none⟩ = some (.int .i64 n) := cw.b0.cell 2 rfl
  have x3 : w1.cell? ⟨w.heap.size, 3, none⟩ = some (.string t) := cw.b0.cell 3 rfl
  have x4 : w1.cell? ⟨w.heap.size, 4, none⟩ = some (.string x) := cw.b0.cell 4 rfl
  have x5 : w1.cell? ⟨w.heap.size, 5, none⟩ = some (.slice ao len cap) := cw.b0.cell 5 rfl
  have y0 : w1.cell? ⟨w.heap.size + 1, 0, none⟩ = some (.int .i64 deep) := cw.b1.cell 0 rfl
  have z0 : w1.cell? ⟨w.heap.size + 1 + 1, 0, none⟩ = some (.int .i64 (10)) := cw.b2.cell 0 rfl
  have z1 : w1.cell? ⟨w.heap.size + 1 + 1, 1, none⟩ = some (.bool false) := cw.b2.cell 1 rfl
  have z2 : w1.cell? ⟨w.heap.size + 1 + 1, 2, none⟩ = some (.int .i64 0) := cw.b2.cell 2 rfl
  have z3 : w1.cell? ⟨w.heap.size + 1 + 1, 3, none⟩ = some (.string ⟨#[]⟩) := cw.b2.cell 3 rfl
  have z4 : w1.cell? ⟨w.heap.size + 1 + 1, 4, none⟩ = some (.string ⟨#[]⟩) := cw.b2.cell 4 rfl
  have z5 : w1.cell? ⟨w.heap.size + 1 + 1, 5, none⟩ = some (.slice none 0 0) := cw.b2.cell 5 rfl
  have f0 : w1.frozen? ⟨w.heap.size + 1 + 1, 0, none⟩ = false := cw.b2.free 0
  have f1 : w1.frozen? ⟨w.heap.size + 1 + 1, 1, none⟩ = false := cw.b2.free 1
  have f2 : w1.frozen? ⟨w.heap.size + 1 + 1, 2, none⟩ = false := cw.b2.free 2
  have f3 : w1.frozen? ⟨w.heap.size + 1 + 1, 3, none⟩ = false := cw.b2.free 3
  have f4 : w1.frozen? ⟨w.heap.size + 1 + 1, 4, none⟩ = false := cw.b2.free 4
  replace cw := Lib.hid cw
  obtain rfl : e = .returned (.iface 112 (.agg #[.string t, .string x])) := he
  have ta0 := ta_7_0
  have ta1 := ta_7_1
  have ta2 := ta_7_2
  have ta3 := ta_7_3
  have ta4 := ta_7_4
  have ta5 := ta_7_5
  have ta6 := ta_7_6
  have ta7 := ta_7_7
  go_upto_region 40 with fail
  clear ta0 ta1 ta2 ta3 ta4 ta5 ta6 ta7
  clear x0 x1 x2 x3 x4 x5 y0 z0 z1 z2 z3 z4 z5 f0 f1 f2 f3 f4
  have hal : Below w1.heap.size w1 (w1.alloc (.cells #[.string t, .string x] 112)) := (Below.refl _ _).alloc (Nat.le_refl _) _
  have cw2 := cw.out.on hal
  have bl : Blk (w1.alloc (.cells #[.string t, .string x] 112)) w1.heap.size #[.string t, .string x] 112 := Blk.new _ _ _
  have hgl : w.heap.size + 1 + 1 < w1.heap.size := cw.out.b2.lt
  clear cw
  generalize w1.alloc (.cells #[.string t, .string x] 112) = w2 at *
  generalize w1.heap.size = g at *
  clear hal
  have x0 : w2.cell? ⟨w.heap.size, 0, none⟩ = some (.int .i64 (10)) := cw2.b0.cell 0 rfl
  have x1 : w2.cell? ⟨w.heap.size, 1, none⟩ = some (.bool b) := cw2.b0.cell 1 rfl
  have x2 : w2.cell? ⟨w.heap.size, 2, none⟩ = some (.int .i64 n) := cw2.b0.cell 2 rfl
  have x3 : w2.cell? ⟨w.heap.size, 3, none⟩ = some (.string t) := cw2.b0.cell 3 rfl
  have x4 : w2.cell? ⟨w.heap.size, 4, none⟩ = some (.string x) := cw2.b0.cell 4 rfl
  have x5 : w2.cell? ⟨w.heap.size, 5, none⟩ = some (.slice ao len cap) := cw2.b0.cell 5 rfl
  have y0 : w2.cell? ⟨w.heap.size + 1, 0, none⟩ = some (.int .i64 deep) := cw2.b1.cell 0 rfl
  have z0 : w2.cell? ⟨w.heap.size + 1 + 1, 0, none⟩ = some (.int .i64 (10)) := cw2.b2.cell 0 rfl
  have z1 : w2.cell? ⟨w.heap.size + 1 + 1, 1, none⟩ = some (.bool false) := cw2.b2.cell 1 rfl
  have z2 : w2.cell? ⟨w.heap.size + 1 + 1, 2, none⟩ = some (.int .i64 0) := cw2.b2.cell 2 rfl
  have z3 : w2.cell? ⟨w.heap.size + 1 + 1, 3, none⟩ = some (.string ⟨#[]⟩) := cw2.b2.cell 3 rfl
  have z4 : w2.cell? ⟨w.heap.size + 1 + 1, 4, none⟩ = some (.string ⟨#[]⟩) := cw2.b2.cell 4 rfl
  have z5 : w2.cell? ⟨w.heap.size + 1 + 1, 5, none⟩ = some (.slice none 0 0) := cw2.b2.cell 5 rfl
  have f0 : w2.frozen? ⟨w.heap.size + 1 + 1, 0, none⟩ = false := cw2.b2.free 0
  have f1 : w2.frozen? ⟨w.heap.size + 1 + 1, 1, none⟩ = false := cw2.b2.free 1
  have f2 : w2.frozen? ⟨w.heap.size + 1 + 1, 2, none⟩ = false := cw2.b2.free 2
  have f3 : w2.frozen? ⟨w.heap.size + 1 + 1, 3, none⟩ = false := cw2.b2.free 3
  have f4 : w2.frozen? ⟨w.heap.size + 1 + 1, 4, none⟩ = false := cw2.b2.free 4
  have l0 : w2.cell? ⟨g, 0, none⟩ = some (.string t) := bl.cell 0 rfl
  have l1 : w2.cell? ⟨g, 1, none⟩ = some (.string x) := bl.cell 1 rfl
  replace cw2 := Lib.hid cw2
  by_cases hm : t.size ≤ 1048576
  · have hmi : decide ((1048576 : Int) < (t.size : Int)) = false := decide_eq_false (by omega)
    have hmi2 : ¬ (1048576 : Int) < (t.size : Int) := by omega
    cases c
    · go_wp2_with (go_at_call 97; refine (hir.out _).mono ?_; rintro e w3 ⟨rfl, hw3⟩; rw [hw3]; clear hw3)
      go_ret
      exact ⟨ret_bool (by simp), cw2.out.below⟩
    · go_upto_region 42 with (go_at_call 97; refine (hir.out _).mono ?_; rintro e w3 ⟨rfl, hw3⟩; rw [hw3]; clear hw3)
      have ce : CE w (((w2.setCell ⟨w.heap.size + 1 + 1, 3, none⟩ (.string t)).setCell ⟨w.heap.size + 1 + 1, 4, none⟩ (.string x)).drew) 10 b n t x (.slice ao len cap) false 0 t x := ((cw2.out.ce.text t).extra x).on (below_drewN (Below.refl _ _) 1)
      go_region
      obtain ⟨w4, hw4⟩ : ∃ w4, w4 = ((w2.setCell ⟨w.heap.size + 1 + 1, 3, none⟩ (.string t)).setCell ⟨w.heap.size + 1 + 1, 4, none⟩ (.string x)).drew := ⟨_, rfl⟩
      rw [← hw4] at ce ⊢
      clear hw4 x0 x1 x2 x3 x4 x5 y0 z0 z1 z2 z3 z4 z5 f0 f1 f2 f3 f4 l0 l1 cw2 bl
      go_upto_region 46 with fail
      have x0 := ce.b0.cell 0 rfl
      have x1 := ce.b0.cell 1 rfl
      have x2 := ce.b0.cell 2 rfl
      have x3 := ce.b0.cell 3 rfl
      have x4 := ce.b0.cell 4 rfl
      have x5 := ce.b0.cell 5 rfl
      have z1 := ce.b2.cell 1 rfl
      have z2 := ce.b2.cell 2 rfl
      have z3 := ce.b2.cell 3 rfl
      have z4 := ce.b2.cell 4 rfl
      have hbe := Lib.hid ce.below
      clear ce
      cases b
      case true =>
        go_wp2; go_ret; exact ⟨ret_bool (by simp [*]), hbe.out⟩
      by_cases hn : n = 0
      case neg =>
        have hnb : (n == 0) = false := beq_eq_false_iff_ne.2 hn
        go_wp2; go_ret; exact ⟨ret_bool (by simp [*]), hbe.out⟩
      subst hn
      by_cases hl : len = 0
      case neg =>
        have hlb : ((len : Int) == 0) = false := beq_eq_false_iff_ne.2 (by omega)
        go_wp2; go_ret; exact ⟨ret_bool (by simp [*]), hbe.out⟩
      subst hl
      go_wp2; go_ret; exact ⟨ret_bool (by simp [*]), hbe.out⟩
  · have hmi : decide ((1048576 : Int) < (t.size : Int)) = true := decide_eq_true (by omega)
    have hmi2 : (1048576 : Int) < (t.size : Int) := by omega
    go_wp2
    go_ret
    exact ⟨ret_bool (by rw [decide_eq_false hm]; simp), cw2.out.below⟩
end Go.Proofs.YthecgifgjagmaaaGreatDoor.val
