/- Contract of the reference's plus. -/
import Derived.Test.YtjncjcellpbhcaaGreatDoorRefSums
import Derived.Test.YtjncjcellpbhcaaGreatDoorRefSums
import Derived.Test.YtjncjcellpbhcaaGreatDoorRefA
import Derived.Test.YtjncjcellpbhcaaGreatDoorDecC
namespace Go.Proofs.YtjncjcellpbhcaaGreatDoor.dec
open Go.ChangeShapes Go.WideShapes Go.ChangeAt Go.RowKit kit
set_option linter.unusedVariables false
set_option linter.unusedSimpArgs false
theorem infoNum : (Tryz.prog.info? 91).map (·.size) = some 3 := by kernel_rfl
def numc (s : Bool) (v : Value) (sc : Nat) : Array Value := #[.bool s, v, .int .i64 sc]
/-- The world behind the boxes of two numbers and the place of a third. -/
structure RW (w W : World) (s t : Bool) (va vb : Value) (sa sb : Nat) : Prop where
  below : Below w.heap.size w W
  b0 : Blk W w.heap.size (numc s va sa) 91
  b1 : Blk W (w.heap.size + 1) (numc t vb sb) 91
  b2 : Blk W (w.heap.size + 1 + 1) (numc false (.slice none 0 0) 0) 91
theorem RW.made (w : World) (s t : Bool) (va vb : Value) (sa sb : Nat) : RW w (((w.alloc (.cells (numc s va sa) 91)).alloc (.cells (numc t vb sb) 91)).alloc (.cells (numc false (.slice none 0 0) 0) 91)) s t va vb sa sb := by
  refine ⟨((((Keep.refl [] w).alloc _).alloc _).alloc _).below, ((Blk.new _ _ _).alloc _).alloc _, ?_, ?_⟩
  · have := (Blk.new (w.alloc (.cells (numc s va sa) 91)) (numc t vb sb) 91).alloc (.cells (numc false (.slice none 0 0) 0) 91)
    rwa [World.size_alloc] at this
  · have := Blk.new ((w.alloc (.cells (numc s va sa) 91)).alloc (.cells (numc t vb sb) 91)) (numc false (.slice none 0 0) 0) 91
    rwa [World.size_alloc, World.size_alloc] at this
theorem RW.on {w W W' : World} {s t : Bool} {va vb : Value} {sa sb : Nat} (h : RW w W s t va vb sa sb) (hb : Below W.heap.size W W') : RW w W' s t va vb sa sb :=
  ⟨h.below.trans (hb.mono h.below.size), h.b0.keep (Keep.ofBelow hb) (by simp), h.b1.keep (Keep.ofBelow hb) (by simp), h.b2.keep (Keep.ofBelow hb) (by simp)⟩
theorem RW.drewN {w W : World} {s t : Bool} {va vb : Value} {sa sb : Nat} (h : RW w W s t va vb sa sb) (n : Nat) : RW w (W.drewN n) s t va vb sa sb := h.on (below_drewN (Below.refl _ _) n)
set_option maxRecDepth 100000 in
set_option maxHeartbeats 4000000 in
/-- The sum, and that its digits lie in a row of its own. -/
theorem rplus_own (s t : Bool) (va vb : Value) (A B : List Nat) (sa sb : Nat) (w : World) (hva : IntsAt w va A) (hvb : IntsAt w vb B) (hA : dgs A) (hB : dgs B) (na : 1 ≤ A.length) (nb : 1 ≤ B.length)
    (la : A.length ≤ 50000) (lb : B.length ≤ 50000) (ha : sa ≤ 40000) (hb : sb ≤ 40000) :
    Calls Tryz.prog 68 #[.agg (numc s va sa), .agg (numc t vb sb)] w fun e w' => ∃ v D,
      e = .returned (.agg (numc (plusP s (10 ^ (max sa sb - sa) * vL A) t (10 ^ (max sa sb - sb) * vL B)).1 v (max sa sb))) ∧ Below w.heap.size w w' ∧ IntsAt w' v D ∧ dgs D ∧
      vL D = (plusP s (10 ^ (max sa sb - sa) * vL A) t (10 ^ (max sa sb - sb) * vL B)).2 ∧ 1 ≤ D.length ∧ (D.length ≤ max sa sb - sa + A.length ∨ D.length ≤ max sa sb - sb + B.length ∨ 10 ^ (D.length - 1) ≤ vL D) ∧ (∀ k, v.ownBlock = some k → w.heap.size ≤ k) := by
  obtain ⟨S, hS⟩ : ∃ S, max sa sb = S := ⟨_, rfl⟩
  have hSa : sa ≤ S := by omega
  have hSb : sb ≤ S := by omega
  have hS1 : S ≤ 40000 := by omega
  have hai : (sa : Int) ≤ 40000 := by omega
  have hbi : (sb : Int) ≤ 40000 := by omega
  replace hS := Lib.hid hS
  rw [hS.out]
  obtain ⟨p, hp⟩ : ∃ p, plusP s (10 ^ (S - sa) * vL A) t (10 ^ (S - sb) * vL B) = p := ⟨_, rfl⟩
  rw [hp]
  replace hp := Lib.hid hp
  go_enter Tryz.func68, Tryz.ntmps68
  go_upto_region 1 with (fail)
  have pw : RW w (((w.alloc (.cells (numc s va sa) 91)).alloc (.cells (numc t vb sb) 91)).alloc (.cells #[.bool false, .slice none 0 0, .int .i64 0] 91)) s t va vb sa sb := RW.made w s t va vb sa sb
  generalize (((w.alloc (.cells (numc s va sa) 91)).alloc (.cells (numc t vb sb) 91)).alloc (.cells #[.bool false, .slice none 0 0, .int .i64 0] 91)) = W at *
  have a0 : W.cell? ⟨w.heap.size, 0, none⟩ = some (.bool s) := pw.b0.cell 0 rfl
  have a1 : W.cell? ⟨w.heap.size, 1, none⟩ = some va := pw.b0.cell 1 rfl
  have a2 : W.cell? ⟨w.heap.size, 2, none⟩ = some (.int .i64 sa) := pw.b0.cell 2 rfl
  have b0 : W.cell? ⟨w.heap.size + 1, 0, none⟩ = some (.bool t) := pw.b1.cell 0 rfl
  have b1 : W.cell? ⟨w.heap.size + 1, 1, none⟩ = some vb := pw.b1.cell 1 rfl
  have b2 : W.cell? ⟨w.heap.size + 1, 2, none⟩ = some (.int .i64 sb) := pw.b1.cell 2 rfl
  have hvaW := hva.below pw.below
  have hvbW := hvb.below pw.below
  replace pw := Lib.hid pw
  replace hvaW := Lib.hid hvaW
  replace hvbW := Lib.hid hvbW
  replace hA := Lib.hid hA
  replace hB := Lib.hid hB
  clear hva hvb
  go_upto_if 13 with (fail)
  go_cut [5] (fun v wx => v = .int .i64 S ∧ wx = W)
  case first =>
    as_aux_lemma =>
      by_cases h1 : sa < sb
      · have h1i : (sa : Int) < (sb : Int) := by omega
        obtain rfl : sb = S := by rw [← hS.out]; omega
        go_wp2
        go_meet
        exact ⟨rfl, rfl⟩
      · have h1i : ¬ (sa : Int) < (sb : Int) := by omega
        obtain rfl : sa = S := by rw [← hS.out]; omega
        go_wp2
        go_meet
        exact ⟨rfl, rfl⟩
  obtain ⟨rfl, hwx⟩ := hcut
  rw [hwx]; clear hwx
  go_wp2_with fail
  refine (rscaled_any s va A sa S W hvaW.out na (by omega) hSa (by omega)).mono ?_
  rintro e w1 ⟨vx, rfl, hI1⟩
  have pw1 := pw.out.on hI1.below
  have hx1 := hI1.ints
  have hvb1 := hvbW.out.below hI1.below
  clear a0 a1 a2 b0 b1 b2 pw hI1 hvaW hvbW
  have b0 : w1.cell? ⟨w.heap.size + 1, 0, none⟩ = some (.bool t) := pw1.b1.cell 0 rfl
  have b1 : w1.cell? ⟨w.heap.size + 1, 1, none⟩ = some vb := pw1.b1.cell 1 rfl
  have b2 : w1.cell? ⟨w.heap.size + 1, 2, none⟩ = some (.int .i64 sb) := pw1.b1.cell 2 rfl
  replace pw1 := Lib.hid pw1
  replace hx1 := Lib.hid hx1
  replace hvb1 := Lib.hid hvb1
  go_wp2_with fail
  refine (rscaled_any t vb B sb S w1 hvb1.out nb (by omega) hSb (by omega)).mono ?_
  rintro e w2 ⟨vy, rfl, hI2⟩
  have pw2 := pw1.out.on hI2.below
  have hx2 := hx1.out.below hI2.below
  have hy2 := hI2.ints
  clear b0 b1 b2 pw1 hI2 hx1 hvb1
  have a0 : w2.cell? ⟨w.heap.size, 0, none⟩ = some (.bool s) := pw2.b0.cell 0 rfl
  have b0 : w2.cell? ⟨w.heap.size + 1, 0, none⟩ = some (.bool t) := pw2.b1.cell 0 rfl
  have eX := vL_pad (S - sa) A
  have eY := vL_pad (S - sb) B
  have dX := dgs_pad (S - sa) hA.out
  have dY := dgs_pad (S - sb) hB.out
  have lX : (List.replicate (S - sa) 0 ++ A).length = S - sa + A.length := by rw [List.length_append, List.length_replicate]
  have lY : (List.replicate (S - sb) 0 ++ B).length = S - sb + B.length := by rw [List.length_append, List.length_replicate]
  have hpo := hp.out
  rw [← eX, ← eY] at hpo
  clear hp
  generalize List.replicate (S - sa) 0 ++ A = X at *
  generalize List.replicate (S - sb) 0 ++ B = Y at *
  have lX1 : X.length ≤ 100000 := by omega
  have lY1 : Y.length ≤ 100000 := by omega
  clear eX eY hA hB
  replace hpo := Lib.hid hpo
  replace pw2 := Lib.hid pw2
  replace hx2 := Lib.hid hx2
  replace hy2 := Lib.hid hy2
  replace dX := Lib.hid dX
  replace dY := Lib.hid dY
  by_cases hst : s = t
  · subst hst
    have hpp : plusP s (vL X) s (vL Y) = (s, vL X + vL Y) := if_pos rfl
    obtain rfl : p = (s, vL X + vL Y) := hpo.out.symm.trans hpp
    clear hpp hpo
    have hss : (s == s) = true := by cases s <;> rfl
    go_wp2_with fail
    go_region_with (go_at_call 105; refine (radd_any vx vy X Y _ ?_ ?_ dX.out dY.out lX1 lY1).mono ?_; exact hx2.out.drewN 1; exact hy2.out.drewN 1; rintro e w3 ⟨v, D, rfl, hI3, hd3⟩; replace hd3 := Lib.hid hd3; obtain ⟨vo, vc, rfl⟩ := hI3.ints.form; have pw3 := (pw2.out.drewN 1).on hI3.below; have c0 : w3.cell? ⟨w.heap.size, 0, none⟩ = some (.bool s) := pw3.b0.cell 0 rfl; have e0 : w3.cell? ⟨w.heap.size + 1 + 1, 0, none⟩ = some (.bool false) := pw3.b2.cell 0 rfl; have e1 : w3.cell? ⟨w.heap.size + 1 + 1, 1, none⟩ = some (.slice none 0 0) := pw3.b2.cell 1 rfl; have e2 : w3.cell? ⟨w.heap.size + 1 + 1, 2, none⟩ = some (.int .i64 0) := pw3.b2.cell 2 rfl; have g0 : w3.frozen? ⟨w.heap.size + 1 + 1, 0, none⟩ = false := pw3.b2.free 0; have g1 : w3.frozen? ⟨w.heap.size + 1 + 1, 1, none⟩ = false := pw3.b2.free 1; have g2 : w3.frozen? ⟨w.heap.size + 1 + 1, 2, none⟩ = false := pw3.b2.free 2)
    all_goals
      have r0 := Lib.hid (((pw3.b2.set 0 (.bool s)).set 1 (.slice vo D.length vc)).set 2 (.int .i64 S))
      have rb := Lib.hid (((pw3.below.setCell (p := ⟨w.heap.size + 1 + 1, 0, none⟩) (by show w.heap.size ≤ w.heap.size + 1 + 1; omega) (.bool s)).setCell (p := ⟨w.heap.size + 1 + 1, 1, none⟩) (by show w.heap.size ≤ w.heap.size + 1 + 1; omega) (.slice vo D.length vc)).setCell (p := ⟨w.heap.size + 1 + 1, 2, none⟩) (by show w.heap.size ≤ w.heap.size + 1 + 1; omega) (.int .i64 S))
      have hlt2 : w.heap.size + 1 + 1 < (w2.drewN 1).heap.size := pw2.out.b2.lt
      have ri := Lib.hid (own_ints (own_set (own_set (own_set hI3.own hlt2 0 (.bool s)) hlt2 1 (.slice vo D.length vc)) hlt2 2 (.int .i64 S)))
      have hfr : Hid (∀ k, (Value.slice vo D.length vc).ownBlock = some k → w.heap.size ≤ k) := fun k hk => Nat.le_trans (Nat.le_trans (Nat.le_add_right _ 2) (Nat.le_of_lt hlt2)) (hI3.own.lt k hk).1
      clear e0 e1 e2 g0 g1 g2 c0 hI3 pw3
      go_wp2_with fail
      exact bodyPost_ret (v := .agg (numc s (.slice vo D.length vc) S)) (results_cell_row rfl _ _ (w.heap.size + 1 + 1) 91 _ (0, 0) _ rfl r0.out.eq Tryz.underlying91 rfl infoNum) rfl
        ⟨_, rfl, rb.out, D, ri.out, hd3.out.1, hd3.out.2.1, by have := hd3.out; omega, by have := hd3.out; omega, hfr.out⟩
  · have hss : (s == t) = false := by cases s <;> cases t <;> first | rfl | exact absurd rfl hst
    have hcm := Lib.hid (rcompare_any vx vy X Y w2 hx2.out hy2.out dX.out dY.out lX1 lY1)
    by_cases hlt : vL X < vL Y
    · have hpp : plusP s (vL X) t (vL Y) = (t, vL Y - vL X) := by unfold plusP; rw [if_neg hst, if_pos hlt]
      obtain rfl : p = (t, vL Y - vL X) := hpo.out.symm.trans hpp
      have hsg : sgn (vL X) (vL Y) = -1 := if_pos hlt
      rw [hsg] at hcm
      clear hpp hpo hsg
      go_wp2_with (go_at_call 106; refine hcm.out.mono ?_; rintro e w2 ⟨rfl, rfl⟩)
      go_region_with (go_at_call 107; refine (rsub_any vy vx Y X _ ?_ ?_ dY.out dX.out (Nat.le_of_lt hlt) lY1 lX1).mono ?_; exact hy2.out.drewN 1; exact hx2.out.drewN 1; rintro e w3 ⟨v, D, rfl, hI3, hd3⟩; replace hd3 := Lib.hid hd3; obtain ⟨vo, vc, rfl⟩ := hI3.ints.form; have pw3 := (pw2.out.drewN 1).on hI3.below; have c0 : w3.cell? ⟨w.heap.size + 1, 0, none⟩ = some (.bool t) := pw3.b1.cell 0 rfl; have e0 : w3.cell? ⟨w.heap.size + 1 + 1, 0, none⟩ = some (.bool false) := pw3.b2.cell 0 rfl; have e1 : w3.cell? ⟨w.heap.size + 1 + 1, 1, none⟩ = some (.slice none 0 0) := pw3.b2.cell 1 rfl; have e2 : w3.cell? ⟨w.heap.size + 1 + 1, 2, none⟩ = some (.int .i64 0) := pw3.b2.cell 2 rfl; have g0 : w3.frozen? ⟨w.heap.size + 1 + 1, 0, none⟩ = false := pw3.b2.free 0; have g1 : w3.frozen? ⟨w.heap.size + 1 + 1, 1, none⟩ = false := pw3.b2.free 1; have g2 : w3.frozen? ⟨w.heap.size + 1 + 1, 2, none⟩ = false := pw3.b2.free 2)
      all_goals
        have r0 := Lib.hid (((pw3.b2.set 0 (.bool t)).set 1 (.slice vo D.length vc)).set 2 (.int .i64 S))
        have rb := Lib.hid (((pw3.below.setCell (p := ⟨w.heap.size + 1 + 1, 0, none⟩) (by show w.heap.size ≤ w.heap.size + 1 + 1; omega) (.bool t)).setCell (p := ⟨w.heap.size + 1 + 1, 1, none⟩) (by show w.heap.size ≤ w.heap.size + 1 + 1; omega) (.slice vo D.length vc)).setCell (p := ⟨w.heap.size + 1 + 1, 2, none⟩) (by show w.heap.size ≤ w.heap.size + 1 + 1; omega) (.int .i64 S))
        have hlt2 : w.heap.size + 1 + 1 < (w2.drewN 1).heap.size := pw2.out.b2.lt
        have ri := Lib.hid (own_ints (own_set (own_set (own_set hI3.own hlt2 0 (.bool t)) hlt2 1 (.slice vo D.length vc)) hlt2 2 (.int .i64 S)))
        have hfr : Hid (∀ k, (Value.slice vo D.length vc).ownBlock = some k → w.heap.size ≤ k) := fun k hk => Nat.le_trans (Nat.le_trans (Nat.le_add_right _ 2) (Nat.le_of_lt hlt2)) (hI3.own.lt k hk).1
        clear e0 e1 e2 g0 g1 g2 c0 hI3 pw3
        go_wp2_with fail
        exact bodyPost_ret (v := .agg (numc t (.slice vo D.length vc) S)) (results_cell_row rfl _ _ (w.heap.size + 1 + 1) 91 _ (0, 0) _ rfl r0.out.eq Tryz.underlying91 rfl infoNum) rfl
          ⟨_, rfl, rb.out, D, ri.out, hd3.out.1, by have := hd3.out.2.1; omega, by have := hd3.out; omega, by have := hd3.out; omega, hfr.out⟩
    · have hpp : plusP s (vL X) t (vL Y) = (s, vL X - vL Y) := by unfold plusP; rw [if_neg hst, if_neg hlt]
      obtain rfl : p = (s, vL X - vL Y) := hpo.out.symm.trans hpp
      have hsg : ¬ sgn (vL X) (vL Y) < 0 := by unfold sgn; rw [if_neg hlt]; split <;> decide
      clear hpp hpo
      generalize sgn (vL X) (vL Y) = sg at *
      go_wp2_with (go_at_call 106; refine hcm.out.mono ?_; rintro e w2 ⟨rfl, rfl⟩)
      go_region_with (go_at_call 107; refine (rsub_any vx vy X Y _ ?_ ?_ dX.out dY.out (Nat.le_of_not_lt hlt) lX1 lY1).mono ?_; exact hx2.out.drewN 1; exact hy2.out.drewN 1; rintro e w3 ⟨v, D, rfl, hI3, hd3⟩; replace hd3 := Lib.hid hd3; obtain ⟨vo, vc, rfl⟩ := hI3.ints.form; have pw3 := (pw2.out.drewN 1).on hI3.below; have c0 : w3.cell? ⟨w.heap.size, 0, none⟩ = some (.bool s) := pw3.b0.cell 0 rfl; have e0 : w3.cell? ⟨w.heap.size + 1 + 1, 0, none⟩ = some (.bool false) := pw3.b2.cell 0 rfl; have e1 : w3.cell? ⟨w.heap.size + 1 + 1, 1, none⟩ = some (.slice none 0 0) := pw3.b2.cell 1 rfl; have e2 : w3.cell? ⟨w.heap.size + 1 + 1, 2, none⟩ = some (.int .i64 0) := pw3.b2.cell 2 rfl; have g0 : w3.frozen? ⟨w.heap.size + 1 + 1, 0, none⟩ = false := pw3.b2.free 0; have g1 : w3.frozen? ⟨w.heap.size + 1 + 1, 1, none⟩ = false := pw3.b2.free 1; have g2 : w3.frozen? ⟨w.heap.size + 1 + 1, 2, none⟩ = false := pw3.b2.free 2)
      all_goals
        have r0 := Lib.hid (((pw3.b2.set 0 (.bool s)).set 1 (.slice vo D.length vc)).set 2 (.int .i64 S))
        have rb := Lib.hid (((pw3.below.setCell (p := ⟨w.heap.size + 1 + 1, 0, none⟩) (by show w.heap.size ≤ w.heap.size + 1 + 1; omega) (.bool s)).setCell (p := ⟨w.heap.size + 1 + 1, 1, none⟩) (by show w.heap.size ≤ w.heap.size + 1 + 1; omega) (.slice vo D.length vc)).setCell (p := ⟨w.heap.size + 1 + 1, 2, none⟩) (by show w.heap.size ≤ w.heap.size + 1 + 1; omega) (.int .i64 S))
        have hlt2 : w.heap.size + 1 + 1 < (w2.drewN 1).heap.size := pw2.out.b2.lt
        have ri := Lib.hid (own_ints (own_set (own_set (own_set hI3.own hlt2 0 (.bool s)) hlt2 1 (.slice vo D.length vc)) hlt2 2 (.int .i64 S)))
        have hfr : Hid (∀ k, (Value.slice vo D.length vc).ownBlock = some k → w.heap.size ≤ k) := fun k hk => Nat.le_trans (Nat.le_trans (Nat.le_add_right _ 2) (Nat.le_of_lt hlt2)) (hI3.own.lt k hk).1
        clear e0 e1 e2 g0 g1 g2 c0 hI3 pw3
        go_wp2_with fail
        exact bodyPost_ret (v := .agg (numc s (.slice vo D.length vc) S)) (results_cell_row rfl _ _ (w.heap.size + 1 + 1) 91 _ (0, 0) _ rfl r0.out.eq Tryz.underlying91 rfl infoNum) rfl
          ⟨_, rfl, rb.out, D, ri.out, hd3.out.1, by have := hd3.out.2.1; omega, by have := hd3.out; omega, by have := hd3.out; omega, hfr.out⟩
theorem rplus_any (s t : Bool) (va vb : Value) (A B : List Nat) (sa sb : Nat) (w : World) (hva : IntsAt w va A) (hvb : IntsAt w vb B) (hA : dgs A) (hB : dgs B) (na : 1 ≤ A.length) (nb : 1 ≤ B.length)
    (la : A.length ≤ 50000) (lb : B.length ≤ 50000) (ha : sa ≤ 40000) (hb : sb ≤ 40000) :
    Calls Tryz.prog 68 #[.agg (numc s va sa), .agg (numc t vb sb)] w fun e w' => ∃ v D,
      e = .returned (.agg (numc (plusP s (10 ^ (max sa sb - sa) * vL A) t (10 ^ (max sa sb - sb) * vL B)).1 v (max sa sb))) ∧ Below w.heap.size w w' ∧ IntsAt w' v D ∧ dgs D ∧
      vL D = (plusP s (10 ^ (max sa sb - sa) * vL A) t (10 ^ (max sa sb - sb) * vL B)).2 ∧ 1 ≤ D.length ∧ (D.length ≤ max sa sb - sa + A.length ∨ D.length ≤ max sa sb - sb + B.length ∨ 10 ^ (D.length - 1) ≤ vL D) :=
  (rplus_own s t va vb A B sa sb w hva hvb hA hB na nb la lb ha hb).mono fun e w' ⟨v, D, h1, h2, h3, h4, h5, h6, h7, _⟩ => ⟨v, D, h1, h2, h3, h4, h5, h6, h7⟩
end Go.Proofs.YtjncjcellpbhcaaGreatDoor.dec
