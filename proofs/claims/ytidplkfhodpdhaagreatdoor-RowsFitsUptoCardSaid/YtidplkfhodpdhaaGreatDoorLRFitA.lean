/- Texts LRFits, LRFitsCard, one behind the other. -/
import Derived.Test.YtidplkfhodpdhaaGreatDoorRsA
import Derived.Test.YtidplkfhodpdhaaGreatDoorVOrd2A
import Derived.Test.YtidplkfhodpdhaaGreatDoorRtA
import Derived.Test.YtidplkfhodpdhaaGreatDoorTabFkA
import Derived.Test.YtidplkfhodpdhaaGreatDoorTabWake
import Derived.Test.YtidplkfhodpdhaaGreatDoorDecFrameD
import Derived.Test.YtidplkfhodpdhaaGreatDoorFrame
import Derived.Deep.DeepHandedRow
namespace Go.Proofs.YtidplkfhodpdhaaGreatDoor.tab
open Go.ChangeShapes Go.WideShapes Go.ChangeAt Go.RowKit kit dec val
open hyp (RowA TextsA CellsStay stay_of_below textsV textsV_length own_row OW)
set_option linter.unusedVariables false
set_option linter.unusedSimpArgs false
theorem rowsA_in64 {w : World} {N : Nat} {v : Value} {rs : List (List V)} (h : RowsA w N v rs) : ∀ r ∈ rs, in64L r := fun r hr => by
 obtain ⟨vs, h1, -, h3⟩ := h
 obtain ⟨j, hj, rfl⟩ := List.getElem_of_mem hr
 exact LA.in64 (h3 j (by omega) hj)
set_option maxRecDepth 100000 in
set_option maxHeartbeats 8000000 in
theorem rfits_law (w : World) (hE : EnvD w) (v va ra vb rb vv nv : Value) (A B : Tab) (X : List ByteArray) (lang : Int) (L : List Int) (hT : TwoA w 1048576 v va ra vb rb vv nv A B X lang L) :
 Calls Tryz.prog 4 #[v] w fun e w' => e = .returned (.bool true) ∧ Below w.heap.size w w' := by
 obtain ⟨av, cv, hav, -⟩ := hT.av.form
 obtain ⟨ar, cr, har, -, -⟩ := hT.ar.form
 obtain ⟨bv, dv, hbv, -⟩ := hT.bv.form
 obtain ⟨br, dr, hbr, -, -⟩ := hT.br.form
 obtain ⟨xv, ex, hxv, -⟩ := hT.xs.form
 obtain ⟨nv, en, hnv, -, -⟩ := hT.ns.form
 rw [hyp.numsV_length] at hnv
 subst hav har hbv hbr hxv hnv
 have hveq := hT.eq
 subst hveq
 have hq := Blk.new w #[.slice av A.vars.length cv, .slice ar A.rows.length cr, .slice bv B.vars.length dv, .slice br B.rows.length dr, .slice xv X.length ex, .int .i64 lang, .slice nv L.length en] 42
 have hal : Below w.heap.size w (w.alloc (.cells #[.slice av A.vars.length cv, .slice ar A.rows.length cr, .slice bv B.vars.length dv, .slice br B.rows.length dr, .slice xv X.length ex, .int .i64 lang, .slice nv L.length en] 42)) := (Below.refl _ _).alloc (Nat.le_refl _) _
 have cL := Lib.hid (light9_any _ 1048576 (by omega) _ _ _ _ _ _ _ A B X lang L (hT.stay hal))
 have x0 := hq.cell 0 rfl
 have x1 := hq.cell 1 rfl
 have x2 := hq.cell 2 rfl
 have x3 := hq.cell 3 rfl
 have x4 := hq.cell 4 rfl
 have x5 := hq.cell 5 rfl
 have x6 := hq.cell 6 rfl
 have hfew := hT.few
 replace hal := Lib.hid hal
 clear hq
 go_enter Tryz.func4, Tryz.ntmps4
 go_wp2_with fail
 refine cL.out.mono ?_
 rintro e w2 ⟨rfl, hb2⟩
 replace x0 := (stay_of_below hb2).cell x0
 replace x1 := (stay_of_below hb2).cell x1
 replace x2 := (stay_of_below hb2).cell x2
 replace x3 := (stay_of_below hb2).cell x3
 replace x4 := (stay_of_below hb2).cell x4
 replace x5 := (stay_of_below hb2).cell x5
 replace x6 := (stay_of_below hb2).cell x6
 have hB2 := Lib.hid (hal.out.trans (hb2.mono hal.out.size))
 clear cL hb2 hal
 cases hl : lightT A B with
 | false =>
  go_wp2_with fail
  refine (wakes9_any _ (hE.env.below hB2.out)).mono ?_
  rintro e wz ⟨rfl, hbz⟩
  have hbzz := Lib.hid (hB2.out.trans (hbz.mono hB2.out.size))
  clear hbz
  go_wp2
  go_ret
  exact ⟨rfl, hbzz.out⟩
 | true =>
  obtain ⟨l1, l2, l3, l4⟩ := light_parts hl
  obtain ⟨wtA, wtB⟩ := wt_light hl
  have kA : KeyL A := key_light fun r hr => by have := wtA r hr; omega
  have kB : KeyL B := key_light fun r hr => by have := wtB r hr; omega
  have hTh := Lib.hid (fun V (h : Below w.heap.size w V) => hT.stay h)
  have hEh := Lib.hid (fun V (h : Below w.heap.size w V) => hE.below h)
  have iA : in64T A := rowsA_in64 hT.ar
  have iB : in64T B := rowsA_in64 hT.br
  obtain ⟨nv2, en2, hnf, -, hnat⟩ := hT.ns.form
  rw [hyp.numsV_length] at hnf
  injection hnf with n1 n2 n3
  subst n1 n3
  have hLn : L.length ≤ 1048576 := by omega
  have cA := Lib.hid (fun V (h : Below w.heap.size w V) => refMay_any 1048576 (by omega) V _ A (hTh.out V h).tabA (by omega) (by omega))
  have cB := Lib.hid (fun V (h : Below w.heap.size w V) => refMay_any 1048576 (by omega) V _ B (hTh.out V h).tabB (by omega) (by omega))
  have cF := Lib.hid (fun V (h : Below w.heap.size w V) (i j : Int) => fits_any 1048576 (by omega) (by omega) V (hEh.out V h).env _ _ A B (hTh.out V h).tabA (hTh.out V h).tabB (by omega) (by omega) (by omega) (by omega) i j)
  have cS := Lib.hid (fun V (h : Below w.heap.size w V) => sameT_any 1048576 (by omega) V (hEh.out V h).env _ _ A B (hTh.out V h).tabA (hTh.out V h).tabB (by omega) (by omega) (by omega) (by omega) kA kB)
  have cR := Lib.hid (fun V (h : Below w.heap.size w V) => refSame_any 1048576 (by omega) V _ _ A B (hTh.out V h).tabA (hTh.out V h).tabB (by omega) (by omega) (by omega) (by omega))
  have hss : refSameT A B = sameT A B := (same_sorted false iA iB).symm
  rw [hss] at cR
  obtain ⟨mA, hmA⟩ : ∃ m, mayT A = m := ⟨_, rfl⟩
  obtain ⟨mB, hmB⟩ : ∃ m, mayT B = m := ⟨_, rfl⟩
  rw [hmA] at cA
  rw [hmB] at cB
  replace hmA := Lib.hid hmA
  replace hmB := Lib.hid hmB
  replace hl := Lib.hid hl
  replace l1 := Lib.hid l1
  replace l2 := Lib.hid l2
  replace l3 := Lib.hid l3
  replace l4 := Lib.hid l4
  replace hnat := Lib.hid hnat
  have hLi : (L.length : Int) ≤ 1048576 := by omega
  replace hLn := Lib.hid hLn
  clear wtA wtB kA kB hT hE iA iB hss n2 hfew
  go_upto_region 3 with fail
  go_cut [3] (fun v wx => v = .bool (mA && mB) ∧ Hid (Below w2.heap.size w2 wx))
  case first =>
   as_aux_lemma =>
    have cA7 := Lib.hid (cA.out w2 hB2.out)
    go_wp2_with fail
    refine cA7.out.mono ?_
    rintro e w8 ⟨rfl, hb8⟩
    replace x0 := (stay_of_below hb8).cell x0
    replace x1 := (stay_of_below hb8).cell x1
    replace x2 := (stay_of_below hb8).cell x2
    replace x3 := (stay_of_below hb8).cell x3
    replace x4 := (stay_of_below hb8).cell x4
    replace x5 := (stay_of_below hb8).cell x5
    replace x6 := (stay_of_below hb8).cell x6
    clear cA7
    cases mA with
    | false =>
     go_wp2_with fail
     go_meet
     exact ⟨rfl, Lib.hid hb8⟩
    | true =>
     have cB8 := Lib.hid (cB.out w8 (hB2.out.trans (hb8.mono hB2.out.size)))
     have hb8h := Lib.hid hb8
     clear hb8
     go_wp2_with fail
     refine cB8.out.mono ?_
     rintro e w9 ⟨rfl, hb9⟩
     have hbf := Lib.hid (hb8h.out.trans (hb9.mono hb8h.out.size))
     clear hb9 cB8 hb8h
     go_wp2_with fail
     go_meet
     exact ⟨rfl, hbf⟩
  obtain ⟨w3, rfl⟩ : ∃ w3 : World, w3 = wc := ⟨_, rfl⟩
  obtain ⟨rfl, hb23⟩ := hcut
  replace x0 := (stay_of_below hb23.out).cell x0
  replace x1 := (stay_of_below hb23.out).cell x1
  replace x2 := (stay_of_below hb23.out).cell x2
  replace x3 := (stay_of_below hb23.out).cell x3
  replace x4 := (stay_of_below hb23.out).cell x4
  replace x5 := (stay_of_below hb23.out).cell x5
  replace x6 := (stay_of_below hb23.out).cell x6
  have hB3 := Lib.hid (hB2.out.trans (hb23.out.mono hB2.out.size))
  obtain ⟨mm, hmm⟩ : ∃ m, (mA && mB) = m := ⟨_, rfl⟩
  rw [hmm]
  replace hmm := Lib.hid hmm
  clear hb23 cA cB hB2
  go_wp2
  go_loopw [4] (fun i wr => ∃ k : Nat, k ≤ L.length ∧ i = .int .i64 (k : Int) ∧ Hid (Below w3.heap.size w3 wr)) (fun i _ => L.length - (intOf i).toNat)
  case atStart => exact ⟨0, by omega, rfl, Lib.hid (Below.refl _ _)⟩
  case round =>
   obtain ⟨k, hk, rfl, hb⟩ := hrel
   obtain ⟨w4, rfl⟩ : ∃ w4 : World, w4 = wr := ⟨_, rfl⟩
   replace x0 := (stay_of_below hb.out).cell x0
   replace x1 := (stay_of_below hb.out).cell x1
   replace x2 := (stay_of_below hb.out).cell x2
   replace x3 := (stay_of_below hb.out).cell x3
   replace x4 := (stay_of_below hb.out).cell x4
   replace x5 := (stay_of_below hb.out).cell x5
   replace x6 := (stay_of_below hb.out).cell x6
   have hkw : IntKind.i64.wrap ((k : Int) + 1) = (k : Int) + 1 := IntWalk.i64_in _ (by have := hLn.out; omega)
   by_cases hc : (k : Int) + 1 < (L.length : Int) ∧ (k : Int) < 20
   ·obtain ⟨hc1, hc2⟩ := hc
    have hk1 : k < (hyp.numsV L).length := by rw [hyp.numsV_length]; omega
    have hk2 : k + 1 < (hyp.numsV L).length := by rw [hyp.numsV_length]; omega
    obtain ⟨b9, off9, rfl, -, c1⟩ := hnat.out k hk1
    obtain ⟨b9', off9', e9, -, c2⟩ := hnat.out (k + 1) hk2
    injection e9 with e9
    injection e9 with e91 e92 e93
    subst e91 e92
    have hB4 := hB3.out.trans (hb.out.mono hB3.out.size)
    replace c1 := (stay_of_below hB4).cell c1
    replace c2 := (stay_of_below hB4).cell c2
    have g1 : (hyp.numsV L)[k]'hk1 = .int .i64 (L[k]'(by omega)) := by simp [hyp.numsV]
    have g2 : (hyp.numsV L)[k + 1]'hk2 = .int .i64 (L[k + 1]'(by omega)) := by simp [hyp.numsV]
    rw [g1] at c1
    rw [g2] at c2
    generalize L[k]'(by omega) = x at *
    generalize L[k + 1]'(by omega) = y at *
    have hki : (k : Int) < (L.length : Int) := by omega
    have c3 := c2
    rw [show off9 + (k + 1) = off9 + k + 1 by omega] at c3
    replace hB4 := Lib.hid hB4
    clear g1 g2 hk1 hk2 e93
    go_upto_region 10 with fail
    clear c1 c2 c3 x4 x6
    obtain ⟨C, hC⟩ : ∃ c, (mm && (decide (0 ≤ x) && (decide (x < (A.rows.length : Int)) && (decide (0 ≤ y) && decide (y < (B.rows.length : Int)))))) = c := ⟨_, rfl⟩
    replace hC := Lib.hid hC
    go_cut [67] (fun v wx => v = .bool C ∧ Hid (Below w4.heap.size w4 wx))
    case first =>
     as_aux_lemma =>
      cases mm with
      | false =>
       have hz : Hid (false = C) := Lib.hid (by rw [← hC.out]; rfl)
       go_wp2
       go_meet
       exact ⟨by rw [hz.out], Lib.hid (Below.refl _ _)⟩
      | true =>
       by_cases g0 : 0 ≤ x
       case neg =>
        have hz : Hid (false = C) := Lib.hid (by rw [← hC.out]; simp [g0])
        go_wp2
        go_meet
        exact ⟨by rw [hz.out], Lib.hid (Below.refl _ _)⟩
       by_cases g1 : x < (A.rows.length : Int)
       case neg =>
        have hz : Hid (false = C) := Lib.hid (by rw [← hC.out]; simp [g1])
        go_wp2
        go_meet
        exact ⟨by rw [hz.out], Lib.hid (Below.refl _ _)⟩
       by_cases g2 : 0 ≤ y
       case neg =>
        have hz : Hid (false = C) := Lib.hid (by rw [← hC.out]; simp [g2])
        go_wp2
        go_meet
        exact ⟨by rw [hz.out], Lib.hid (Below.refl _ _)⟩
       by_cases g3 : y < (B.rows.length : Int)
       case neg =>
        have hz : Hid (false = C) := Lib.hid (by rw [← hC.out]; simp [g3])
        go_wp2
        go_meet
        exact ⟨by rw [hz.out], Lib.hid (Below.refl _ _)⟩
       have hz : Hid (true = C) := Lib.hid (by rw [← hC.out]; simp [g0, g1, g2, g3])
       go_wp2
       go_meet
       exact ⟨by rw [hz.out], Lib.hid (Below.refl _ _)⟩
    obtain ⟨w45, rfl⟩ : ∃ z : World, z = wc := ⟨_, rfl⟩
    obtain ⟨rfl, hb445⟩ := hcut
    replace x0 := (stay_of_below hb445.out).cell x0
    replace x1 := (stay_of_below hb445.out).cell x1
    replace x2 := (stay_of_below hb445.out).cell x2
    replace x3 := (stay_of_below hb445.out).cell x3
    replace x5 := (stay_of_below hb445.out).cell x5
    replace hB4 := Lib.hid (hB4.out.trans (hb445.out.mono hB4.out.size))
    replace hb := Lib.hid (hb.out.trans (hb445.out.mono hb.out.size))
    clear hb445
    clear w4
    obtain ⟨w4, rfl⟩ : ∃ z : World, z = w45 := ⟨_, rfl⟩
    go_upto_if 67 with (fail)
    go_cut [7] (fun v wx => v = .bool (fitsZ A B x y) ∧ Hid (Below w4.heap.size w4 wx))
    case first =>
     as_aux_lemma =>
      cases C with
      | false =>
       have hz : Hid (false = fitsZ A B x y) := Lib.hid (by
        have h := hC.out
        rw [← hmm.out, ← hmA.out, ← hmB.out] at h
        unfold fitsZ
        cases h1 : mayT A
        ·rfl
        cases h2 : mayT B
        ·rfl
        rw [h1, h2] at h
        by_cases g0 : 0 ≤ x
        case neg => simp [g0]
        by_cases g1 : x < (A.rows.length : Int)
        case neg => simp [g1]
        by_cases g2 : 0 ≤ y
        case neg => simp [g2]
        by_cases g3 : y < (B.rows.length : Int)
        case neg => simp [g3]
        simp [g0, g1, g2, g3] at h)
       go_wp2
       go_meet
       exact ⟨by rw [hz.out], Lib.hid (Below.refl _ _)⟩
      | true =>
       have hC2 := hC.out
       simp only [Bool.and_eq_true, decide_eq_true_eq] at hC2
       obtain ⟨c0, g0, g1, g2, g3⟩ := hC2
       have hmm2 : mA = true ∧ mB = true := by have := hmm.out.trans c0; rwa [Bool.and_eq_true] at this
       have h1A : mayT A = true := hmA.out.trans hmm2.1
       have h1B : mayT B = true := hmB.out.trans hmm2.2
       replace c0 := Lib.hid c0
       replace hmm2 := Lib.hid hmm2
       obtain ⟨i, rfl⟩ := Int.eq_ofNat_of_zero_le g0
       obtain ⟨j, rfl⟩ := Int.eq_ofNat_of_zero_le g2
       have hi : i < A.rows.length := by omega
       have hj : j < B.rows.length := by omega
       have hT4 := hTh.out w4 hB4.out
       have hz := fitsZ_at h1A h1B hi hj
       obtain ⟨ar9, cr9, e1, -, hat1⟩ := hT4.ar.form
       injection e1 with a1 a2 a3
       subst a1 a3
       obtain ⟨br9, dr9, e2, -, hat2⟩ := hT4.br.form
       injection e2 with b1 b2 b3
       subst b1 b3
       obtain ⟨p1, o1, ra1, rc1, rfl, -, d1, la1⟩ := hat1 i hi
       obtain ⟨p2, o2, ra2, rc2, rfl, -, d2, la2⟩ := hat2 j hj
       have m1 := (may_rows h1A).2 A.rows[i] (List.getElem_mem _)
       have m2 := (may_rows h1B).2 B.rows[j] (List.getElem_mem _)
       unfold rowB at m1 m2
       simp only [Bool.and_eq_true, decide_eq_true_eq] at m1 m2
       have cFt := Lib.hid (fun V (h : Below w4.heap.size w4 V) => rFits_any 1048576 (by omega) V _ _ _ _ A.vars B.vars A.rows[i] B.rows[j] (TextsA.below hT4.av h) (TextsA.below hT4.bv h) (names_parts (may_rows h1A).1).2.2 (la1.stay h) (la2.stay h) m1.1 m2.1 (by have := l3.out; omega) (by have := l4.out; omega))
       have cC := Lib.hid (fun V (h : Below w4.heap.size w4 V) => rowsCompare_any 1048576 (by omega) lang V (hEh.out V (hB4.out.trans (h.mono hB4.out.size))) _ _ A.rows[i] B.rows[j] (la1.stay h) (la2.stay h))
       have cO := Lib.hid (fun V (h : Below w4.heap.size w4 V) => rRows_any 1048576 (by omega) lang V _ _ A.rows[i] B.rows[j] (la1.stay h) (la2.stay h))
       generalize A.rows[i] = r at *
       generalize B.rows[j] = s at *
       generalize compat A.vars B.vars r s = q at *
       generalize shared A.vars B.vars r s = q2 at *
       generalize ordL (decide (lang = 1)) r s = o at *
       replace hz := Lib.hid hz
       clear hT4 hat1 hat2 la1 la2 m1 m2 a2 b2
       have hlA := l1.out
       have hlB := l2.out
       go_upto_region 11 with fail
       have hdr : Below w4.heap.size w4 w4.drew := below_drewN (Below.refl _ _) 1
       refine wp_region_held_drew (S := fun V => Below w4.heap.size w4 V) (by kernel_rfl) hdr (fun hS => ?_)
       have hV0 := hS
       generalize w4.drew = V0 at *
       refine tkH 0 ?_ rfl (fun w' hS => ?_) hS ?_
       rotate_left
       ·
        have y0 := (stay_of_below hS).cell x0; have y1 := (stay_of_below hS).cell x1; have y2 := (stay_of_below hS).cell x2; have y3 := (stay_of_below hS).cell x3; have y5 := (stay_of_below hS).cell x5; have z1 := (stay_of_below hS).cell d1; have z2 := (stay_of_below hS).cell d2
        go_simp
        try with_reducible rfl
       refine tkH 1 ?_ rfl (fun w' hS => ?_) hS ?_
       rotate_left
       ·
        have y0 := (stay_of_below hS).cell x0; have y1 := (stay_of_below hS).cell x1; have y2 := (stay_of_below hS).cell x2; have y3 := (stay_of_below hS).cell x3; have y5 := (stay_of_below hS).cell x5; have z1 := (stay_of_below hS).cell d1; have z2 := (stay_of_below hS).cell d2
        go_simp
        try with_reducible rfl
       refine tkH 2 ?_ rfl (fun w' hS => ?_) hS ?_
       rotate_left
       ·
        have y0 := (stay_of_below hS).cell x0; have y1 := (stay_of_below hS).cell x1; have y2 := (stay_of_below hS).cell x2; have y3 := (stay_of_below hS).cell x3; have y5 := (stay_of_below hS).cell x5; have z1 := (stay_of_below hS).cell d1; have z2 := (stay_of_below hS).cell d2
        go_simp
        try with_reducible rfl
       refine tkH 3 ?_ rfl (fun w' hS => ?_) hS ?_
       rotate_left
       ·
        have y0 := (stay_of_below hS).cell x0; have y1 := (stay_of_below hS).cell x1; have y2 := (stay_of_below hS).cell x2; have y3 := (stay_of_below hS).cell x3; have y5 := (stay_of_below hS).cell x5; have z1 := (stay_of_below hS).cell d1; have z2 := (stay_of_below hS).cell d2
        go_simp
        try with_reducible rfl
       refine tkH 4 ?_ rfl (fun w' hS => ?_) hS ?_
       rotate_left
       ·
        have y0 := (stay_of_below hS).cell x0; have y1 := (stay_of_below hS).cell x1; have y2 := (stay_of_below hS).cell x2; have y3 := (stay_of_below hS).cell x3; have y5 := (stay_of_below hS).cell x5; have z1 := (stay_of_below hS).cell d1; have z2 := (stay_of_below hS).cell d2
        go_simp
        try with_reducible rfl
       refine tkH 5 ?_ rfl (fun w' hS => ?_) hS ?_
       rotate_left
       ·
        have y0 := (stay_of_below hS).cell x0; have y1 := (stay_of_below hS).cell x1; have y2 := (stay_of_below hS).cell x2; have y3 := (stay_of_below hS).cell x3; have y5 := (stay_of_below hS).cell x5; have z1 := (stay_of_below hS).cell d1; have z2 := (stay_of_below hS).cell d2
        go_simp
        try with_reducible rfl
       refine tkH 6 ?_ rfl (fun w' hS => ?_) hS ?_
       rotate_left
       ·
        have y0 := (stay_of_below hS).cell x0; have y1 := (stay_of_below hS).cell x1; have y2 := (stay_of_below hS).cell x2; have y3 := (stay_of_below hS).cell x3; have y5 := (stay_of_below hS).cell x5; have z1 := (stay_of_below hS).cell d1; have z2 := (stay_of_below hS).cell d2
        go_simp
        try with_reducible rfl
       refine tkH 7 ?_ rfl (fun w' hS => ?_) hS ?_
       rotate_left
       ·
        have y0 := (stay_of_below hS).cell x0; have y1 := (stay_of_below hS).cell x1; have y2 := (stay_of_below hS).cell x2; have y3 := (stay_of_below hS).cell x3; have y5 := (stay_of_below hS).cell x5; have z1 := (stay_of_below hS).cell d1; have z2 := (stay_of_below hS).cell d2
        go_simp
        try with_reducible rfl
       refine tkH 8 ?_ rfl (fun w' hS => ?_) hS ?_
       rotate_left
       ·
        have y0 := (stay_of_below hS).cell x0; have y1 := (stay_of_below hS).cell x1; have y2 := (stay_of_below hS).cell x2; have y3 := (stay_of_below hS).cell x3; have y5 := (stay_of_below hS).cell x5; have z1 := (stay_of_below hS).cell d1; have z2 := (stay_of_below hS).cell d2
        go_simp
        try with_reducible rfl
       refine tkH 9 ?_ rfl (fun w' hS => ?_) hS ?_
       rotate_left
       ·
        have y0 := (stay_of_below hS).cell x0; have y1 := (stay_of_below hS).cell x1; have y2 := (stay_of_below hS).cell x2; have y3 := (stay_of_below hS).cell x3; have y5 := (stay_of_below hS).cell x5; have z1 := (stay_of_below hS).cell d1; have z2 := (stay_of_below hS).cell d2
        go_simp
        try with_reducible rfl
       refine tkH 10 ?_ rfl (fun w' hS => ?_) hS ?_
       rotate_left
       ·
        have y0 := (stay_of_below hS).cell x0; have y1 := (stay_of_below hS).cell x1; have y2 := (stay_of_below hS).cell x2; have y3 := (stay_of_below hS).cell x3; have y5 := (stay_of_below hS).cell x5; have z1 := (stay_of_below hS).cell d1; have z2 := (stay_of_below hS).cell d2
        go_simp
        try with_reducible rfl
       refine tkH 11 ?_ rfl (fun w' hS => ?_) hS ?_
       rotate_left
       ·
        have y0 := (stay_of_below hS).cell x0; have y1 := (stay_of_below hS).cell x1; have y2 := (stay_of_below hS).cell x2; have y3 := (stay_of_below hS).cell x3; have y5 := (stay_of_below hS).cell x5; have z1 := (stay_of_below hS).cell d1; have z2 := (stay_of_below hS).cell d2
        go_simp
        try with_reducible rfl
       refine tkH 12 ?_ rfl (fun w' hS => ?_) hS ?_
       rotate_left
       ·
        have y0 := (stay_of_below hS).cell x0; have y1 := (stay_of_below hS).cell x1; have y2 := (stay_of_below hS).cell x2; have y3 := (stay_of_below hS).cell x3; have y5 := (stay_of_below hS).cell x5; have z1 := (stay_of_below hS).cell d1; have z2 := (stay_of_below hS).cell d2
        go_simp
        try with_reducible rfl
       refine tkH 13 ?_ rfl (fun w' hS => ?_) hS ?_
       rotate_left
       ·
        have y0 := (stay_of_below hS).cell x0; have y1 := (stay_of_below hS).cell x1; have y2 := (stay_of_below hS).cell x2; have y3 := (stay_of_below hS).cell x3; have y5 := (stay_of_below hS).cell x5; have z1 := (stay_of_below hS).cell d1; have z2 := (stay_of_below hS).cell d2
        go_simp
        try with_reducible rfl
       refine tkH 14 ?_ rfl (fun w' hS => ?_) hS ?_
       rotate_left
       ·
        have y0 := (stay_of_below hS).cell x0; have y1 := (stay_of_below hS).cell x1; have y2 := (stay_of_below hS).cell x2; have y3 := (stay_of_below hS).cell x3; have y5 := (stay_of_below hS).cell x5; have z1 := (stay_of_below hS).cell d1; have z2 := (stay_of_below hS).cell d2
        go_simp
        try with_reducible rfl
       refine tkH 15 ?_ rfl (fun w' hS => ?_) hS ?_
       rotate_left
       ·
        have y0 := (stay_of_below hS).cell x0; have y1 := (stay_of_below hS).cell x1; have y2 := (stay_of_below hS).cell x2; have y3 := (stay_of_below hS).cell x3; have y5 := (stay_of_below hS).cell x5; have z1 := (stay_of_below hS).cell d1; have z2 := (stay_of_below hS).cell d2
        go_simp
        try with_reducible rfl
       refine tkH 16 ?_ rfl (fun w' hS => ?_) hS ?_
       rotate_left
       ·
        have y0 := (stay_of_below hS).cell x0; have y1 := (stay_of_below hS).cell x1; have y2 := (stay_of_below hS).cell x2; have y3 := (stay_of_below hS).cell x3; have y5 := (stay_of_below hS).cell x5; have z1 := (stay_of_below hS).cell d1; have z2 := (stay_of_below hS).cell d2
        go_simp
        try with_reducible rfl
       refine tkH 17 ?_ rfl (fun w' hS => ?_) hS ?_
       rotate_left
       ·
        have y0 := (stay_of_below hS).cell x0; have y1 := (stay_of_below hS).cell x1; have y2 := (stay_of_below hS).cell x2; have y3 := (stay_of_below hS).cell x3; have y5 := (stay_of_below hS).cell x5; have z1 := (stay_of_below hS).cell d1; have z2 := (stay_of_below hS).cell d2
        go_simp
        try with_reducible rfl
       refine rdH 18 rfl (fun K hK => ?_)
       clear hS
       go_simp
       refine (cFt.out _ hV0).mono ?_
       rintro e w5 ⟨rfl, hb5⟩
       go_wp2_with fail
       refine hK.out _ _ (hV0.trans (hb5.mono hV0.size)) (fun hS => ?_)
       clear hK K
       try simp only [List.getElem_toArray, List.getElem_cons_succ, List.getElem_cons_zero, Act.put, List.setIfInBounds_toArray, List.set_cons_zero, List.set_cons_succ]
       have hV5 := hV0.trans (hb5.mono hV0.size)
       refine tkH 19 ?_ rfl (fun w' hS => ?_) hS ?_
       rotate_left
       ·
        skip
        go_simp
        try with_reducible rfl
       refine tkH 20 ?_ rfl (fun w' hS => ?_) hS ?_
       rotate_left
       ·
        skip
        go_simp
        try with_reducible rfl
       refine tkH 21 ?_ rfl (fun w' hS => ?_) hS ?_
       rotate_left
       ·
        skip
        go_simp
        try with_reducible rfl
       refine tkH 22 ?_ rfl (fun w' hS => ?_) hS ?_
       rotate_left
       ·
        skip
        go_simp
        try with_reducible rfl
       refine wpAnyH_done (by kernel_rfl) ?_ _
       clear hS hb5 hV0 hdr cFt
       replace x0 := (stay_of_below hV5).cell x0
       replace x1 := (stay_of_below hV5).cell x1
       replace x2 := (stay_of_below hV5).cell x2
       replace x3 := (stay_of_below hV5).cell x3
       replace x5 := (stay_of_below hV5).cell x5
       replace d1 := (stay_of_below hV5).cell d1
       replace d2 := (stay_of_below hV5).cell d2
       replace hV5 := Lib.hid hV5
       go_upto_region 12 with fail
       have hdr : Below w4.heap.size w4 w5.drew := hV5.out.trans ((below_drewN (Below.refl _ _) 1 : Below w5.heap.size w5 w5.drew).mono hV5.out.size)
       have hdr5 : Below w5.heap.size w5 w5.drew := below_drewN (Below.refl _ _) 1
       refine wp_region_held_drew (S := fun V => Below w5.heap.size w5 V) (by kernel_rfl) hdr5 (fun hS => ?_)
       have hV0 := hS
       generalize w5.drew = V0 at *
       refine tkH 0 ?_ rfl (fun w' hS => ?_) hS ?_
       rotate_left
       ·
        have y0 := (stay_of_below hS).cell x0; have y1 := (stay_of_below hS).cell x1; have y2 := (stay_of_below hS).cell x2; have y3 := (stay_of_below hS).cell x3; have y5 := (stay_of_below hS).cell x5; have z1 := (stay_of_below hS).cell d1; have z2 := (stay_of_below hS).cell d2
        go_simp
        try with_reducible rfl
       refine tkH 1 ?_ rfl (fun w' hS => ?_) hS ?_
       rotate_left
       ·
        have y0 := (stay_of_below hS).cell x0; have y1 := (stay_of_below hS).cell x1; have y2 := (stay_of_below hS).cell x2; have y3 := (stay_of_below hS).cell x3; have y5 := (stay_of_below hS).cell x5; have z1 := (stay_of_below hS).cell d1; have z2 := (stay_of_below hS).cell d2
        go_simp
        try with_reducible rfl
       refine tkH 2 ?_ rfl (fun w' hS => ?_) hS ?_
       rotate_left
       ·
        have y0 := (stay_of_below hS).cell x0; have y1 := (stay_of_below hS).cell x1; have y2 := (stay_of_below hS).cell x2; have y3 := (stay_of_below hS).cell x3; have y5 := (stay_of_below hS).cell x5; have z1 := (stay_of_below hS).cell d1; have z2 := (stay_of_below hS).cell d2
        go_simp
        try with_reducible rfl
       refine tkH 3 ?_ rfl (fun w' hS => ?_) hS ?_
       rotate_left
       ·
        have y0 := (stay_of_below hS).cell x0; have y1 := (stay_of_below hS).cell x1; have y2 := (stay_of_below hS).cell x2; have y3 := (stay_of_below hS).cell x3; have y5 := (stay_of_below hS).cell x5; have z1 := (stay_of_below hS).cell d1; have z2 := (stay_of_below hS).cell d2
        go_simp
        try with_reducible rfl
       refine tkH 4 ?_ rfl (fun w' hS => ?_) hS ?_
       rotate_left
       ·
        have y0 := (stay_of_below hS).cell x0; have y1 := (stay_of_below hS).cell x1; have y2 := (stay_of_below hS).cell x2; have y3 := (stay_of_below hS).cell x3; have y5 := (stay_of_below hS).cell x5; have z1 := (stay_of_below hS).cell d1; have z2 := (stay_of_below hS).cell d2
        go_simp
        try with_reducible rfl
       refine tkH 5 ?_ rfl (fun w' hS => ?_) hS ?_
       rotate_left
       ·
        have y0 := (stay_of_below hS).cell x0; have y1 := (stay_of_below hS).cell x1; have y2 := (stay_of_below hS).cell x2; have y3 := (stay_of_below hS).cell x3; have y5 := (stay_of_below hS).cell x5; have z1 := (stay_of_below hS).cell d1; have z2 := (stay_of_below hS).cell d2
        go_simp
        try with_reducible rfl
       refine tkH 6 ?_ rfl (fun w' hS => ?_) hS ?_
       rotate_left
       ·
        have y0 := (stay_of_below hS).cell x0; have y1 := (stay_of_below hS).cell x1; have y2 := (stay_of_below hS).cell x2; have y3 := (stay_of_below hS).cell x3; have y5 := (stay_of_below hS).cell x5; have z1 := (stay_of_below hS).cell d1; have z2 := (stay_of_below hS).cell d2
        go_simp
        try with_reducible rfl
       refine tkH 7 ?_ rfl (fun w' hS => ?_) hS ?_
       rotate_left
       ·
        have y0 := (stay_of_below hS).cell x0; have y1 := (stay_of_below hS).cell x1; have y2 := (stay_of_below hS).cell x2; have y3 := (stay_of_below hS).cell x3; have y5 := (stay_of_below hS).cell x5; have z1 := (stay_of_below hS).cell d1; have z2 := (stay_of_below hS).cell d2
        go_simp
        try with_reducible rfl
       refine tkH 8 ?_ rfl (fun w' hS => ?_) hS ?_
       rotate_left
       ·
        have y0 := (stay_of_below hS).cell x0; have y1 := (stay_of_below hS).cell x1; have y2 := (stay_of_below hS).cell x2; have y3 := (stay_of_below hS).cell x3; have y5 := (stay_of_below hS).cell x5; have z1 := (stay_of_below hS).cell d1; have z2 := (stay_of_below hS).cell d2
        go_simp
        try with_reducible rfl
       refine tkH 9 ?_ rfl (fun w' hS => ?_) hS ?_
       rotate_left
       ·
        have y0 := (stay_of_below hS).cell x0; have y1 := (stay_of_below hS).cell x1; have y2 := (stay_of_below hS).cell x2; have y3 := (stay_of_below hS).cell x3; have y5 := (stay_of_below hS).cell x5; have z1 := (stay_of_below hS).cell d1; have z2 := (stay_of_below hS).cell d2
        go_simp
        try with_reducible rfl
       refine tkH 10 ?_ rfl (fun w' hS => ?_) hS ?_
       rotate_left
       ·
        have y0 := (stay_of_below hS).cell x0; have y1 := (stay_of_below hS).cell x1; have y2 := (stay_of_below hS).cell x2; have y3 := (stay_of_below hS).cell x3; have y5 := (stay_of_below hS).cell x5; have z1 := (stay_of_below hS).cell d1; have z2 := (stay_of_below hS).cell d2
        go_simp
        try with_reducible rfl
       refine tkH 11 ?_ rfl (fun w' hS => ?_) hS ?_
       rotate_left
       ·
        have y0 := (stay_of_below hS).cell x0; have y1 := (stay_of_below hS).cell x1; have y2 := (stay_of_below hS).cell x2; have y3 := (stay_of_below hS).cell x3; have y5 := (stay_of_below hS).cell x5; have z1 := (stay_of_below hS).cell d1; have z2 := (stay_of_below hS).cell d2
        go_simp
        try with_reducible rfl
       refine tkH 12 ?_ rfl (fun w' hS => ?_) hS ?_
       rotate_left
       ·
        have y0 := (stay_of_below hS).cell x0; have y1 := (stay_of_below hS).cell x1; have y2 := (stay_of_below hS).cell x2; have y3 := (stay_of_below hS).cell x3; have y5 := (stay_of_below hS).cell x5; have z1 := (stay_of_below hS).cell d1; have z2 := (stay_of_below hS).cell d2
        go_simp
        try with_reducible rfl
       refine tkH 13 ?_ rfl (fun w' hS => ?_) hS ?_
       rotate_left
       ·
        have y0 := (stay_of_below hS).cell x0; have y1 := (stay_of_below hS).cell x1; have y2 := (stay_of_below hS).cell x2; have y3 := (stay_of_below hS).cell x3; have y5 := (stay_of_below hS).cell x5; have z1 := (stay_of_below hS).cell d1; have z2 := (stay_of_below hS).cell d2
        go_simp
        try with_reducible rfl
       refine tkH 15 ?_ rfl (fun w' hS => ?_) hS ?_
       rotate_left
       ·
        have y0 := (stay_of_below hS).cell x0; have y1 := (stay_of_below hS).cell x1; have y2 := (stay_of_below hS).cell x2; have y3 := (stay_of_below hS).cell x3; have y5 := (stay_of_below hS).cell x5; have z1 := (stay_of_below hS).cell d1; have z2 := (stay_of_below hS).cell d2
        go_simp
        try with_reducible rfl
       refine tkH 16 ?_ rfl (fun w' hS => ?_) hS ?_
       rotate_left
       ·
        have y0 := (stay_of_below hS).cell x0; have y1 := (stay_of_below hS).cell x1; have y2 := (stay_of_below hS).cell x2; have y3 := (stay_of_below hS).cell x3; have y5 := (stay_of_below hS).cell x5; have z1 := (stay_of_below hS).cell d1; have z2 := (stay_of_below hS).cell d2
        go_simp
        try with_reducible rfl
       refine tkH 17 ?_ rfl (fun w' hS => ?_) hS ?_
       rotate_left
       ·
        have y0 := (stay_of_below hS).cell x0; have y1 := (stay_of_below hS).cell x1; have y2 := (stay_of_below hS).cell x2; have y3 := (stay_of_below hS).cell x3; have y5 := (stay_of_below hS).cell x5; have z1 := (stay_of_below hS).cell d1; have z2 := (stay_of_below hS).cell d2
        go_simp
        try with_reducible rfl
       refine tkH 18 ?_ rfl (fun w' hS => ?_) hS ?_
       rotate_left
       ·
        have y0 := (stay_of_below hS).cell x0; have y1 := (stay_of_below hS).cell x1; have y2 := (stay_of_below hS).cell x2; have y3 := (stay_of_below hS).cell x3; have y5 := (stay_of_below hS).cell x5; have z1 := (stay_of_below hS).cell d1; have z2 := (stay_of_below hS).cell d2
        go_simp
        try with_reducible rfl
       refine tkH 19 ?_ rfl (fun w' hS => ?_) hS ?_
       rotate_left
       ·
        have y0 := (stay_of_below hS).cell x0; have y1 := (stay_of_below hS).cell x1; have y2 := (stay_of_below hS).cell x2; have y3 := (stay_of_below hS).cell x3; have y5 := (stay_of_below hS).cell x5; have z1 := (stay_of_below hS).cell d1; have z2 := (stay_of_below hS).cell d2
        go_simp
        try with_reducible rfl
       refine tkH 20 ?_ rfl (fun w' hS => ?_) hS ?_
       rotate_left
       ·
        have y0 := (stay_of_below hS).cell x0; have y1 := (stay_of_below hS).cell x1; have y2 := (stay_of_below hS).cell x2; have y3 := (stay_of_below hS).cell x3; have y5 := (stay_of_below hS).cell x5; have z1 := (stay_of_below hS).cell d1; have z2 := (stay_of_below hS).cell d2
        go_simp
        try with_reducible rfl
       refine tkH 21 ?_ rfl (fun w' hS => ?_) hS ?_
       rotate_left
       ·
        have y0 := (stay_of_below hS).cell x0; have y1 := (stay_of_below hS).cell x1; have y2 := (stay_of_below hS).cell x2; have y3 := (stay_of_below hS).cell x3; have y5 := (stay_of_below hS).cell x5; have z1 := (stay_of_below hS).cell d1; have z2 := (stay_of_below hS).cell d2
        go_simp
        try with_reducible rfl
       refine tkH 22 ?_ rfl (fun w' hS => ?_) hS ?_
       rotate_left
       ·
        have y0 := (stay_of_below hS).cell x0; have y1 := (stay_of_below hS).cell x1; have y2 := (stay_of_below hS).cell x2; have y3 := (stay_of_below hS).cell x3; have y5 := (stay_of_below hS).cell x5; have z1 := (stay_of_below hS).cell d1; have z2 := (stay_of_below hS).cell d2
        go_simp
        try with_reducible rfl
       refine tkH 23 ?_ rfl (fun w' hS => ?_) hS ?_
       rotate_left
       ·
        have y0 := (stay_of_below hS).cell x0; have y1 := (stay_of_below hS).cell x1; have y2 := (stay_of_below hS).cell x2; have y3 := (stay_of_below hS).cell x3; have y5 := (stay_of_below hS).cell x5; have z1 := (stay_of_below hS).cell d1; have z2 := (stay_of_below hS).cell d2
        go_simp
        try with_reducible rfl
       refine tkH 24 ?_ rfl (fun w' hS => ?_) hS ?_
       rotate_left
       ·
        have y0 := (stay_of_below hS).cell x0; have y1 := (stay_of_below hS).cell x1; have y2 := (stay_of_below hS).cell x2; have y3 := (stay_of_below hS).cell x3; have y5 := (stay_of_below hS).cell x5; have z1 := (stay_of_below hS).cell d1; have z2 := (stay_of_below hS).cell d2
        go_simp
        try with_reducible rfl
       refine tkH 25 ?_ rfl (fun w' hS => ?_) hS ?_
       rotate_left
       ·
        have y0 := (stay_of_below hS).cell x0; have y1 := (stay_of_below hS).cell x1; have y2 := (stay_of_below hS).cell x2; have y3 := (stay_of_below hS).cell x3; have y5 := (stay_of_below hS).cell x5; have z1 := (stay_of_below hS).cell d1; have z2 := (stay_of_below hS).cell d2
        go_simp
        try with_reducible rfl
       refine tkH 26 ?_ rfl (fun w' hS => ?_) hS ?_
       rotate_left
       ·
        have y0 := (stay_of_below hS).cell x0; have y1 := (stay_of_below hS).cell x1; have y2 := (stay_of_below hS).cell x2; have y3 := (stay_of_below hS).cell x3; have y5 := (stay_of_below hS).cell x5; have z1 := (stay_of_below hS).cell d1; have z2 := (stay_of_below hS).cell d2
        go_simp
        try with_reducible rfl
       refine tkH 27 ?_ rfl (fun w' hS => ?_) hS ?_
       rotate_left
       ·
        have y0 := (stay_of_below hS).cell x0; have y1 := (stay_of_below hS).cell x1; have y2 := (stay_of_below hS).cell x2; have y3 := (stay_of_below hS).cell x3; have y5 := (stay_of_below hS).cell x5; have z1 := (stay_of_below hS).cell d1; have z2 := (stay_of_below hS).cell d2
        go_simp
        try with_reducible rfl
       refine tkH 28 ?_ rfl (fun w' hS => ?_) hS ?_
       rotate_left
       ·
        have y0 := (stay_of_below hS).cell x0; have y1 := (stay_of_below hS).cell x1; have y2 := (stay_of_below hS).cell x2; have y3 := (stay_of_below hS).cell x3; have y5 := (stay_of_below hS).cell x5; have z1 := (stay_of_below hS).cell d1; have z2 := (stay_of_below hS).cell d2
        go_simp
        try with_reducible rfl
       refine rdH 14 rfl (fun K hK => ?_)
       clear hS
       go_simp
       refine (cC.out _ hdr).mono ?_
       rintro e w6 ⟨rfl, hb6⟩
       go_wp2_with fail
       refine hK.out _ _ (hV0.trans (hb6.mono hV0.size)) (fun hS => ?_)
       clear hK K
       try simp only [List.getElem_toArray, List.getElem_cons_succ, List.getElem_cons_zero, Act.put, List.setIfInBounds_toArray, List.set_cons_zero, List.set_cons_succ]
       have hd6 := hdr.trans (hb6.mono hdr.size)
       have hV6 := hV0.trans (hb6.mono hV0.size)
       refine rdH 29 rfl (fun K hK => ?_)
       clear hS
       go_simp
       refine (cO.out _ hd6).mono ?_
       rintro e w7 ⟨rfl, hb7⟩
       go_wp2_with fail
       refine hK.out _ _ (hV6.trans (hb7.mono hV6.size)) (fun hS => ?_)
       clear hK K
       try simp only [List.getElem_toArray, List.getElem_cons_succ, List.getElem_cons_zero, Act.put, List.setIfInBounds_toArray, List.set_cons_zero, List.set_cons_succ]
       have hd7 := Lib.hid (hd6.trans (hb7.mono hd6.size))
       refine tkH 30 ?_ rfl (fun w' hS => ?_) hS ?_
       rotate_left
       ·
        skip
        go_simp
        try with_reducible rfl
       refine wpAnyH_done (by kernel_rfl) ?_ _
       clear hS hb6 hb7 hV0 hV6 hdr hdr5 hd6 cC cO
       go_wp2
       go_meet
       exact ⟨by rw [hz.out], hd7⟩
    obtain ⟨w5, rfl⟩ : ∃ w5 : World, w5 = wc := ⟨_, rfl⟩
    obtain ⟨rfl, hb45⟩ := hcut
    replace x0 := (stay_of_below hb45.out).cell x0
    replace x1 := (stay_of_below hb45.out).cell x1
    replace x2 := (stay_of_below hb45.out).cell x2
    replace x3 := (stay_of_below hb45.out).cell x3
    replace x5 := (stay_of_below hb45.out).cell x5
    have hB5 := Lib.hid (hB4.out.trans (hb45.out.mono hB4.out.size))
    have cF5 := Lib.hid (cF.out w5 hB5.out x y)
    have hb35 := Lib.hid (hb.out.trans (hb45.out.mono hb.out.size))
    generalize fitsZ A B x y = q at *
    clear hb45 hb hB4
    go_wp2_with fail
    refine cF5.out.mono ?_
    rintro e w6 ⟨rfl, hb6⟩
    have hb36 := Lib.hid (hb35.out.trans (hb6.mono hb35.out.size))
    clear cF5 hb6 hb35 hB5
    cases q
    all_goals
     go_wp2
     go_roundw
     case rel => exact ⟨k + 1, by have := hLn.out; omega, by go_num, hb36⟩
     case measure => simp [intOf]; omega
   ·have hend : ((k : Int) + 1 < (L.length : Int)) → ¬ (k : Int) < 20 := fun h1 h2 => hc ⟨h1, h2⟩
    have hB4 := Lib.hid (hB3.out.trans (hb.out.mono hB3.out.size))
    have hdr : Below w4.heap.size w4 w4.drew := below_drewN (Below.refl _ _) 1
    have cW := Lib.hid (fun V (h : Below w4.heap.size w4 V) => wakes9_any V ((hEh.out V (hB4.out.trans (h.mono hB4.out.size))).env))
    clear hc
    generalize sameT A B = q at *
    by_cases hc1 : (k : Int) + 1 < (L.length : Int)
    ·have hc2 := hend hc1
     clear hend
     go_upto_region 16 with fail
     refine wp_region_held_drew (S := fun V => Below w4.heap.size w4 V) (by kernel_rfl) hdr (fun hS => ?_)
     have hV0 := hS
     generalize w4.drew = V0 at *
     refine tkH 0 ?_ rfl (fun w' hS => ?_) hS ?_
     rotate_left
     ·
      have y0 := (stay_of_below hS).cell x0; have y1 := (stay_of_below hS).cell x1; have y2 := (stay_of_below hS).cell x2; have y3 := (stay_of_below hS).cell x3; have y5 := (stay_of_below hS).cell x5
      go_simp
      try with_reducible rfl
     refine tkH 1 ?_ rfl (fun w' hS => ?_) hS ?_
     rotate_left
     ·
      have y0 := (stay_of_below hS).cell x0; have y1 := (stay_of_below hS).cell x1; have y2 := (stay_of_below hS).cell x2; have y3 := (stay_of_below hS).cell x3; have y5 := (stay_of_below hS).cell x5
      go_simp
      try with_reducible rfl
     refine tkH 2 ?_ rfl (fun w' hS => ?_) hS ?_
     rotate_left
     ·
      have y0 := (stay_of_below hS).cell x0; have y1 := (stay_of_below hS).cell x1; have y2 := (stay_of_below hS).cell x2; have y3 := (stay_of_below hS).cell x3; have y5 := (stay_of_below hS).cell x5
      go_simp
      try with_reducible rfl
     refine tkH 3 ?_ rfl (fun w' hS => ?_) hS ?_
     rotate_left
     ·
      have y0 := (stay_of_below hS).cell x0; have y1 := (stay_of_below hS).cell x1; have y2 := (stay_of_below hS).cell x2; have y3 := (stay_of_below hS).cell x3; have y5 := (stay_of_below hS).cell x5
      go_simp
      try with_reducible rfl
     refine tkH 5 ?_ rfl (fun w' hS => ?_) hS ?_
     rotate_left
     ·
      have y0 := (stay_of_below hS).cell x0; have y1 := (stay_of_below hS).cell x1; have y2 := (stay_of_below hS).cell x2; have y3 := (stay_of_below hS).cell x3; have y5 := (stay_of_below hS).cell x5
      go_simp
      try with_reducible rfl
     refine tkH 6 ?_ rfl (fun w' hS => ?_) hS ?_
     rotate_left
     ·
      have y0 := (stay_of_below hS).cell x0; have y1 := (stay_of_below hS).cell x1; have y2 := (stay_of_below hS).cell x2; have y3 := (stay_of_below hS).cell x3; have y5 := (stay_of_below hS).cell x5
      go_simp
      try with_reducible rfl
     refine tkH 7 ?_ rfl (fun w' hS => ?_) hS ?_
     rotate_left
     ·
      have y0 := (stay_of_below hS).cell x0; have y1 := (stay_of_below hS).cell x1; have y2 := (stay_of_below hS).cell x2; have y3 := (stay_of_below hS).cell x3; have y5 := (stay_of_below hS).cell x5
      go_simp
      try with_reducible rfl
     refine tkH 8 ?_ rfl (fun w' hS => ?_) hS ?_
     rotate_left
     ·
      have y0 := (stay_of_below hS).cell x0; have y1 := (stay_of_below hS).cell x1; have y2 := (stay_of_below hS).cell x2; have y3 := (stay_of_below hS).cell x3; have y5 := (stay_of_below hS).cell x5
      go_simp
      try with_reducible rfl
     refine rdH 4 rfl (fun K hK => ?_)
     clear hS
     go_simp
     refine (cS.out _ (hB4.out.trans (hV0.mono hB4.out.size))).mono ?_
     rintro e w5 ⟨rfl, hb5⟩
     go_wp2_with fail
     refine hK.out _ _ (hV0.trans (hb5.mono hV0.size)) (fun hS => ?_)
     clear hK K
     try simp only [List.getElem_toArray, List.getElem_cons_succ, List.getElem_cons_zero, Act.put, List.setIfInBounds_toArray, List.set_cons_zero, List.set_cons_succ]
     have hV5 := hV0.trans (hb5.mono hV0.size)
     refine rdH 9 rfl (fun K hK => ?_)
     clear hS
     go_simp
     refine (cR.out _ (hB4.out.trans (hV5.mono hB4.out.size))).mono ?_
     rintro e w6 ⟨rfl, hb6⟩
     go_wp2_with fail
     refine hK.out _ _ (hV5.trans (hb6.mono hV5.size)) (fun hS => ?_)
     clear hK K
     try simp only [List.getElem_toArray, List.getElem_cons_succ, List.getElem_cons_zero, Act.put, List.setIfInBounds_toArray, List.set_cons_zero, List.set_cons_succ]
     have hV6 := hV5.trans (hb6.mono hV5.size)
     refine tkH 10 ?_ rfl (fun w' hS => ?_) hS ?_
     rotate_left
     ·
      skip
      go_simp
      try with_reducible rfl
     refine tkH 11 ?_ rfl (fun w' hS => ?_) hS ?_
     rotate_left
     ·
      skip
      go_simp
      try with_reducible rfl
     refine rdH 12 rfl (fun K hK => ?_)
     clear hS
     go_simp
     refine (cW.out _ hV6).mono ?_
     rintro e w7 ⟨rfl, hb7⟩
     go_wp2_with fail
     refine hK.out _ _ (hV6.trans (hb7.mono hV6.size)) (fun hS => ?_)
     clear hK K
     try simp only [List.getElem_toArray, List.getElem_cons_succ, List.getElem_cons_zero, Act.put, List.setIfInBounds_toArray, List.set_cons_zero, List.set_cons_succ]
     have hV7 := Lib.hid (hB4.out.trans ((hV6.trans (hb7.mono hV6.size)).mono hB4.out.size))
     refine tkH 13 ?_ rfl (fun w' hS => ?_) hS ?_
     rotate_left
     ·
      skip
      go_simp
      try with_reducible rfl
     refine tkH 14 ?_ rfl (fun w' hS => ?_) hS ?_
     rotate_left
     ·
      skip
      go_simp
      try with_reducible rfl
     refine wpAnyH_done (by kernel_rfl) ?_ _
     clear hS hb5 hb6 hb7 hV5 hV6 hV0 hdr cS cR cW
     go_wp2
     go_ret
     exact ⟨rfl, hV7.out⟩
    ·clear hend
     go_upto_region 16 with fail
     refine wp_region_held_drew (S := fun V => Below w4.heap.size w4 V) (by kernel_rfl) hdr (fun hS => ?_)
     have hV0 := hS
     generalize w4.drew = V0 at *
     refine tkH 0 ?_ rfl (fun w' hS => ?_) hS ?_
     rotate_left
     ·
      have y0 := (stay_of_below hS).cell x0; have y1 := (stay_of_below hS).cell x1; have y2 := (stay_of_below hS).cell x2; have y3 := (stay_of_below hS).cell x3; have y5 := (stay_of_below hS).cell x5
      go_simp
      try with_reducible rfl
     refine tkH 1 ?_ rfl (fun w' hS => ?_) hS ?_
     rotate_left
     ·
      have y0 := (stay_of_below hS).cell x0; have y1 := (stay_of_below hS).cell x1; have y2 := (stay_of_below hS).cell x2; have y3 := (stay_of_below hS).cell x3; have y5 := (stay_of_below hS).cell x5
      go_simp
      try with_reducible rfl
     refine tkH 2 ?_ rfl (fun w' hS => ?_) hS ?_
     rotate_left
     ·
      have y0 := (stay_of_below hS).cell x0; have y1 := (stay_of_below hS).cell x1; have y2 := (stay_of_below hS).cell x2; have y3 := (stay_of_below hS).cell x3; have y5 := (stay_of_below hS).cell x5
      go_simp
      try with_reducible rfl
     refine tkH 3 ?_ rfl (fun w' hS => ?_) hS ?_
     rotate_left
     ·
      have y0 := (stay_of_below hS).cell x0; have y1 := (stay_of_below hS).cell x1; have y2 := (stay_of_below hS).cell x2; have y3 := (stay_of_below hS).cell x3; have y5 := (stay_of_below hS).cell x5
      go_simp
      try with_reducible rfl
     refine tkH 5 ?_ rfl (fun w' hS => ?_) hS ?_
     rotate_left
     ·
      have y0 := (stay_of_below hS).cell x0; have y1 := (stay_of_below hS).cell x1; have y2 := (stay_of_below hS).cell x2; have y3 := (stay_of_below hS).cell x3; have y5 := (stay_of_below hS).cell x5
      go_simp
      try with_reducible rfl
     refine tkH 6 ?_ rfl (fun w' hS => ?_) hS ?_
     rotate_left
     ·
      have y0 := (stay_of_below hS).cell x0; have y1 := (stay_of_below hS).cell x1; have y2 := (stay_of_below hS).cell x2; have y3 := (stay_of_below hS).cell x3; have y5 := (stay_of_below hS).cell x5
      go_simp
      try with_reducible rfl
     refine tkH 7 ?_ rfl (fun w' hS => ?_) hS ?_
     rotate_left
     ·
      have y0 := (stay_of_below hS).cell x0; have y1 := (stay_of_below hS).cell x1; have y2 := (stay_of_below hS).cell x2; have y3 := (stay_of_below hS).cell x3; have y5 := (stay_of_below hS).cell x5
      go_simp
      try with_reducible rfl
     refine tkH 8 ?_ rfl (fun w' hS => ?_) hS ?_
     rotate_left
     ·
      have y0 := (stay_of_below hS).cell x0; have y1 := (stay_of_below hS).cell x1; have y2 := (stay_of_below hS).cell x2; have y3 := (stay_of_below hS).cell x3; have y5 := (stay_of_below hS).cell x5
      go_simp
      try with_reducible rfl
     refine rdH 4 rfl (fun K hK => ?_)
     clear hS
     go_simp
     refine (cS.out _ (hB4.out.trans (hV0.mono hB4.out.size))).mono ?_
     rintro e w5 ⟨rfl, hb5⟩
     go_wp2_with fail
     refine hK.out _ _ (hV0.trans (hb5.mono hV0.size)) (fun hS => ?_)
     clear hK K
     try simp only [List.getElem_toArray, List.getElem_cons_succ, List.getElem_cons_zero, Act.put, List.setIfInBounds_toArray, List.set_cons_zero, List.set_cons_succ]
     have hV5 := hV0.trans (hb5.mono hV0.size)
     refine rdH 9 rfl (fun K hK => ?_)
     clear hS
     go_simp
     refine (cR.out _ (hB4.out.trans (hV5.mono hB4.out.size))).mono ?_
     rintro e w6 ⟨rfl, hb6⟩
     go_wp2_with fail
     refine hK.out _ _ (hV5.trans (hb6.mono hV5.size)) (fun hS => ?_)
     clear hK K
     try simp only [List.getElem_toArray, List.getElem_cons_succ, List.getElem_cons_zero, Act.put, List.setIfInBounds_toArray, List.set_cons_zero, List.set_cons_succ]
     have hV6 := hV5.trans (hb6.mono hV5.size)
     refine tkH 10 ?_ rfl (fun w' hS => ?_) hS ?_
     rotate_left
     ·
      skip
      go_simp
      try with_reducible rfl
     refine tkH 11 ?_ rfl (fun w' hS => ?_) hS ?_
     rotate_left
     ·
      skip
      go_simp
      try with_reducible rfl
     refine rdH 12 rfl (fun K hK => ?_)
     clear hS
     go_simp
     refine (cW.out _ hV6).mono ?_
     rintro e w7 ⟨rfl, hb7⟩
     go_wp2_with fail
     refine hK.out _ _ (hV6.trans (hb7.mono hV6.size)) (fun hS => ?_)
     clear hK K
     try simp only [List.getElem_toArray, List.getElem_cons_succ, List.getElem_cons_zero, Act.put, List.setIfInBounds_toArray, List.set_cons_zero, List.set_cons_succ]
     have hV7 := Lib.hid (hB4.out.trans ((hV6.trans (hb7.mono hV6.size)).mono hB4.out.size))
     refine tkH 13 ?_ rfl (fun w' hS => ?_) hS ?_
     rotate_left
     ·
      skip
      go_simp
      try with_reducible rfl
     refine tkH 14 ?_ rfl (fun w' hS => ?_) hS ?_
     rotate_left
     ·
      skip
      go_simp
      try with_reducible rfl
     refine wpAnyH_done (by kernel_rfl) ?_ _
     clear hS hb5 hb6 hb7 hV5 hV6 hV0 hdr cS cR cW
     go_wp2
     go_ret
     exact ⟨rfl, hV7.out⟩
end Go.Proofs.YtidplkfhodpdhaaGreatDoor.tab
namespace Go.Proofs.YtidplkfhodpdhaaGreatDoor.tab
open Go.ChangeShapes Go.WideShapes Go.ChangeAt Go.RowKit kit dec val
set_option linter.unusedVariables false
set_option maxRecDepth 100000 in
theorem rfits_all {H : Type} (enc : TypeId × Value → H) (W : World) (base : Nat) (v0 : Value) (d0 : DataW H) (p0 : List MemPlace) (hv : Value.okWide Tryz.prog W .any base 42 v0)
 (h : DataW.Trod enc Tryz.prog W 0 (fun _ => true) true 42 v0 d0 p0) (hlt : ∀ x ∈ p0, x.block < W.heap.size) (hb : Rows.uptoBulk d0 ≤ 1048576) (hE : EnvD W) :
 Calls Tryz.prog 4 #[v0] W fun e w' => e = .returned (.bool true) ∧ Below W.heap.size W w' := by
 obtain ⟨va, ra, vb, rb, vv, nv, A, B, X, lang, L, hT⟩ := open_two hv h hb
 exact rfits_law W hE v0 va ra vb rb vv nv A B X lang L hT
set_option maxRecDepth 100000 in
theorem rowsFits_witness (os : Os) {H : Type} (enc : TypeId × Value → H) :
 ∃ (w : World) (tape : Tape) (i : Input), w.os = os ∧ (w.forCall tape i).Shaped Tryz.prog ∧ i.vars = [] ∧ Input.okWide Tryz.prog (w.forCall tape i) .any w.heap.size 4 i ∧
  (Rows.OpenSpec.upto Rows.rowsFitsSpec).preRow enc Tryz.prog Tryz.f4 Rows.rowsFitsUptoRow.domain false Rows.rowsFitsUptoRow.laid (w.forCall tape i).memory i.args ∧ ({} : Assume).holds Tryz.prog (lone (Frame.enter Tryz.prog 4 i.args .normal) [] (w.forCall tape i)) := by
 have hx : ∃ places, DataW.whole enc Tryz.prog ((World.laidAll Tryz.prog os laidList).forCall (fun _ _ => 0) ⟨#[], #[.agg #[.slice none 0 0, .slice none 0 0, .slice none 0 0, .slice none 0 0, .slice none 0 0, .int .i64 0, .slice none 0 0]], []⟩).memory Tryz.f4.params.toList Rows.rowsFitsSpec.vars false (#[.agg #[.slice none 0 0, .slice none 0 0, .slice none 0 0, .slice none 0 0, .slice none 0 0, .int .i64 0, .slice none 0 0]] : Array Value).toList 8 = some ([.agg [.agg [.nil, .nil], .agg [.nil, .nil], .nil, .lit (.int .i64 0), .nil]], [], places) := ⟨[], by kernel_rfl⟩
 obtain ⟨places, hx⟩ := hx
 have hok : Input.okWideB Tryz.prog ((World.laidAll Tryz.prog os laidList).forCall (fun _ _ => 0) ⟨#[], #[.agg #[.slice none 0 0, .slice none 0 0, .slice none 0 0, .slice none 0 0, .slice none 0 0, .int .i64 0, .slice none 0 0]], []⟩) 4 ⟨#[], #[.agg #[.slice none 0 0, .slice none 0 0, .slice none 0 0, .slice none 0 0, .slice none 0 0, .int .i64 0, .slice none 0 0]], []⟩ = true := by kernel_rfl
 refine ⟨World.laidAll Tryz.prog os laidList, fun _ _ => 0, ⟨#[], #[.agg #[.slice none 0 0, .slice none 0 0, .slice none 0 0, .slice none 0 0, .slice none 0 0, .int .i64 0, .slice none 0 0]], []⟩, World.laidAll_os _ _ _, World.shaped_of_ZipB (by kernel_rfl) (by kernel_rfl), (Input.okWide_of_okWideB (base := 0) hok).1, (Input.okWide_of_okWideB hok).2, ?_, ?_⟩
 ·exact OpenSpec.preRow_of_cond 8 hx (by kernel_rfl) (fun k hk => by cases hk; kernel_rfl) (by kernel_rfl) (by
   rw [show Rows.rowsFitsUptoRow.laid = laidList from rfl, MakeChecks.laidMetH_plain _ _ _ (by kernel_rfl)]; exact laidMet_laidAll _ (by kernel_rfl) (by kernel_rfl))
 ·simp only [Assume.holds]
  exact ⟨by simp, by simp, fun _ => Modest.zero, by simp, by simp⟩
set_option maxRecDepth 100000 in
theorem rowsFits_lifted (os : Os) (started : os.Started) (H : Type) (enc : TypeId × Value → H) (F : Stop.Interp) :
 ReturnsInHanded {} Tryz.checked os 4 .any ((Rows.OpenSpec.upto Rows.rowsFitsSpec).preRow enc Tryz.prog Tryz.f4 Rows.rowsFitsUptoRow.domain false Rows.rowsFitsUptoRow.laid) (((Rows.OpenSpec.upto Rows.rowsFitsSpec).at F).post enc Tryz.prog Tryz.f4 false true false false) := by
 refine returnsInHanded_of_row (C := Tryz.checked) (s := Rows.OpenSpec.upto Rows.rowsFitsSpec) frame.own started (by kernel_rfl) Tryz.func4 (rowsFits_witness os enc) ?_
 intro W base args ds gs before hval0 hW _ hcond hsz0 hL hsh _
 have hbulk : Rows.uptoBulkAll (ds ++ gs) ≤ 1048576 := of_decide_eq_true (hcond _ rfl)
 have hval : ∀ (j : Nat) t v, Tryz.f4.params[j]? = some t → args[j]? = some v → Value.okWide Tryz.prog W .any base t v := hval0
 have hW' := hW
 obtain ⟨p, q, hA0, hV, rfl, hfz, hnd⟩ := hW
 have hA : DataW.TrodAll enc Tryz.prog W 0 (fun _ => true) true Tryz.f4.params.toList args.toList ds p := hA0
 rw [Tryz.params4] at hA hval
 obtain ⟨v0, vs0, d0, ds0, p0, q0, hargs, rfl, rfl, h0, r0⟩ := trodAll_cons hA
 obtain ⟨rfl, rfl, rfl⟩ := trodAll_nil r0
 obtain rfl : args = #[v0] := by cases args; simp_all
 obtain ⟨rfl, rfl⟩ := trodVars_none hV
 clear hA0 hval0
 simp only [List.append_nil] at hW'
 have hlt : ∀ x ∈ p0, x.block < W.heap.size := fun x hx => hW'.lt x hx
 have hb0 : Rows.uptoBulk d0 ≤ 1048576 := by
  have h1 : ([d0] ++ [] : List (DataW H)) = [d0] := rfl
  rw [h1] at hbulk
  simp only [Rows.uptoBulkAll] at hbulk
  omega
 refine (rfits_all enc W base v0 d0 p0 (hval 0 _ v0 rfl rfl) h0 hlt hb0 (env_of hL hsh)).mono fun e W' ⟨he, hg⟩ => ?_
 subst he
 exact ⟨_, rfl, frame.post_of_below (pa := p0 ++ []) (pv := []) hW' (fun _ _ _ => (trodAll_cons_mk (shut_bool Tryz.underlying4 _) trodAll_mk0))
  (fun sp hsp => trodAll_cons_mk (WideElems.Trod_stays frame.laid (by kernel_rfl) (of_decide_eq_true (by kernel_rfl)) h0 (fun x hx => hg.same (hlt x hx)) (sp' := sp) (fun x hx => hsp x hx)) trodAll_mk0)
  (fun _ _ => rfl) (by simp) hg (ok_one (by kernel_rfl) rfl (okWide_bool_mk Tryz.underlying4 _))⟩
theorem rowsFits_over : Rows.rowsFitsUptoRow.holds Tryz.pinned (Rows.OpenSpec.upto Rows.rowsFitsSpec) :=
 OpenClaim.holds_of_cond 4 Tryz.f4 rfl rfl rfl rfl rfl rfl rfl ⟨rfl, rfl, rfl, rfl, rfl⟩ rfl rfl rfl rfl rfl (by kernel_rfl) Tryz.func4 (by kernel_rfl)
  (of_decide_eq_true (by kernel_rfl)) (by unfold Func.isWrapper; first | (rw [if_pos (by decide +kernel)]; kernel_rfl) | (rw [if_neg (by decide +kernel)]; exact ⟨rfl, rfl⟩))
  (fun os started H enc _ F => by rw [OpenClaim.pre_eq_preRow]; exact rowsFits_lifted os started H enc F)
theorem RowsFits_holds : Rows.RowsFitsUptoCardSaid :=
 Claim7.holds_tied_plain_at .later [] [.data, .data, .data, .data, .sentinel, .sentinel, .pinned] true (true, "33896800da5fbb622223149dbd77372fda19828a3aca41e9228101d7c6ea8e0b") true
  rowsFits_over (fun _ h => by cases h) (by kernel_rfl) (fun _ h => by cases h) rowsFitsUpto_row_tie rfl ⟨rfl, rfl⟩ (by kernel_rfl) rfl
  (fun f fn hf hfn => by
   obtain rfl : f = 4 := Option.some.inj ((show Tryz.prog.funcNamed "diptych/diptychlaw9.RowsFits" = some 4 by kernel_rfl).symm.trans hf) |>.symm
   obtain rfl : fn = Tryz.f4 := (Option.some.inj (Tryz.func4.symm.trans hfn)).symm
   exact ⟨by kernel_rfl, fun j t ht => by
    rw [Tryz.params4] at ht
    have hm : t ∈ ([42] : List TypeId) := by simpa using Array.mem_of_getElem? ht
    have hall : (([42] : List TypeId).all fun u => !Tryz.prog.wantsStandIn u) = true := by kernel_rfl
    exact (show Tryz.prog.wantsStandIn t = false by simpa using List.all_eq_true.1 hall t hm)⟩)
  (by kernel_rfl)
end Go.Proofs.YtidplkfhodpdhaaGreatDoor.tab
