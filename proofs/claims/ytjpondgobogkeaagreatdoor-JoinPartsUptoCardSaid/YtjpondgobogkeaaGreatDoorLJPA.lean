/- Texts LJParts, LJPartsCard, one behind the other. -/
import Derived.Test.YtjpondgobogkeaaGreatDoorJnD
import Derived.Test.YtjpondgobogkeaaGreatDoorTabMayA
import Derived.Test.YtjpondgobogkeaaGreatDoorTabEqA
import Derived.Test.YtjpondgobogkeaaGreatDoorFrA
import Derived.Deep.DeepHandedRow
/- Half joins and what is left part a table; joins by hash and by loop tell the same; what is left joins with nothing, the half join as the whole: for every two tables, a language and conditions, not above the bound of the statement, that may be read, where the listed variables of the library hold what the program's text lays. -/
namespace Go.Proofs.YtjpondgobogkeaaGreatDoor.tab
open Go.ChangeShapes Go.WideShapes Go.ChangeAt Go.RowKit kit dec val
open hyp (RowA TextsA CellsStay stay_of_below textsV textsV_length own_row)
set_option linter.unusedVariables false
set_option linter.unusedSimpArgs false
set_option maxRecDepth 100000 in
set_option maxHeartbeats 16000000 in
theorem jparts_any (w : World) (hE : Env w) (v va ra vb rb ov : Value) (A B : Tab) (lang : Int) (hT : TwoJ w 1048576 v va ra vb rb ov A B lang) :
    Calls Tryz.prog 6 #[v] w fun e w' => e = .returned (.bool true) ∧ Below w.heap.size w w' := by
  obtain ⟨av, cv, hav, -⟩ := hT.av.form
  obtain ⟨ar, cr, har, -, -⟩ := hT.ar.form
  obtain ⟨bv, dv, hbv, -⟩ := hT.bv.form
  obtain ⟨br, dr, hbr, -, -⟩ := hT.br.form
  obtain ⟨oo, lo, co, hov⟩ := hT.ov
  subst hav har hbv hbr hov
  have hveq := hT.eq
  subst hveq
  have hfew := hT.few
  have hq := Blk.new w #[.slice av A.vars.length cv, .slice ar A.rows.length cr, .slice bv B.vars.length dv, .slice br B.rows.length dr, .int .i64 lang, .slice oo lo co] 43
  have hal : Below w.heap.size w (w.alloc (.cells #[.slice av A.vars.length cv, .slice ar A.rows.length cr, .slice bv B.vars.length dv, .slice br B.rows.length dr, .int .i64 lang, .slice oo lo co] 43)) := (Below.refl _ _).alloc (Nat.le_refl _) _
  have cL := Lib.hid (lightJ_any _ 1048576 (by omega) _ _ _ _ _ _ A B lang (hT.stay hal))
  have cA := Lib.hid (fun V (h : Below w.heap.size w V) h1 h2 => refMay_any 1048576 (by omega) V _ A (hT.stay h).tabA h1 h2)
  have cB := Lib.hid (fun V (h : Below w.heap.size w V) h1 h2 => refMay_any 1048576 (by omega) V _ B (hT.stay h).tabB h1 h2)
  have x0 := hq.cell 0 rfl
  have x1 := hq.cell 1 rfl
  have x2 := hq.cell 2 rfl
  have x3 := hq.cell 3 rfl
  have x4 := hq.cell 4 rfl
  have x5 := hq.cell 5 rfl
  replace hal := Lib.hid hal
  clear hq
  go_enter Tryz.func6, Tryz.ntmps6
  go_wp2_with fail
  refine cL.out.mono ?_
  rintro e w2 ⟨rfl, hb2⟩
  replace x0 := (stay_of_below hb2).cell x0
  replace x1 := (stay_of_below hb2).cell x1
  replace x2 := (stay_of_below hb2).cell x2
  replace x3 := (stay_of_below hb2).cell x3
  replace x4 := (stay_of_below hb2).cell x4
  replace x5 := (stay_of_below hb2).cell x5
  have hB2 := hal.out.trans (hb2.mono hal.out.size)
  cases hl : lightJ A B with
  | false =>
    replace hB2 := Lib.hid hB2
    clear cA cB cL hb2 hal x0 x1 x2 x3 x4 x5
    go_wp2_with fail
    refine (wakesJ_any _ (hE.below hB2.out)).mono ?_
    rintro e wz ⟨rfl, hbz⟩
    have hbzz := Lib.hid (hB2.out.trans (hbz.mono hB2.out.size))
    clear hbz
    go_wp2
    go_ret
    exact ⟨rfl, hbzz.out⟩
  | true =>
    obtain ⟨l1, l2, l3, l4, l5, l6⟩ := lightJ_parts hl
    obtain ⟨wtA, wtB⟩ := wt_lightJ hl
    have cA2 := Lib.hid (cA.out w2 hB2 (by omega) (by omega))
    replace hB2 := Lib.hid hB2
    replace hl := Lib.hid hl
    replace wtA := Lib.hid wtA
    replace wtB := Lib.hid wtB
    clear cL cA hb2 hal l1 l2
    go_wp2_with fail
    refine cA2.out.mono ?_
    rintro e w3 ⟨rfl, hb3⟩
    replace x0 := (stay_of_below hb3).cell x0
    replace x1 := (stay_of_below hb3).cell x1
    replace x2 := (stay_of_below hb3).cell x2
    replace x3 := (stay_of_below hb3).cell x3
    replace x4 := (stay_of_below hb3).cell x4
    replace x5 := (stay_of_below hb3).cell x5
    have hB3 := hB2.out.trans (hb3.mono hB2.out.size)
    cases hmA : mayT A with
    | false =>
      replace hB3 := Lib.hid hB3
      clear cA2 cB hb3 hB2 x0 x1 x2 x3 x4 x5
      go_wp2_with fail
      refine (wakesJ_any _ (hE.below hB3.out)).mono ?_
      rintro e wz ⟨rfl, hbz⟩
      have hbzz := Lib.hid (hB3.out.trans (hbz.mono hB3.out.size))
      clear hbz
      go_wp2
      go_ret
      exact ⟨rfl, hbzz.out⟩
    | true =>
      have cB2 := Lib.hid (cB.out w3 hB3 (by omega) (by omega))
      replace hB3 := Lib.hid hB3
      clear cA2 cB hb3 hB2
      go_wp2_with fail
      refine cB2.out.mono ?_
      rintro e w4 ⟨rfl, hb4⟩
      replace x0 := (stay_of_below hb4).cell x0
      replace x1 := (stay_of_below hb4).cell x1
      replace x2 := (stay_of_below hb4).cell x2
      replace x3 := (stay_of_below hb4).cell x3
      replace x4 := (stay_of_below hb4).cell x4
      replace x5 := (stay_of_below hb4).cell x5
      have hB4 := Lib.hid (hB3.out.trans (hb4.mono hB3.out.size))
      clear cB2 hb4 hB3
      cases hmB : mayT B with
      | false =>
        clear x0 x1 x2 x3 x4 x5
        go_wp2_with fail
        refine (wakesJ_any _ (hE.below hB4.out)).mono ?_
        rintro e wz ⟨rfl, hbz⟩
        have hbzz := Lib.hid (hB4.out.trans (hbz.mono hB4.out.size))
        clear hbz
        go_wp2
        go_ret
        exact ⟨rfl, hbzz.out⟩
      | true =>
        have hs1 : IntKind.i64.wrap ((A.vars.length : Int) + (B.vars.length : Int)) = (A.vars.length : Int) + (B.vars.length : Int) := IntWalk.i64_in _ (by omega)
        have hs1b : wrap64 ((A.vars.length : Int) + (B.vars.length : Int)) = (A.vars.length : Int) + (B.vars.length : Int) := IntWalk.wrap64_in _ (by omega)
        replace hs1 := Lib.hid hs1
        replace hs1b := Lib.hid hs1b
        replace hmA := Lib.hid hmA
        replace hmB := Lib.hid hmB
        by_cases h64 : A.vars.length + B.vars.length ≤ 64
        case neg =>
          have h64i : (64 : Int) < (A.vars.length : Int) + (B.vars.length : Int) := by omega
          clear h64
          have hs1o := hs1.out
          have hs1bo := hs1b.out
          go_wp2_with fail
          refine (wakesJ_any _ (hE.below hB4.out)).mono ?_
          rintro e wz ⟨rfl, hbz⟩
          have hbzz := Lib.hid (hB4.out.trans (hbz.mono hB4.out.size))
          clear hbz
          go_wp2
          go_ret
          exact ⟨rfl, hbzz.out⟩
        have h64i : ¬ (64 : Int) < (A.vars.length : Int) + (B.vars.length : Int) := by omega
        have hT4 := Lib.hid (fun V (h : Below w4.heap.size w4 V) => hT.stay (hB4.out.trans (h.mono hB4.out.size)))
        have hE4 := Lib.hid (fun V (h : Below w4.heap.size w4 V) => hE.below (hB4.out.trans (h.mono hB4.out.size)))
        have kA : ∀ r ∈ A.rows, wtL r ≤ 1100000 := fun r hr => by have := wtA.out r hr; omega
        have kB : ∀ r ∈ B.rows, wtL r ≤ 1100000 := fun r hr => by have := wtB.out r hr; omega
        have rA : A.rows.length ≤ 1000 := by omega
        have rB : B.rows.length ≤ 1000 := by omega
        have hf64 : (B.vars.foldl addN A.vars).length ≤ 64 := Nat.le_trans (foldN_len _ _) h64
        obtain ⟨J, hJ⟩ : ∃ J, joinT A B = J := ⟨_, rfl⟩
        obtain ⟨S, hS0⟩ : ∃ S, someT A B true false = S := ⟨_, rfl⟩
        obtain ⟨T, hT0⟩ : ∃ T, someT A B false false = T := ⟨_, rfl⟩
        have mS := some_may B hmA.out true false
        have mT := some_may B hmA.out false false
        have lS := some_len A B true false
        have lT := some_len A B false false
        have lST := some_sum A B false
        have uST := some_union B hmA.out false
        have usST := union_same mS mT rfl
        have jT := anti_join A B
        have jS := semi_join A B
        have jN := join_none (a := A) (b := B) hf64
        have eA := hS0
        have lJ := joinT_len A B
        have vJ : J.vars.length ≤ 64 := by rw [← hJ, joinT_rows hf64]; exact hf64
        rw [hS0] at mS lS lST uST usST jS jN
        rw [hT0] at mT lT lST uST usST jT
        rw [hJ] at jS jN lJ
        have lJ2 : J.rows.length ≤ 1600 := Nat.le_trans lJ (Nat.mul_le_mul l3 l4)
        have kS : ∀ r ∈ S.rows, wtL r ≤ 1100000 := fun r hr => by
          rw [← hS0] at hr
          exact kA r (List.mem_filter.1 hr).1
        have kT : ∀ r ∈ T.rows, wtL r ≤ 1100000 := fun r hr => by
          rw [← hT0] at hr
          exact kA r (List.mem_filter.1 hr).1
        have keyA : KeyL A := key_light kA
        have keyU : KeyL (unionT S T) := key_light fun r hr => by
          rw [usST] at hr
          rcases List.mem_append.1 hr with h | h
          · exact kS r h
          · exact kT r h
        have lU : (unionT S T).rows.length ≤ 1000 := by rw [usST]; show (S.rows ++ T.rows).length ≤ 1000; rw [List.length_append]; omega
        have mU := unionT_may mS mT
        have jT2 : joinT T B = ⟨(joinT T B).vars, []⟩ := by
          cases hh : joinT T B with
          | mk a b => rw [hh] at jT; rw [show b = [] from jT]
        obtain ⟨vT, hvT⟩ : ∃ vT, (joinT T B).vars = vT := ⟨_, rfl⟩
        rw [hvT] at jT2
        have cJ := fun V (h : Below w4.heap.size w4 V) => jhash_may V (hE4.out V h) _ _ A B (hT4.out V h).tabA (hT4.out V h).tabB hmA.out hmB.out rA rB kA kB
        have cP := fun V (h : Below w4.heap.size w4 V) => jloop_may V (hE4.out V h) _ _ A B (hT4.out V h).tabA (hT4.out V h).tabB hmA.out hmB.out rA rB
        have cS := fun V (h : Below w4.heap.size w4 V) => jsemi_may V (hE4.out V h) _ _ A B (hT4.out V h).tabA (hT4.out V h).tabB hmA.out hmB.out rA rB kA kB
        have cT := fun V (h : Below w4.heap.size w4 V) => janti_may V (hE4.out V h) _ _ A B (hT4.out V h).tabA (hT4.out V h).tabB hmA.out hmB.out rA rB kA kB
        rw [hJ] at cJ cP
        rw [hS0] at cS
        rw [hT0] at cT
        have cU := fun V (h : Below w4.heap.size w4 V) vs vt (ts : TabA V 1048576 vs S) (tt : TabA V 1048576 vt T) => union_may V (hE4.out V h) vs vt S T ts tt mS mT (by omega)
        have cQ := fun V (h : Below w4.heap.size w4 V) vu (tu : TabA V 1048576 vu (unionT S T)) => same_may V (hE4.out V h) vu _ (unionT S T) A tu (hT4.out V h).tabA mU hmA.out (by omega) (by omega) keyU keyA
        rw [uST] at cQ
        have cTB := fun V (h : Below w4.heap.size w4 V) vt (tt : TabA V 1048576 vt T) => jhash_may V (hE4.out V h) vt _ T B tt (hT4.out V h).tabB mT hmB.out (by omega) rB kT kB
        have cSB := fun V (h : Below w4.heap.size w4 V) vs (ts : TabA V 1048576 vs S) => jhash_may V (hE4.out V h) vs _ S B ts (hT4.out V h).tabB mS hmB.out (by omega) rB kS kB
        rw [jT2] at cTB
        rw [jS] at cSB
        have hsum : Hid (IntKind.i64.wrap ((S.rows.length : Int) + (T.rows.length : Int)) = (A.rows.length : Int)) := Lib.hid (by
          rw [IntWalk.i64_in _ (by omega)]; omega)
        have hsumb : Hid (wrap64 ((S.rows.length : Int) + (T.rows.length : Int)) = (A.rows.length : Int)) := Lib.hid (by
          rw [IntWalk.wrap64_in _ (by omega)]; omega)
        obtain ⟨qb, hqb⟩ : ∃ qb, decide (J.rows.length = 0) = qb := ⟨_, rfl⟩
        have hq1 : ((J.rows.length : Int) == 0) = qb := by
          rw [← hqb]
          by_cases h0 : J.rows.length = 0
          · rw [h0]; rfl
          · rw [decide_eq_false h0]; exact beq_eq_false_iff_ne.2 (by omega)
        have hq2 : ((S.rows.length : Int) == 0) = qb := by
          rw [← hqb, jN]
          by_cases h0 : S.rows.length = 0
          · rw [h0]; rfl
          · rw [decide_eq_false h0]; exact beq_eq_false_iff_ne.2 (by omega)
        have cE := fun V v1 v2 (t1 : TabA V 1048576 v1 J) (t2 : TabA V 1048576 v2 J) => eqTab_same 1048576 (by omega) V v1 v2 J t1 t2 (by omega) (by omega)
        have g0 : Below w4.heap.size w4 w4 := Below.refl _ _
        have hfr := field_rowsJ
        replace cJ := Lib.hid cJ
        replace cP := Lib.hid cP
        replace cS := Lib.hid cS
        replace cT := Lib.hid cT
        replace cU := Lib.hid cU
        replace cQ := Lib.hid cQ
        replace cE := Lib.hid cE
        replace cTB := Lib.hid cTB
        replace cSB := Lib.hid cSB
        replace hq1 := Lib.hid hq1
        replace hq2 := Lib.hid hq2
        have hB4b := Lib.hid (fun V (h : Below w4.heap.size w4 V) => hB4.out.trans (h.mono hB4.out.size))
        clear hT hE hT4 kA kB rA rB hf64 hJ hS0 hT0 mS mT lS lT lST uST usST jT jS jN eA lJ vJ lJ2 kS kT keyA keyU lU mU jT2 hvT hqb hB4 hl wtA wtB hmA hmB
        have hs1o := hs1.out
        have hs1bo := hs1b.out
        go_wp2_with fail
        clear hs1o hs1bo hs1 hs1b
        refine (cJ.out w4 g0).mono ?_
        rintro e w5 ⟨v, rfl, hO⟩
        obtain ⟨vv, rv, rfl, hbw5, hown, hszs, hMR⟩ := hO
        obtain ⟨anw5, cnw5, hvn⟩ := own_form4x hown
        obtain ⟨arw5, crw5, hvr⟩ := hMR.form
        subst hvn
        subst hvr
        have tw5 : TabA w5 1048576 _ _ := ⟨_, _, rfl, ⟨own_row (by rw [textsV_length]; exact hown), hszs⟩, hMR.read⟩
        clear hown hszs hMR
        have halw6 : Below w5.heap.size w5 (w5.alloc (.cells #[.slice anw5 J.vars.length cnw5, .slice arw5 J.rows.length crw5] 25)) := (Below.refl _ _).alloc (Nat.le_refl _) _
        have qw6 := Blk.new w5 #[.slice anw5 J.vars.length cnw5, .slice arw5 J.rows.length crw5] 25
        have tw6 := tw5.stay halw6
        have hw5 := g0.trans (hbw5.mono g0.size)
        have hw6 := hw5.trans (halw6.mono hw5.size)
        replace x0 := (stay_of_below hbw5).cell x0
        replace x1 := (stay_of_below hbw5).cell x1
        replace x2 := (stay_of_below hbw5).cell x2
        replace x3 := (stay_of_below hbw5).cell x3
        replace x4 := (stay_of_below hbw5).cell x4
        replace x5 := (stay_of_below hbw5).cell x5
        replace x0 := (stay_of_below halw6).cell x0
        replace x1 := (stay_of_below halw6).cell x1
        replace x2 := (stay_of_below halw6).cell x2
        replace x3 := (stay_of_below halw6).cell x3
        replace x4 := (stay_of_below halw6).cell x4
        replace x5 := (stay_of_below halw6).cell x5
        clear hbw5 halw6 hw5 tw5
        go_wp2_with fail
        obtain ⟨p6, hp6⟩ : ∃ p6, w5.heap.size = p6 := ⟨_, rfl⟩
        rw [hp6] at qw6
        try rw [hp6]
        generalize w5.alloc (.cells #[.slice anw5 J.vars.length cnw5, .slice arw5 J.rows.length crw5] 25) = w6 at *
        replace hp6 := Lib.hid hp6
        refine (cS.out w6 hw6).mono ?_
        rintro e w7 ⟨v, rfl, hO⟩
        obtain ⟨vv, rv, rfl, hbw7, hown, hszs, hMR⟩ := hO
        obtain ⟨anw7, cnw7, hvn⟩ := own_form4x hown
        obtain ⟨arw7, crw7, hvr⟩ := hMR.form
        subst hvn
        subst hvr
        have tw7 : TabA w7 1048576 _ _ := ⟨_, _, rfl, ⟨own_row (by rw [textsV_length]; exact hown), hszs⟩, hMR.read⟩
        clear hown hszs hMR
        have halw8 : Below w7.heap.size w7 (w7.alloc (.cells #[.slice anw7 S.vars.length cnw7, .slice arw7 S.rows.length crw7] 25)) := (Below.refl _ _).alloc (Nat.le_refl _) _
        have qw8 := Blk.new w7 #[.slice anw7 S.vars.length cnw7, .slice arw7 S.rows.length crw7] 25
        have tw8 := tw7.stay halw8
        have hw7 := hw6.trans (hbw7.mono hw6.size)
        have hw8 := hw7.trans (halw8.mono hw7.size)
        replace x0 := (stay_of_below hbw7).cell x0
        replace x1 := (stay_of_below hbw7).cell x1
        replace x2 := (stay_of_below hbw7).cell x2
        replace x3 := (stay_of_below hbw7).cell x3
        replace x4 := (stay_of_below hbw7).cell x4
        replace x5 := (stay_of_below hbw7).cell x5
        replace x0 := (stay_of_below halw8).cell x0
        replace x1 := (stay_of_below halw8).cell x1
        replace x2 := (stay_of_below halw8).cell x2
        replace x3 := (stay_of_below halw8).cell x3
        replace x4 := (stay_of_below halw8).cell x4
        replace x5 := (stay_of_below halw8).cell x5
        have q68 := qw6.keep (Keep.ofBelow (hbw7.trans (halw8.mono hbw7.size))) (by simp)
        have t68 := tw6.stay (hbw7.trans (halw8.mono hbw7.size))
        clear hbw7 halw8 hw7 tw7 qw6 tw6 hw6
        go_wp2_with fail
        obtain ⟨p8, hp8⟩ : ∃ p8, w7.heap.size = p8 := ⟨_, rfl⟩
        rw [hp8] at qw8
        try rw [hp8]
        generalize w7.alloc (.cells #[.slice anw7 S.vars.length cnw7, .slice arw7 S.rows.length crw7] 25) = w8 at *
        replace hp8 := Lib.hid hp8
        refine (cT.out w8 hw8).mono ?_
        rintro e w9 ⟨v, rfl, hO⟩
        obtain ⟨vv, rv, rfl, hbw9, hown, hszs, hMR⟩ := hO
        obtain ⟨anw9, cnw9, hvn⟩ := own_form4x hown
        obtain ⟨arw9, crw9, hvr⟩ := hMR.form
        subst hvn
        subst hvr
        have tw9 : TabA w9 1048576 _ _ := ⟨_, _, rfl, ⟨own_row (by rw [textsV_length]; exact hown), hszs⟩, hMR.read⟩
        clear hown hszs hMR
        have halwA : Below w9.heap.size w9 (w9.alloc (.cells #[.slice anw9 T.vars.length cnw9, .slice arw9 T.rows.length crw9] 25)) := (Below.refl _ _).alloc (Nat.le_refl _) _
        have qwA := Blk.new w9 #[.slice anw9 T.vars.length cnw9, .slice arw9 T.rows.length crw9] 25
        have twA := tw9.stay halwA
        have hw9 := hw8.trans (hbw9.mono hw8.size)
        have hwA := hw9.trans (halwA.mono hw9.size)
        replace x0 := (stay_of_below hbw9).cell x0
        replace x1 := (stay_of_below hbw9).cell x1
        replace x2 := (stay_of_below hbw9).cell x2
        replace x3 := (stay_of_below hbw9).cell x3
        replace x4 := (stay_of_below hbw9).cell x4
        replace x5 := (stay_of_below hbw9).cell x5
        replace x0 := (stay_of_below halwA).cell x0
        replace x1 := (stay_of_below halwA).cell x1
        replace x2 := (stay_of_below halwA).cell x2
        replace x3 := (stay_of_below halwA).cell x3
        replace x4 := (stay_of_below halwA).cell x4
        replace x5 := (stay_of_below halwA).cell x5
        have h8A := hbw9.trans (halwA.mono hbw9.size)
        have q6A := q68.keep (Keep.ofBelow h8A) (by simp)
        have t6A := t68.stay h8A
        have q8A := qw8.keep (Keep.ofBelow h8A) (by simp)
        have t8A := tw8.stay h8A
        clear hbw9 halwA hw9 tw9 qw8 tw8 q68 t68 hw8 h8A cJ cS cT
        go_upto_region 6 with fail
        obtain ⟨p9, hp9⟩ : ∃ p9, w9.heap.size = p9 := ⟨_, rfl⟩
        rw [hp9] at qwA
        try rw [hp9]
        generalize w9.alloc (.cells #[.slice anw9 T.vars.length cnw9, .slice arw9 T.rows.length crw9] 25) = wA at *
        replace hp9 := Lib.hid hp9
        have hd : Below wA.heap.size wA wA.drew := below_drewN (Below.refl _ _) 1
        have h4z := hwA.trans (hd.mono hwA.size)
        replace x0 := (stay_of_below hd).cell x0
        replace x1 := (stay_of_below hd).cell x1
        replace x2 := (stay_of_below hd).cell x2
        replace x3 := (stay_of_below hd).cell x3
        replace x4 := (stay_of_below hd).cell x4
        replace x5 := (stay_of_below hd).cell x5
        have c3 := (q6A.drewN 1).cell 0 rfl
        have c4 := (q6A.drewN 1).cell 1 rfl
        have c5 := (q8A.drewN 1).cell 0 rfl
        have c6 := (q8A.drewN 1).cell 1 rfl
        have c7 := (qwA.drewN 1).cell 0 rfl
        have c8 := (qwA.drewN 1).cell 1 rfl
        have tJ := t6A.stay hd
        have tS := t8A.stay hd
        have tT := twA.stay hd
        clear hwA hd q6A q8A qwA t6A t8A twA
        have h0 : Below wA.drew.heap.size wA.drew wA.drew := Below.refl _ _
        refine wp_region_held_drew (S := fun V => Below wA.drew.heap.size wA.drew V) (by kernel_rfl) h0 (fun hS => ?_)
        obtain ⟨wz, hwz⟩ : ∃ wz, wA.drew = wz := ⟨_, rfl⟩
        have hdN : World.drewN wA 1 = wz := hwz
        rw [hdN] at c3 c4 c5 c6 c7 c8
        rw [hwz] at h4z x0 x1 x2 x3 x4 x5 tJ tS tT h0 hS
        rw [hwz]
        clear hdN
        replace hwz := Lib.hid hwz
        have cP2 := Lib.hid (fun V (h : Below wz.heap.size wz V) => cP.out V (h4z.trans (h.mono h4z.size)))
        have cU2 := Lib.hid (fun V (h : Below wz.heap.size wz V) => cU.out V (h4z.trans (h.mono h4z.size)))
        have cQ2 := Lib.hid (fun V (h : Below wz.heap.size wz V) => cQ.out V (h4z.trans (h.mono h4z.size)))
        have cTB2 := Lib.hid (fun V (h : Below wz.heap.size wz V) => cTB.out V (h4z.trans (h.mono h4z.size)))
        have cSB2 := Lib.hid (fun V (h : Below wz.heap.size wz V) => cSB.out V (h4z.trans (h.mono h4z.size)))
        have hEz := Lib.hid (fun V (h : Below wz.heap.size wz V) => hE4.out V (h4z.trans (h.mono h4z.size)))
        have hBz := Lib.hid (hB4b.out wz h4z)
        clear cP cU cQ cTB cSB hE4 hB4b h4z
        have hsI := hsum.out
        have hsI2 := hsumb.out
        refine wpAnyH_take (i := 0) (v := ?_) rfl (by kernel_rfl) (by kernel_rfl) (by kernel_rfl) (fun _ _ _ h => h) (.inl ⟨by kernel_rfl, fun w' hS => ?_⟩) hS ?_
        rotate_left
        ·
          have y0 := (stay_of_below hS).cell x0; have y1 := (stay_of_below hS).cell x1; have y2 := (stay_of_below hS).cell x2; have y3 := (stay_of_below hS).cell x3; have y4 := (stay_of_below hS).cell c3; have y5 := (stay_of_below hS).cell c4; have y6 := (stay_of_below hS).cell c5; have y7 := (stay_of_below hS).cell c6; have y8 := (stay_of_below hS).cell c7; have y9 := (stay_of_below hS).cell c8
          go_simp
          try with_reducible rfl
        simp only [List.getElem_toArray, List.getElem_cons_succ, List.getElem_cons_zero, Act.put, List.setIfInBounds_toArray, List.set_cons_zero, List.set_cons_succ]
        refine wpAnyH_take (i := 1) (v := ?_) rfl (by kernel_rfl) (by kernel_rfl) (by kernel_rfl) (fun _ _ _ h => h) (.inl ⟨by kernel_rfl, fun w' hS => ?_⟩) hS ?_
        rotate_left
        ·
          have y0 := (stay_of_below hS).cell x0; have y1 := (stay_of_below hS).cell x1; have y2 := (stay_of_below hS).cell x2; have y3 := (stay_of_below hS).cell x3; have y4 := (stay_of_below hS).cell c3; have y5 := (stay_of_below hS).cell c4; have y6 := (stay_of_below hS).cell c5; have y7 := (stay_of_below hS).cell c6; have y8 := (stay_of_below hS).cell c7; have y9 := (stay_of_below hS).cell c8
          go_simp
          try with_reducible rfl
        simp only [List.getElem_toArray, List.getElem_cons_succ, List.getElem_cons_zero, Act.put, List.setIfInBounds_toArray, List.set_cons_zero, List.set_cons_succ]
        refine wpAnyH_take (i := 2) (v := ?_) rfl (by kernel_rfl) (by kernel_rfl) (by kernel_rfl) (fun _ _ _ h => h) (.inl ⟨by kernel_rfl, fun w' hS => ?_⟩) hS ?_
        rotate_left
        ·
          have y0 := (stay_of_below hS).cell x0; have y1 := (stay_of_below hS).cell x1; have y2 := (stay_of_below hS).cell x2; have y3 := (stay_of_below hS).cell x3; have y4 := (stay_of_below hS).cell c3; have y5 := (stay_of_below hS).cell c4; have y6 := (stay_of_below hS).cell c5; have y7 := (stay_of_below hS).cell c6; have y8 := (stay_of_below hS).cell c7; have y9 := (stay_of_below hS).cell c8
          go_simp
          try with_reducible rfl
        simp only [List.getElem_toArray, List.getElem_cons_succ, List.getElem_cons_zero, Act.put, List.setIfInBounds_toArray, List.set_cons_zero, List.set_cons_succ]
        refine wpAnyH_take (i := 3) (v := ?_) rfl (by kernel_rfl) (by kernel_rfl) (by kernel_rfl) (fun _ _ _ h => h) (.inl ⟨by kernel_rfl, fun w' hS => ?_⟩) hS ?_
        rotate_left
        ·
          have y0 := (stay_of_below hS).cell x0; have y1 := (stay_of_below hS).cell x1; have y2 := (stay_of_below hS).cell x2; have y3 := (stay_of_below hS).cell x3; have y4 := (stay_of_below hS).cell c3; have y5 := (stay_of_below hS).cell c4; have y6 := (stay_of_below hS).cell c5; have y7 := (stay_of_below hS).cell c6; have y8 := (stay_of_below hS).cell c7; have y9 := (stay_of_below hS).cell c8
          go_simp
          try with_reducible rfl
        simp only [List.getElem_toArray, List.getElem_cons_succ, List.getElem_cons_zero, Act.put, List.setIfInBounds_toArray, List.set_cons_zero, List.set_cons_succ]
        refine wpAnyH_take (i := 4) (v := ?_) rfl (by kernel_rfl) (by kernel_rfl) (by kernel_rfl) (fun _ _ _ h => h) (.inl ⟨by kernel_rfl, fun w' hS => ?_⟩) hS ?_
        rotate_left
        ·
          have y0 := (stay_of_below hS).cell x0; have y1 := (stay_of_below hS).cell x1; have y2 := (stay_of_below hS).cell x2; have y3 := (stay_of_below hS).cell x3; have y4 := (stay_of_below hS).cell c3; have y5 := (stay_of_below hS).cell c4; have y6 := (stay_of_below hS).cell c5; have y7 := (stay_of_below hS).cell c6; have y8 := (stay_of_below hS).cell c7; have y9 := (stay_of_below hS).cell c8
          go_simp
          try with_reducible rfl
        simp only [List.getElem_toArray, List.getElem_cons_succ, List.getElem_cons_zero, Act.put, List.setIfInBounds_toArray, List.set_cons_zero, List.set_cons_succ]
        refine wpAnyH_ready (rs := [5]) (by kernel_rfl) (by simp) ?_
        refine AllReadyH.cons rfl (fun K hK => ?_) AllReadyH.nil
        clear hS
        go_simp
        refine (cP2.out wz h0).mono ?_
        rintro e wB ⟨v, rfl, hO⟩
        obtain ⟨vv, rv, rfl, hbwB, hown, hszs, hMR⟩ := hO
        obtain ⟨anwB, cnwB, hvn⟩ := own_form4x hown
        obtain ⟨arwB, crwB, hvr⟩ := hMR.form
        subst hvn
        subst hvr
        have twB : TabA wB 1048576 _ _ := ⟨_, _, rfl, ⟨own_row (by rw [textsV_length]; exact hown), hszs⟩, hMR.read⟩
        clear hown hszs hMR
        go_wp2_with fail
        refine hK.out _ _ (h0.trans (hbwB.mono h0.size)) (fun hS => ?_)
        clear hK K
        try simp only [List.getElem_toArray, List.getElem_cons_succ, List.getElem_cons_zero, Act.put, List.setIfInBounds_toArray, List.set_cons_zero, List.set_cons_succ]
        have hB1 := h0.trans (hbwB.mono h0.size)
        refine wpAnyH_ready (rs := [6]) (by kernel_rfl) (by simp) ?_
        refine AllReadyH.cons rfl (fun K hK => ?_) AllReadyH.nil
        clear hS
        go_simp
        refine (cE.out wB _ _ (tJ.stay hB1) twB).mono ?_
        rintro e wC ⟨rfl, hbC⟩
        go_wp2_with fail
        refine hK.out _ _ (hB1.trans (hbC.mono hB1.size)) (fun hS => ?_)
        clear hK K
        try simp only [List.getElem_toArray, List.getElem_cons_succ, List.getElem_cons_zero, Act.put, List.setIfInBounds_toArray, List.set_cons_zero, List.set_cons_succ]
        have hC1 := hB1.trans (hbC.mono hB1.size)
        clear hbC hbwB twB hB1 cP2
        refine wpAnyH_take (i := 7) (v := ?_) rfl (by kernel_rfl) (by kernel_rfl) (by kernel_rfl) (fun _ _ _ h => h) (.inl ⟨by kernel_rfl, fun w' hS => ?_⟩) hS ?_
        rotate_left
        ·
          have y0 := (stay_of_below hS).cell x0; have y1 := (stay_of_below hS).cell x1; have y2 := (stay_of_below hS).cell x2; have y3 := (stay_of_below hS).cell x3; have y4 := (stay_of_below hS).cell c3; have y5 := (stay_of_below hS).cell c4; have y6 := (stay_of_below hS).cell c5; have y7 := (stay_of_below hS).cell c6; have y8 := (stay_of_below hS).cell c7; have y9 := (stay_of_below hS).cell c8
          go_simp
          try with_reducible rfl
        simp only [List.getElem_toArray, List.getElem_cons_succ, List.getElem_cons_zero, Act.put, List.setIfInBounds_toArray, List.set_cons_zero, List.set_cons_succ]
        refine wpAnyH_take (i := 8) (v := ?_) rfl (by kernel_rfl) (by kernel_rfl) (by kernel_rfl) (fun _ _ _ h => h) (.inl ⟨by kernel_rfl, fun w' hS => ?_⟩) hS ?_
        rotate_left
        ·
          have y0 := (stay_of_below hS).cell x0; have y1 := (stay_of_below hS).cell x1; have y2 := (stay_of_below hS).cell x2; have y3 := (stay_of_below hS).cell x3; have y4 := (stay_of_below hS).cell c3; have y5 := (stay_of_below hS).cell c4; have y6 := (stay_of_below hS).cell c5; have y7 := (stay_of_below hS).cell c6; have y8 := (stay_of_below hS).cell c7; have y9 := (stay_of_below hS).cell c8
          go_simp
          try with_reducible rfl
        simp only [List.getElem_toArray, List.getElem_cons_succ, List.getElem_cons_zero, Act.put, List.setIfInBounds_toArray, List.set_cons_zero, List.set_cons_succ]
        refine wpAnyH_take (i := 9) (v := ?_) rfl (by kernel_rfl) (by kernel_rfl) (by kernel_rfl) (fun _ _ _ h => h) (.inl ⟨by kernel_rfl, fun w' hS => ?_⟩) hS ?_
        rotate_left
        ·
          have y0 := (stay_of_below hS).cell x0; have y1 := (stay_of_below hS).cell x1; have y2 := (stay_of_below hS).cell x2; have y3 := (stay_of_below hS).cell x3; have y4 := (stay_of_below hS).cell c3; have y5 := (stay_of_below hS).cell c4; have y6 := (stay_of_below hS).cell c5; have y7 := (stay_of_below hS).cell c6; have y8 := (stay_of_below hS).cell c7; have y9 := (stay_of_below hS).cell c8
          go_simp
          try with_reducible rfl
        simp only [List.getElem_toArray, List.getElem_cons_succ, List.getElem_cons_zero, Act.put, List.setIfInBounds_toArray, List.set_cons_zero, List.set_cons_succ]
        refine wpAnyH_take (i := 10) (v := ?_) rfl (by kernel_rfl) (by kernel_rfl) (by kernel_rfl) (fun _ _ _ h => h) (.inl ⟨by kernel_rfl, fun w' hS => ?_⟩) hS ?_
        rotate_left
        ·
          have y0 := (stay_of_below hS).cell x0; have y1 := (stay_of_below hS).cell x1; have y2 := (stay_of_below hS).cell x2; have y3 := (stay_of_below hS).cell x3; have y4 := (stay_of_below hS).cell c3; have y5 := (stay_of_below hS).cell c4; have y6 := (stay_of_below hS).cell c5; have y7 := (stay_of_below hS).cell c6; have y8 := (stay_of_below hS).cell c7; have y9 := (stay_of_below hS).cell c8
          go_simp
          try with_reducible rfl
        simp only [List.getElem_toArray, List.getElem_cons_succ, List.getElem_cons_zero, Act.put, List.setIfInBounds_toArray, List.set_cons_zero, List.set_cons_succ]
        refine wpAnyH_take (i := 11) (v := ?_) rfl (by kernel_rfl) (by kernel_rfl) (by kernel_rfl) (fun _ _ _ h => h) (.inl ⟨by kernel_rfl, fun w' hS => ?_⟩) hS ?_
        rotate_left
        ·
          have y0 := (stay_of_below hS).cell x0; have y1 := (stay_of_below hS).cell x1; have y2 := (stay_of_below hS).cell x2; have y3 := (stay_of_below hS).cell x3; have y4 := (stay_of_below hS).cell c3; have y5 := (stay_of_below hS).cell c4; have y6 := (stay_of_below hS).cell c5; have y7 := (stay_of_below hS).cell c6; have y8 := (stay_of_below hS).cell c7; have y9 := (stay_of_below hS).cell c8
          go_simp
          try with_reducible rfl
        simp only [List.getElem_toArray, List.getElem_cons_succ, List.getElem_cons_zero, Act.put, List.setIfInBounds_toArray, List.set_cons_zero, List.set_cons_succ]
        refine wpAnyH_take (i := 12) (v := ?_) rfl (by kernel_rfl) (by kernel_rfl) (by kernel_rfl) (fun _ _ _ h => h) (.inl ⟨by kernel_rfl, fun w' hS => ?_⟩) hS ?_
        rotate_left
        ·
          have y0 := (stay_of_below hS).cell x0; have y1 := (stay_of_below hS).cell x1; have y2 := (stay_of_below hS).cell x2; have y3 := (stay_of_below hS).cell x3; have y4 := (stay_of_below hS).cell c3; have y5 := (stay_of_below hS).cell c4; have y6 := (stay_of_below hS).cell c5; have y7 := (stay_of_below hS).cell c6; have y8 := (stay_of_below hS).cell c7; have y9 := (stay_of_below hS).cell c8
          go_simp
          try with_reducible rfl
        simp only [List.getElem_toArray, List.getElem_cons_succ, List.getElem_cons_zero, Act.put, List.setIfInBounds_toArray, List.set_cons_zero, List.set_cons_succ]
        refine wpAnyH_take (i := 13) (v := ?_) rfl (by kernel_rfl) (by kernel_rfl) (by kernel_rfl) (fun _ _ _ h => h) (.inl ⟨by kernel_rfl, fun w' hS => ?_⟩) hS ?_
        rotate_left
        ·
          have y0 := (stay_of_below hS).cell x0; have y1 := (stay_of_below hS).cell x1; have y2 := (stay_of_below hS).cell x2; have y3 := (stay_of_below hS).cell x3; have y4 := (stay_of_below hS).cell c3; have y5 := (stay_of_below hS).cell c4; have y6 := (stay_of_below hS).cell c5; have y7 := (stay_of_below hS).cell c6; have y8 := (stay_of_below hS).cell c7; have y9 := (stay_of_below hS).cell c8
          go_simp
          try with_reducible rfl
        simp only [List.getElem_toArray, List.getElem_cons_succ, List.getElem_cons_zero, Act.put, List.setIfInBounds_toArray, List.set_cons_zero, List.set_cons_succ]
        refine wpAnyH_take (i := 14) (v := ?_) rfl (by kernel_rfl) (by kernel_rfl) (by kernel_rfl) (fun _ _ _ h => h) (.inl ⟨by kernel_rfl, fun w' hS => ?_⟩) hS ?_
        rotate_left
        ·
          have y0 := (stay_of_below hS).cell x0; have y1 := (stay_of_below hS).cell x1; have y2 := (stay_of_below hS).cell x2; have y3 := (stay_of_below hS).cell x3; have y4 := (stay_of_below hS).cell c3; have y5 := (stay_of_below hS).cell c4; have y6 := (stay_of_below hS).cell c5; have y7 := (stay_of_below hS).cell c6; have y8 := (stay_of_below hS).cell c7; have y9 := (stay_of_below hS).cell c8
          go_simp
          try with_reducible rfl
        simp only [List.getElem_toArray, List.getElem_cons_succ, List.getElem_cons_zero, Act.put, List.setIfInBounds_toArray, List.set_cons_zero, List.set_cons_succ]
        refine wpAnyH_take (i := 15) (v := ?_) rfl (by kernel_rfl) (by kernel_rfl) (by kernel_rfl) (fun _ _ _ h => h) (.inl ⟨by kernel_rfl, fun w' hS => ?_⟩) hS ?_
        rotate_left
        ·
          have y0 := (stay_of_below hS).cell x0; have y1 := (stay_of_below hS).cell x1; have y2 := (stay_of_below hS).cell x2; have y3 := (stay_of_below hS).cell x3; have y4 := (stay_of_below hS).cell c3; have y5 := (stay_of_below hS).cell c4; have y6 := (stay_of_below hS).cell c5; have y7 := (stay_of_below hS).cell c6; have y8 := (stay_of_below hS).cell c7; have y9 := (stay_of_below hS).cell c8
          go_simp
          try with_reducible rfl
        simp only [List.getElem_toArray, List.getElem_cons_succ, List.getElem_cons_zero, Act.put, List.setIfInBounds_toArray, List.set_cons_zero, List.set_cons_succ]
        refine wpAnyH_take (i := 16) (v := ?_) rfl (by kernel_rfl) (by kernel_rfl) (by kernel_rfl) (fun _ _ _ h => h) (.inl ⟨by kernel_rfl, fun w' hS => ?_⟩) hS ?_
        rotate_left
        ·
          have y0 := (stay_of_below hS).cell x0; have y1 := (stay_of_below hS).cell x1; have y2 := (stay_of_below hS).cell x2; have y3 := (stay_of_below hS).cell x3; have y4 := (stay_of_below hS).cell c3; have y5 := (stay_of_below hS).cell c4; have y6 := (stay_of_below hS).cell c5; have y7 := (stay_of_below hS).cell c6; have y8 := (stay_of_below hS).cell c7; have y9 := (stay_of_below hS).cell c8
          go_simp
          try with_reducible rfl
        simp only [List.getElem_toArray, List.getElem_cons_succ, List.getElem_cons_zero, Act.put, List.setIfInBounds_toArray, List.set_cons_zero, List.set_cons_succ]
        refine wpAnyH_take (i := 17) (v := ?_) rfl (by kernel_rfl) (by kernel_rfl) (by kernel_rfl) (fun _ _ _ h => h) (.inl ⟨by kernel_rfl, fun w' hS => ?_⟩) hS ?_
        rotate_left
        ·
          have y0 := (stay_of_below hS).cell x0; have y1 := (stay_of_below hS).cell x1; have y2 := (stay_of_below hS).cell x2; have y3 := (stay_of_below hS).cell x3; have y4 := (stay_of_below hS).cell c3; have y5 := (stay_of_below hS).cell c4; have y6 := (stay_of_below hS).cell c5; have y7 := (stay_of_below hS).cell c6; have y8 := (stay_of_below hS).cell c7; have y9 := (stay_of_below hS).cell c8
          go_simp
          try with_reducible rfl
        simp only [List.getElem_toArray, List.getElem_cons_succ, List.getElem_cons_zero, Act.put, List.setIfInBounds_toArray, List.set_cons_zero, List.set_cons_succ]
        refine wpAnyH_take (i := 18) (v := ?_) rfl (by kernel_rfl) (by kernel_rfl) (by kernel_rfl) (fun _ _ _ h => h) (.inl ⟨by kernel_rfl, fun w' hS => ?_⟩) hS ?_
        rotate_left
        ·
          have y0 := (stay_of_below hS).cell x0; have y1 := (stay_of_below hS).cell x1; have y2 := (stay_of_below hS).cell x2; have y3 := (stay_of_below hS).cell x3; have y4 := (stay_of_below hS).cell c3; have y5 := (stay_of_below hS).cell c4; have y6 := (stay_of_below hS).cell c5; have y7 := (stay_of_below hS).cell c6; have y8 := (stay_of_below hS).cell c7; have y9 := (stay_of_below hS).cell c8
          go_simp
          try with_reducible rfl
        simp only [List.getElem_toArray, List.getElem_cons_succ, List.getElem_cons_zero, Act.put, List.setIfInBounds_toArray, List.set_cons_zero, List.set_cons_succ]
        refine wpAnyH_take (i := 19) (v := ?_) rfl (by kernel_rfl) (by kernel_rfl) (by kernel_rfl) (fun _ _ _ h => h) (.inl ⟨by kernel_rfl, fun w' hS => ?_⟩) hS ?_
        rotate_left
        ·
          have y0 := (stay_of_below hS).cell x0; have y1 := (stay_of_below hS).cell x1; have y2 := (stay_of_below hS).cell x2; have y3 := (stay_of_below hS).cell x3; have y4 := (stay_of_below hS).cell c3; have y5 := (stay_of_below hS).cell c4; have y6 := (stay_of_below hS).cell c5; have y7 := (stay_of_below hS).cell c6; have y8 := (stay_of_below hS).cell c7; have y9 := (stay_of_below hS).cell c8
          go_simp
          try with_reducible rfl
        simp only [List.getElem_toArray, List.getElem_cons_succ, List.getElem_cons_zero, Act.put, List.setIfInBounds_toArray, List.set_cons_zero, List.set_cons_succ]
        refine wpAnyH_take (i := 20) (v := ?_) rfl (by kernel_rfl) (by kernel_rfl) (by kernel_rfl) (fun _ _ _ h => h) (.inl ⟨by kernel_rfl, fun w' hS => ?_⟩) hS ?_
        rotate_left
        ·
          have y0 := (stay_of_below hS).cell x0; have y1 := (stay_of_below hS).cell x1; have y2 := (stay_of_below hS).cell x2; have y3 := (stay_of_below hS).cell x3; have y4 := (stay_of_below hS).cell c3; have y5 := (stay_of_below hS).cell c4; have y6 := (stay_of_below hS).cell c5; have y7 := (stay_of_below hS).cell c6; have y8 := (stay_of_below hS).cell c7; have y9 := (stay_of_below hS).cell c8
          go_simp
          try with_reducible rfl
        simp only [List.getElem_toArray, List.getElem_cons_succ, List.getElem_cons_zero, Act.put, List.setIfInBounds_toArray, List.set_cons_zero, List.set_cons_succ]
        refine wpAnyH_take (i := 21) (v := ?_) rfl (by kernel_rfl) (by kernel_rfl) (by kernel_rfl) (fun _ _ _ h => h) (.inl ⟨by kernel_rfl, fun w' hS => ?_⟩) hS ?_
        rotate_left
        ·
          have y0 := (stay_of_below hS).cell x0; have y1 := (stay_of_below hS).cell x1; have y2 := (stay_of_below hS).cell x2; have y3 := (stay_of_below hS).cell x3; have y4 := (stay_of_below hS).cell c3; have y5 := (stay_of_below hS).cell c4; have y6 := (stay_of_below hS).cell c5; have y7 := (stay_of_below hS).cell c6; have y8 := (stay_of_below hS).cell c7; have y9 := (stay_of_below hS).cell c8
          go_simp
          try with_reducible rfl
        simp only [List.getElem_toArray, List.getElem_cons_succ, List.getElem_cons_zero, Act.put, List.setIfInBounds_toArray, List.set_cons_zero, List.set_cons_succ]
        refine wpAnyH_take (i := 22) (v := ?_) rfl (by kernel_rfl) (by kernel_rfl) (by kernel_rfl) (fun _ _ _ h => h) (.inl ⟨by kernel_rfl, fun w' hS => ?_⟩) hS ?_
        rotate_left
        ·
          have y0 := (stay_of_below hS).cell x0; have y1 := (stay_of_below hS).cell x1; have y2 := (stay_of_below hS).cell x2; have y3 := (stay_of_below hS).cell x3; have y4 := (stay_of_below hS).cell c3; have y5 := (stay_of_below hS).cell c4; have y6 := (stay_of_below hS).cell c5; have y7 := (stay_of_below hS).cell c6; have y8 := (stay_of_below hS).cell c7; have y9 := (stay_of_below hS).cell c8
          go_simp
          try with_reducible rfl
        simp only [List.getElem_toArray, List.getElem_cons_succ, List.getElem_cons_zero, Act.put, List.setIfInBounds_toArray, List.set_cons_zero, List.set_cons_succ]
        refine wpAnyH_take (i := 23) (v := ?_) rfl (by kernel_rfl) (by kernel_rfl) (by kernel_rfl) (fun _ _ _ h => h) (.inl ⟨by kernel_rfl, fun w' hS => ?_⟩) hS ?_
        rotate_left
        ·
          have y0 := (stay_of_below hS).cell x0; have y1 := (stay_of_below hS).cell x1; have y2 := (stay_of_below hS).cell x2; have y3 := (stay_of_below hS).cell x3; have y4 := (stay_of_below hS).cell c3; have y5 := (stay_of_below hS).cell c4; have y6 := (stay_of_below hS).cell c5; have y7 := (stay_of_below hS).cell c6; have y8 := (stay_of_below hS).cell c7; have y9 := (stay_of_below hS).cell c8
          go_simp
          try with_reducible rfl
        simp only [List.getElem_toArray, List.getElem_cons_succ, List.getElem_cons_zero, Act.put, List.setIfInBounds_toArray, List.set_cons_zero, List.set_cons_succ]
        refine wpAnyH_take (i := 24) (v := ?_) rfl (by kernel_rfl) (by kernel_rfl) (by kernel_rfl) (fun _ _ _ h => h) (.inl ⟨by kernel_rfl, fun w' hS => ?_⟩) hS ?_
        rotate_left
        ·
          have y0 := (stay_of_below hS).cell x0; have y1 := (stay_of_below hS).cell x1; have y2 := (stay_of_below hS).cell x2; have y3 := (stay_of_below hS).cell x3; have y4 := (stay_of_below hS).cell c3; have y5 := (stay_of_below hS).cell c4; have y6 := (stay_of_below hS).cell c5; have y7 := (stay_of_below hS).cell c6; have y8 := (stay_of_below hS).cell c7; have y9 := (stay_of_below hS).cell c8
          go_simp
          try with_reducible rfl
        simp only [List.getElem_toArray, List.getElem_cons_succ, List.getElem_cons_zero, Act.put, List.setIfInBounds_toArray, List.set_cons_zero, List.set_cons_succ]
        refine wpAnyH_take (i := 26) (v := ?_) rfl (by kernel_rfl) (by kernel_rfl) (by kernel_rfl) (fun _ _ _ h => h) (.inl ⟨by kernel_rfl, fun w' hS => ?_⟩) hS ?_
        rotate_left
        ·
          have y0 := (stay_of_below hS).cell x0; have y1 := (stay_of_below hS).cell x1; have y2 := (stay_of_below hS).cell x2; have y3 := (stay_of_below hS).cell x3; have y4 := (stay_of_below hS).cell c3; have y5 := (stay_of_below hS).cell c4; have y6 := (stay_of_below hS).cell c5; have y7 := (stay_of_below hS).cell c6; have y8 := (stay_of_below hS).cell c7; have y9 := (stay_of_below hS).cell c8
          go_simp
          try with_reducible rfl
        simp only [List.getElem_toArray, List.getElem_cons_succ, List.getElem_cons_zero, Act.put, List.setIfInBounds_toArray, List.set_cons_zero, List.set_cons_succ]
        refine wpAnyH_take (i := 27) (v := ?_) rfl (by kernel_rfl) (by kernel_rfl) (by kernel_rfl) (fun _ _ _ h => h) (.inl ⟨by kernel_rfl, fun w' hS => ?_⟩) hS ?_
        rotate_left
        ·
          have y0 := (stay_of_below hS).cell x0; have y1 := (stay_of_below hS).cell x1; have y2 := (stay_of_below hS).cell x2; have y3 := (stay_of_below hS).cell x3; have y4 := (stay_of_below hS).cell c3; have y5 := (stay_of_below hS).cell c4; have y6 := (stay_of_below hS).cell c5; have y7 := (stay_of_below hS).cell c6; have y8 := (stay_of_below hS).cell c7; have y9 := (stay_of_below hS).cell c8
          go_simp
          try with_reducible rfl
        simp only [List.getElem_toArray, List.getElem_cons_succ, List.getElem_cons_zero, Act.put, List.setIfInBounds_toArray, List.set_cons_zero, List.set_cons_succ]
        refine wpAnyH_ready (rs := [25]) (by kernel_rfl) (by simp) ?_
        refine AllReadyH.cons rfl (fun K hK => ?_) AllReadyH.nil
        clear hS
        go_simp
        refine (cU2.out wC hC1 _ _ (tS.stay hC1) (tT.stay hC1)).mono ?_
        rintro e wD ⟨v, rfl, hO⟩
        obtain ⟨vv, rv, rfl, hbwD, hown, hszs, hMR⟩ := hO
        obtain ⟨anwD, cnwD, hvn⟩ := own_form4x hown
        obtain ⟨arwD, crwD, hvr⟩ := hMR.form
        subst hvn
        subst hvr
        have twD : TabA wD 1048576 _ _ := ⟨_, _, rfl, ⟨own_row (by rw [textsV_length]; exact hown), hszs⟩, hMR.read⟩
        clear hown hszs hMR
        go_wp2_with fail
        refine hK.out _ _ (hC1.trans (hbwD.mono hC1.size)) (fun hS => ?_)
        clear hK K
        try simp only [List.getElem_toArray, List.getElem_cons_succ, List.getElem_cons_zero, Act.put, List.setIfInBounds_toArray, List.set_cons_zero, List.set_cons_succ]
        have hD1 := hC1.trans (hbwD.mono hC1.size)
        refine wpAnyH_ready (rs := [28]) (by kernel_rfl) (by simp) ?_
        refine AllReadyH.cons rfl (fun K hK => ?_) AllReadyH.nil
        clear hS
        go_simp
        refine (cQ2.out wD hD1 _ twD).mono ?_
        rintro e wF ⟨rfl, hbF⟩
        go_wp2_with fail
        refine hK.out _ _ (hD1.trans (hbF.mono hD1.size)) (fun hS => ?_)
        clear hK K
        try simp only [List.getElem_toArray, List.getElem_cons_succ, List.getElem_cons_zero, Act.put, List.setIfInBounds_toArray, List.set_cons_zero, List.set_cons_succ]
        have hF1 := hD1.trans (hbF.mono hD1.size)
        clear hbF hbwD twD hC1 hD1 cU2 cQ2
        refine wpAnyH_take (i := 29) (v := ?_) rfl (by kernel_rfl) (by kernel_rfl) (by kernel_rfl) (fun _ _ _ h => h) (.inl ⟨by kernel_rfl, fun w' hS => ?_⟩) hS ?_
        rotate_left
        ·
          have y0 := (stay_of_below hS).cell x0; have y1 := (stay_of_below hS).cell x1; have y2 := (stay_of_below hS).cell x2; have y3 := (stay_of_below hS).cell x3; have y4 := (stay_of_below hS).cell c3; have y5 := (stay_of_below hS).cell c4; have y6 := (stay_of_below hS).cell c5; have y7 := (stay_of_below hS).cell c6; have y8 := (stay_of_below hS).cell c7; have y9 := (stay_of_below hS).cell c8
          go_simp
          try with_reducible rfl
        simp only [List.getElem_toArray, List.getElem_cons_succ, List.getElem_cons_zero, Act.put, List.setIfInBounds_toArray, List.set_cons_zero, List.set_cons_succ]
        refine wpAnyH_take (i := 30) (v := ?_) rfl (by kernel_rfl) (by kernel_rfl) (by kernel_rfl) (fun _ _ _ h => h) (.inl ⟨by kernel_rfl, fun w' hS => ?_⟩) hS ?_
        rotate_left
        ·
          have y0 := (stay_of_below hS).cell x0; have y1 := (stay_of_below hS).cell x1; have y2 := (stay_of_below hS).cell x2; have y3 := (stay_of_below hS).cell x3; have y4 := (stay_of_below hS).cell c3; have y5 := (stay_of_below hS).cell c4; have y6 := (stay_of_below hS).cell c5; have y7 := (stay_of_below hS).cell c6; have y8 := (stay_of_below hS).cell c7; have y9 := (stay_of_below hS).cell c8
          go_simp
          try with_reducible rfl
        simp only [List.getElem_toArray, List.getElem_cons_succ, List.getElem_cons_zero, Act.put, List.setIfInBounds_toArray, List.set_cons_zero, List.set_cons_succ]
        refine wpAnyH_take (i := 31) (v := ?_) rfl (by kernel_rfl) (by kernel_rfl) (by kernel_rfl) (fun _ _ _ h => h) (.inl ⟨by kernel_rfl, fun w' hS => ?_⟩) hS ?_
        rotate_left
        ·
          have y0 := (stay_of_below hS).cell x0; have y1 := (stay_of_below hS).cell x1; have y2 := (stay_of_below hS).cell x2; have y3 := (stay_of_below hS).cell x3; have y4 := (stay_of_below hS).cell c3; have y5 := (stay_of_below hS).cell c4; have y6 := (stay_of_below hS).cell c5; have y7 := (stay_of_below hS).cell c6; have y8 := (stay_of_below hS).cell c7; have y9 := (stay_of_below hS).cell c8
          go_simp
          try with_reducible rfl
        simp only [List.getElem_toArray, List.getElem_cons_succ, List.getElem_cons_zero, Act.put, List.setIfInBounds_toArray, List.set_cons_zero, List.set_cons_succ]
        refine wpAnyH_take (i := 32) (v := ?_) rfl (by kernel_rfl) (by kernel_rfl) (by kernel_rfl) (fun _ _ _ h => h) (.inl ⟨by kernel_rfl, fun w' hS => ?_⟩) hS ?_
        rotate_left
        ·
          have y0 := (stay_of_below hS).cell x0; have y1 := (stay_of_below hS).cell x1; have y2 := (stay_of_below hS).cell x2; have y3 := (stay_of_below hS).cell x3; have y4 := (stay_of_below hS).cell c3; have y5 := (stay_of_below hS).cell c4; have y6 := (stay_of_below hS).cell c5; have y7 := (stay_of_below hS).cell c6; have y8 := (stay_of_below hS).cell c7; have y9 := (stay_of_below hS).cell c8
          go_simp
          try with_reducible rfl
        simp only [List.getElem_toArray, List.getElem_cons_succ, List.getElem_cons_zero, Act.put, List.setIfInBounds_toArray, List.set_cons_zero, List.set_cons_succ]
        refine wpAnyH_take (i := 33) (v := ?_) rfl (by kernel_rfl) (by kernel_rfl) (by kernel_rfl) (fun _ _ _ h => h) (.inl ⟨by kernel_rfl, fun w' hS => ?_⟩) hS ?_
        rotate_left
        ·
          have y0 := (stay_of_below hS).cell x0; have y1 := (stay_of_below hS).cell x1; have y2 := (stay_of_below hS).cell x2; have y3 := (stay_of_below hS).cell x3; have y4 := (stay_of_below hS).cell c3; have y5 := (stay_of_below hS).cell c4; have y6 := (stay_of_below hS).cell c5; have y7 := (stay_of_below hS).cell c6; have y8 := (stay_of_below hS).cell c7; have y9 := (stay_of_below hS).cell c8
          go_simp
          try with_reducible rfl
        simp only [List.getElem_toArray, List.getElem_cons_succ, List.getElem_cons_zero, Act.put, List.setIfInBounds_toArray, List.set_cons_zero, List.set_cons_succ]
        refine wpAnyH_take (i := 34) (v := ?_) rfl (by kernel_rfl) (by kernel_rfl) (by kernel_rfl) (fun _ _ _ h => h) (.inl ⟨by kernel_rfl, fun w' hS => ?_⟩) hS ?_
        rotate_left
        ·
          have y0 := (stay_of_below hS).cell x0; have y1 := (stay_of_below hS).cell x1; have y2 := (stay_of_below hS).cell x2; have y3 := (stay_of_below hS).cell x3; have y4 := (stay_of_below hS).cell c3; have y5 := (stay_of_below hS).cell c4; have y6 := (stay_of_below hS).cell c5; have y7 := (stay_of_below hS).cell c6; have y8 := (stay_of_below hS).cell c7; have y9 := (stay_of_below hS).cell c8
          go_simp
          try with_reducible rfl
        simp only [List.getElem_toArray, List.getElem_cons_succ, List.getElem_cons_zero, Act.put, List.setIfInBounds_toArray, List.set_cons_zero, List.set_cons_succ]
        have hfr2 := hfr
        refine wpAnyH_ready (rs := [35]) (by kernel_rfl) (by simp) ?_
        refine AllReadyH.cons rfl (fun K hK => ?_) AllReadyH.nil
        clear hS
        go_simp
        refine (cTB2.out wF hF1 _ (tT.stay hF1)).mono ?_
        rintro e wG ⟨v, rfl, hO⟩
        obtain ⟨vv, rv, rfl, hbwG, hown, hszs, hMR⟩ := hO
        obtain ⟨anwG, cnwG, hvn⟩ := own_form4x hown
        obtain ⟨arwG, crwG, hvr⟩ := hMR.form
        subst hvn
        subst hvr
        have twG : TabA wG 1048576 _ _ := ⟨_, _, rfl, ⟨own_row (by rw [textsV_length]; exact hown), hszs⟩, hMR.read⟩
        clear hown hszs hMR
        go_wp2_with fail
        refine hK.out _ _ (hF1.trans (hbwG.mono hF1.size)) (fun hS => ?_)
        clear hK K
        try simp only [List.getElem_toArray, List.getElem_cons_succ, List.getElem_cons_zero, Act.put, List.setIfInBounds_toArray, List.set_cons_zero, List.set_cons_succ]
        have hG1 := hF1.trans (hbwG.mono hF1.size)
        refine wpAnyH_take (i := 36) (v := ?_) rfl (by kernel_rfl) (by kernel_rfl) (by kernel_rfl) (fun _ _ _ h => h) (.inl ⟨by kernel_rfl, fun w' hS => ?_⟩) hS ?_
        rotate_left
        ·
          have y0 := (stay_of_below hS).cell x0; have y1 := (stay_of_below hS).cell x1; have y2 := (stay_of_below hS).cell x2; have y3 := (stay_of_below hS).cell x3; have y4 := (stay_of_below hS).cell c3; have y5 := (stay_of_below hS).cell c4; have y6 := (stay_of_below hS).cell c5; have y7 := (stay_of_below hS).cell c6; have y8 := (stay_of_below hS).cell c7; have y9 := (stay_of_below hS).cell c8
          go_simp
          try with_reducible rfl
        simp only [List.getElem_toArray, List.getElem_cons_succ, List.getElem_cons_zero, Act.put, List.setIfInBounds_toArray, List.set_cons_zero, List.set_cons_succ]
        refine wpAnyH_take (i := 37) (v := ?_) rfl (by kernel_rfl) (by kernel_rfl) (by kernel_rfl) (fun _ _ _ h => h) (.inl ⟨by kernel_rfl, fun w' hS => ?_⟩) hS ?_
        rotate_left
        ·
          have y0 := (stay_of_below hS).cell x0; have y1 := (stay_of_below hS).cell x1; have y2 := (stay_of_below hS).cell x2; have y3 := (stay_of_below hS).cell x3; have y4 := (stay_of_below hS).cell c3; have y5 := (stay_of_below hS).cell c4; have y6 := (stay_of_below hS).cell c5; have y7 := (stay_of_below hS).cell c6; have y8 := (stay_of_below hS).cell c7; have y9 := (stay_of_below hS).cell c8
          go_simp
          try with_reducible rfl
        simp only [List.getElem_toArray, List.getElem_cons_succ, List.getElem_cons_zero, Act.put, List.setIfInBounds_toArray, List.set_cons_zero, List.set_cons_succ]
        refine wpAnyH_take (i := 38) (v := ?_) rfl (by kernel_rfl) (by kernel_rfl) (by kernel_rfl) (fun _ _ _ h => h) (.inl ⟨by kernel_rfl, fun w' hS => ?_⟩) hS ?_
        rotate_left
        ·
          have y0 := (stay_of_below hS).cell x0; have y1 := (stay_of_below hS).cell x1; have y2 := (stay_of_below hS).cell x2; have y3 := (stay_of_below hS).cell x3; have y4 := (stay_of_below hS).cell c3; have y5 := (stay_of_below hS).cell c4; have y6 := (stay_of_below hS).cell c5; have y7 := (stay_of_below hS).cell c6; have y8 := (stay_of_below hS).cell c7; have y9 := (stay_of_below hS).cell c8
          go_simp
          try with_reducible rfl
        simp only [List.getElem_toArray, List.getElem_cons_succ, List.getElem_cons_zero, Act.put, List.setIfInBounds_toArray, List.set_cons_zero, List.set_cons_succ]
        refine wpAnyH_take (i := 39) (v := ?_) rfl (by kernel_rfl) (by kernel_rfl) (by kernel_rfl) (fun _ _ _ h => h) (.inl ⟨by kernel_rfl, fun w' hS => ?_⟩) hS ?_
        rotate_left
        ·
          have y0 := (stay_of_below hS).cell x0; have y1 := (stay_of_below hS).cell x1; have y2 := (stay_of_below hS).cell x2; have y3 := (stay_of_below hS).cell x3; have y4 := (stay_of_below hS).cell c3; have y5 := (stay_of_below hS).cell c4; have y6 := (stay_of_below hS).cell c5; have y7 := (stay_of_below hS).cell c6; have y8 := (stay_of_below hS).cell c7; have y9 := (stay_of_below hS).cell c8
          go_simp
          try with_reducible rfl
        simp only [List.getElem_toArray, List.getElem_cons_succ, List.getElem_cons_zero, Act.put, List.setIfInBounds_toArray, List.set_cons_zero, List.set_cons_succ]
        refine wpAnyH_take (i := 40) (v := ?_) rfl (by kernel_rfl) (by kernel_rfl) (by kernel_rfl) (fun _ _ _ h => h) (.inl ⟨by kernel_rfl, fun w' hS => ?_⟩) hS ?_
        rotate_left
        ·
          have y0 := (stay_of_below hS).cell x0; have y1 := (stay_of_below hS).cell x1; have y2 := (stay_of_below hS).cell x2; have y3 := (stay_of_below hS).cell x3; have y4 := (stay_of_below hS).cell c3; have y5 := (stay_of_below hS).cell c4; have y6 := (stay_of_below hS).cell c5; have y7 := (stay_of_below hS).cell c6; have y8 := (stay_of_below hS).cell c7; have y9 := (stay_of_below hS).cell c8
          go_simp
          try with_reducible rfl
        simp only [List.getElem_toArray, List.getElem_cons_succ, List.getElem_cons_zero, Act.put, List.setIfInBounds_toArray, List.set_cons_zero, List.set_cons_succ]
        refine wpAnyH_take (i := 41) (v := ?_) rfl (by kernel_rfl) (by kernel_rfl) (by kernel_rfl) (fun _ _ _ h => h) (.inl ⟨by kernel_rfl, fun w' hS => ?_⟩) hS ?_
        rotate_left
        ·
          have y0 := (stay_of_below hS).cell x0; have y1 := (stay_of_below hS).cell x1; have y2 := (stay_of_below hS).cell x2; have y3 := (stay_of_below hS).cell x3; have y4 := (stay_of_below hS).cell c3; have y5 := (stay_of_below hS).cell c4; have y6 := (stay_of_below hS).cell c5; have y7 := (stay_of_below hS).cell c6; have y8 := (stay_of_below hS).cell c7; have y9 := (stay_of_below hS).cell c8
          go_simp
          try with_reducible rfl
        simp only [List.getElem_toArray, List.getElem_cons_succ, List.getElem_cons_zero, Act.put, List.setIfInBounds_toArray, List.set_cons_zero, List.set_cons_succ]
        refine wpAnyH_take (i := 42) (v := ?_) rfl (by kernel_rfl) (by kernel_rfl) (by kernel_rfl) (fun _ _ _ h => h) (.inl ⟨by kernel_rfl, fun w' hS => ?_⟩) hS ?_
        rotate_left
        ·
          have y0 := (stay_of_below hS).cell x0; have y1 := (stay_of_below hS).cell x1; have y2 := (stay_of_below hS).cell x2; have y3 := (stay_of_below hS).cell x3; have y4 := (stay_of_below hS).cell c3; have y5 := (stay_of_below hS).cell c4; have y6 := (stay_of_below hS).cell c5; have y7 := (stay_of_below hS).cell c6; have y8 := (stay_of_below hS).cell c7; have y9 := (stay_of_below hS).cell c8
          go_simp
          try with_reducible rfl
        simp only [List.getElem_toArray, List.getElem_cons_succ, List.getElem_cons_zero, Act.put, List.setIfInBounds_toArray, List.set_cons_zero, List.set_cons_succ]
        refine wpAnyH_take (i := 43) (v := ?_) rfl (by kernel_rfl) (by kernel_rfl) (by kernel_rfl) (fun _ _ _ h => h) (.inl ⟨by kernel_rfl, fun w' hS => ?_⟩) hS ?_
        rotate_left
        ·
          have y0 := (stay_of_below hS).cell x0; have y1 := (stay_of_below hS).cell x1; have y2 := (stay_of_below hS).cell x2; have y3 := (stay_of_below hS).cell x3; have y4 := (stay_of_below hS).cell c3; have y5 := (stay_of_below hS).cell c4; have y6 := (stay_of_below hS).cell c5; have y7 := (stay_of_below hS).cell c6; have y8 := (stay_of_below hS).cell c7; have y9 := (stay_of_below hS).cell c8
          go_simp
          try with_reducible rfl
        simp only [List.getElem_toArray, List.getElem_cons_succ, List.getElem_cons_zero, Act.put, List.setIfInBounds_toArray, List.set_cons_zero, List.set_cons_succ]
        refine wpAnyH_take (i := 45) (v := ?_) rfl (by kernel_rfl) (by kernel_rfl) (by kernel_rfl) (fun _ _ _ h => h) (.inl ⟨by kernel_rfl, fun w' hS => ?_⟩) hS ?_
        rotate_left
        ·
          have y0 := (stay_of_below hS).cell x0; have y1 := (stay_of_below hS).cell x1; have y2 := (stay_of_below hS).cell x2; have y3 := (stay_of_below hS).cell x3; have y4 := (stay_of_below hS).cell c3; have y5 := (stay_of_below hS).cell c4; have y6 := (stay_of_below hS).cell c5; have y7 := (stay_of_below hS).cell c6; have y8 := (stay_of_below hS).cell c7; have y9 := (stay_of_below hS).cell c8
          go_simp
          try with_reducible rfl
        simp only [List.getElem_toArray, List.getElem_cons_succ, List.getElem_cons_zero, Act.put, List.setIfInBounds_toArray, List.set_cons_zero, List.set_cons_succ]
        refine wpAnyH_ready (rs := [44]) (by kernel_rfl) (by simp) ?_
        refine AllReadyH.cons rfl (fun K hK => ?_) AllReadyH.nil
        clear hS
        go_simp
        refine (cSB2.out wG hG1 _ (tS.stay hG1)).mono ?_
        rintro e wH ⟨v, rfl, hO⟩
        obtain ⟨vv, rv, rfl, hbwH, hown, hszs, hMR⟩ := hO
        obtain ⟨anwH, cnwH, hvn⟩ := own_form4x hown
        obtain ⟨arwH, crwH, hvr⟩ := hMR.form
        subst hvn
        subst hvr
        have twH : TabA wH 1048576 _ _ := ⟨_, _, rfl, ⟨own_row (by rw [textsV_length]; exact hown), hszs⟩, hMR.read⟩
        clear hown hszs hMR
        go_wp2_with fail
        refine hK.out _ _ (hG1.trans (hbwH.mono hG1.size)) (fun hS => ?_)
        clear hK K
        try simp only [List.getElem_toArray, List.getElem_cons_succ, List.getElem_cons_zero, Act.put, List.setIfInBounds_toArray, List.set_cons_zero, List.set_cons_succ]
        have hH1 := hG1.trans (hbwH.mono hG1.size)
        refine wpAnyH_ready (rs := [46]) (by kernel_rfl) (by simp) ?_
        refine AllReadyH.cons rfl (fun K hK => ?_) AllReadyH.nil
        clear hS
        go_simp
        refine (cE.out wH _ _ twH (tJ.stay hH1)).mono ?_
        rintro e wI ⟨rfl, hbI⟩
        go_wp2_with fail
        refine hK.out _ _ (hH1.trans (hbI.mono hH1.size)) (fun hS => ?_)
        clear hK K
        try simp only [List.getElem_toArray, List.getElem_cons_succ, List.getElem_cons_zero, Act.put, List.setIfInBounds_toArray, List.set_cons_zero, List.set_cons_succ]
        have hI1 := hH1.trans (hbI.mono hH1.size)
        clear hbI hbwG hbwH twG twH hF1 hG1 hH1 cTB2 cSB2
        refine wpAnyH_take (i := 47) (v := ?_) rfl (by kernel_rfl) (by kernel_rfl) (by kernel_rfl) (fun _ _ _ h => h) (.inl ⟨by kernel_rfl, fun w' hS => ?_⟩) hS ?_
        rotate_left
        ·
          skip
          go_simp
          try with_reducible rfl
        simp only [List.getElem_toArray, List.getElem_cons_succ, List.getElem_cons_zero, Act.put, List.setIfInBounds_toArray, List.set_cons_zero, List.set_cons_succ]
        refine wpAnyH_take (i := 48) (v := ?_) rfl (by kernel_rfl) (by kernel_rfl) (by kernel_rfl) (fun _ _ _ h => h) (.inl ⟨by kernel_rfl, fun w' hS => ?_⟩) hS ?_
        rotate_left
        ·
          skip
          go_simp
          try with_reducible rfl
        simp only [List.getElem_toArray, List.getElem_cons_succ, List.getElem_cons_zero, Act.put, List.setIfInBounds_toArray, List.set_cons_zero, List.set_cons_succ]
        refine wpAnyH_done (by kernel_rfl) ?_ _
        clear hS
        have hq1o := hq1.out
        have hq2o := hq2.out
        replace c3 := (stay_of_below hI1).cell c3
        replace c4 := (stay_of_below hI1).cell c4
        replace c5 := (stay_of_below hI1).cell c5
        replace c6 := (stay_of_below hI1).cell c6
        have hBI := Lib.hid (hBz.out.trans (hI1.mono hBz.out.size))
        have hEI := Lib.hid (hEz.out _ hI1)
        clear x0 x1 x2 x3 x4 x5 c7 c8 tJ tS tT h0 hI1 hBz hEz hsI hsI2 hsum hsumb hq1 hq2 cE
        go_wp2_with fail
        refine (wakesJ_any _ (hEI.out)).mono ?_
        rintro e wz ⟨rfl, hbz⟩
        have hbzz := Lib.hid (hBI.out.trans (hbz.mono hBI.out.size))
        clear hbz
        go_wp2
        go_ret
        exact ⟨rfl, hbzz.out⟩
end Go.Proofs.YtjpondgobogkeaaGreatDoor.tab

/- Half joins and what is left part a table; joins by hash and by loop tell the same; what is left joins with nothing, the half join as the whole: for every argument that may be read and that is not above the bound of the statement (1048576 values and letters), where the listed variables of the library hold what the program's text lays. -/
namespace Go.Proofs.YtjpondgobogkeaaGreatDoor.tab
open Go.ChangeShapes Go.WideShapes Go.ChangeAt Go.RowKit kit dec val
set_option linter.unusedVariables false
set_option maxRecDepth 100000 in
theorem jparts_all {H : Type} (enc : TypeId × Value → H) (W : World) (base : Nat) (v0 : Value) (d0 : DataW H) (p0 : List MemPlace) (hv : Value.okWide Tryz.prog W .any base 43 v0)
    (h : DataW.Trod enc Tryz.prog W 0 (fun _ => true) true 43 v0 d0 p0) (hlt : ∀ x ∈ p0, x.block < W.heap.size) (hb : Rows.uptoBulk d0 ≤ 1048576) (hE : Env W) :
    Calls Tryz.prog 6 #[v0] W fun e w' => e = .returned (.bool true) ∧ Below W.heap.size W w' := by
  obtain ⟨va, ra, vb, rb, ov, A, B, lang, hT⟩ := open_twoJ hv h hb
  exact jparts_any W hE v0 va ra vb rb ov A B lang hT
set_option maxRecDepth 100000 in
theorem joinParts_witness (os : Os) {H : Type} (enc : TypeId × Value → H) :
    ∃ (w : World) (tape : Tape) (i : Input), w.os = os ∧ (w.forCall tape i).Shaped Tryz.prog ∧ i.vars = [] ∧ Input.okWide Tryz.prog (w.forCall tape i) .any w.heap.size 6 i ∧
      (Rows.OpenSpec.upto Rows.joinPartsSpec).preRow enc Tryz.prog Tryz.f6 Rows.joinPartsUptoRow.domain false Rows.joinPartsUptoRow.laid (w.forCall tape i).memory i.args ∧ ({} : Assume).holds Tryz.prog (lone (Frame.enter Tryz.prog 6 i.args .normal) [] (w.forCall tape i)) := by
  have hx : ∃ places, DataW.whole enc Tryz.prog ((World.laidAll Tryz.prog os laidList).forCall (fun _ _ => 0) ⟨#[], #[.agg #[.slice none 0 0, .slice none 0 0, .slice none 0 0, .slice none 0 0, .int .i64 0, .slice none 0 0]], []⟩).memory Tryz.f6.params.toList Rows.joinPartsSpec.vars false (#[.agg #[.slice none 0 0, .slice none 0 0, .slice none 0 0, .slice none 0 0, .int .i64 0, .slice none 0 0]] : Array Value).toList 8 = some ([.agg [.agg [.nil, .nil], .agg [.nil, .nil], .lit (.int .i64 0), .nil]], [], places) := ⟨[], by kernel_rfl⟩
  obtain ⟨places, hx⟩ := hx
  have hok : Input.okWideB Tryz.prog ((World.laidAll Tryz.prog os laidList).forCall (fun _ _ => 0) ⟨#[], #[.agg #[.slice none 0 0, .slice none 0 0, .slice none 0 0, .slice none 0 0, .int .i64 0, .slice none 0 0]], []⟩) 6 ⟨#[], #[.agg #[.slice none 0 0, .slice none 0 0, .slice none 0 0, .slice none 0 0, .int .i64 0, .slice none 0 0]], []⟩ = true := by kernel_rfl
  refine ⟨World.laidAll Tryz.prog os laidList, fun _ _ => 0, ⟨#[], #[.agg #[.slice none 0 0, .slice none 0 0, .slice none 0 0, .slice none 0 0, .int .i64 0, .slice none 0 0]], []⟩, World.laidAll_os _ _ _, World.shaped_of_ZipB (by kernel_rfl) (by kernel_rfl), (Input.okWide_of_okWideB (base := 0) hok).1, (Input.okWide_of_okWideB hok).2, ?_, ?_⟩
  · exact OpenSpec.preRow_of_cond 8 hx (by kernel_rfl) (fun k hk => by cases hk; kernel_rfl) (by kernel_rfl) (by
      rw [show Rows.joinPartsUptoRow.laid = laidList from rfl, MakeChecks.laidMetH_plain _ _ _ (by kernel_rfl)]; exact laidMet_laidAll _ (by kernel_rfl) (by kernel_rfl))
  · simp only [Assume.holds]
    exact ⟨by simp, by simp, fun _ => Modest.zero, by simp, by simp⟩
set_option maxRecDepth 100000 in
theorem joinParts_lifted (os : Os) (started : os.Started) (H : Type) (enc : TypeId × Value → H) (F : Stop.Interp) :
    ReturnsInHanded {} Tryz.checked os 6 .any ((Rows.OpenSpec.upto Rows.joinPartsSpec).preRow enc Tryz.prog Tryz.f6 Rows.joinPartsUptoRow.domain false Rows.joinPartsUptoRow.laid) (((Rows.OpenSpec.upto Rows.joinPartsSpec).at F).post enc Tryz.prog Tryz.f6 false true false false) := by
  refine returnsInHanded_of_row (C := Tryz.checked) (s := Rows.OpenSpec.upto Rows.joinPartsSpec) frame.own started (by kernel_rfl) Tryz.func6 (joinParts_witness os enc) ?_
  intro W base args ds gs before hval0 hW _ hcond hsz0 hL hsh _
  have hbulk : Rows.uptoBulkAll (ds ++ gs) ≤ 1048576 := of_decide_eq_true (hcond _ rfl)
  have hval : ∀ (j : Nat) t v, Tryz.f6.params[j]? = some t → args[j]? = some v → Value.okWide Tryz.prog W .any base t v := hval0
  have hW' := hW
  obtain ⟨p, q, hA0, hV, rfl, hfz, hnd⟩ := hW
  have hA : DataW.TrodAll enc Tryz.prog W 0 (fun _ => true) true Tryz.f6.params.toList args.toList ds p := hA0
  rw [Tryz.params6] at hA hval
  obtain ⟨v0, vs0, d0, ds0, p0, q0, hargs, rfl, rfl, h0, r0⟩ := trodAll_cons hA
  obtain ⟨rfl, rfl, rfl⟩ := trodAll_nil r0
  obtain rfl : args = #[v0] := by cases args; simp_all
  obtain ⟨rfl, rfl⟩ := trodVars_none hV
  clear hA0 hval0
  simp only [List.append_nil] at hW'
  have hlt : ∀ x ∈ p0, x.block < W.heap.size := fun x hx => hW'.lt x hx
  have hb0 : Rows.uptoBulk d0 ≤ 1048576 := by
    have h1 : ([d0] ++ [] : List (DataW H)) = [d0] := rfl
    rw [h1] at hbulk
    simp only [Rows.uptoBulkAll] at hbulk
    omega
  refine (jparts_all enc W base v0 d0 p0 (hval 0 _ v0 rfl rfl) h0 hlt hb0 (env_of hL hsh)).mono fun e W' ⟨he, hg⟩ => ?_
  subst he
  exact ⟨_, rfl, frame.post_of_below (pa := p0 ++ []) (pv := []) hW' (fun _ _ _ => (trodAll_cons_mk (shut_bool Tryz.underlying4 _) trodAll_mk0))
    (fun sp hsp => trodAll_cons_mk (WideElems.Trod_stays frame.laid (by kernel_rfl) (of_decide_eq_true (by kernel_rfl)) h0 (fun x hx => hg.same (hlt x hx)) (sp' := sp) (fun x hx => hsp x hx)) trodAll_mk0)
    (fun _ _ => rfl) (by simp) hg (ok_one (by kernel_rfl) rfl (okWide_bool_mk Tryz.underlying4 _))⟩
theorem joinParts_over : Rows.joinPartsUptoRow.holds Tryz.pinned (Rows.OpenSpec.upto Rows.joinPartsSpec) :=
  OpenClaim.holds_of_cond 6 Tryz.f6 rfl rfl rfl rfl rfl rfl rfl ⟨rfl, rfl, rfl, rfl, rfl⟩ rfl rfl rfl rfl rfl (by kernel_rfl) Tryz.func6 (by kernel_rfl)
    (of_decide_eq_true (by kernel_rfl)) (by unfold Func.isWrapper; first | (rw [if_pos (by decide +kernel)]; kernel_rfl) | (rw [if_neg (by decide +kernel)]; exact ⟨rfl, rfl⟩))
    (fun os started H enc _ F => by rw [OpenClaim.pre_eq_preRow]; exact joinParts_lifted os started H enc F)
/-- The statement: the card. -/
theorem JoinParts_holds : Rows.JoinPartsUptoCardSaid :=
  Claim7.holds_tied_plain_at .later [] [.data, .pinned] true (true, "6553b062758dc95beecbe85b2948a5f8247ce5f046dba968db0ba62443dfda3e") true
    joinParts_over (fun _ h => by cases h) (by kernel_rfl) (fun _ h => by cases h) joinPartsUpto_row_tie rfl ⟨rfl, rfl⟩ (by kernel_rfl) rfl
    (fun f fn hf hfn => by
      obtain rfl : f = 6 := Option.some.inj ((show Tryz.prog.funcNamed "diptych/diptychlaw13.JoinParts" = some 6 by kernel_rfl).symm.trans hf) |>.symm
      obtain rfl : fn = Tryz.f6 := (Option.some.inj (Tryz.func6.symm.trans hfn)).symm
      exact ⟨by kernel_rfl, fun j t ht => by
        rw [Tryz.params6] at ht
        have hm : t ∈ ([43] : List TypeId) := by simpa using Array.mem_of_getElem? ht
        have hall : (([43] : List TypeId).all fun u => !Tryz.prog.wantsStandIn u) = true := by kernel_rfl
        exact (show Tryz.prog.wantsStandIn t = false by simpa using List.all_eq_true.1 hall t hm)⟩)
    (by kernel_rfl)
end Go.Proofs.YtjpondgobogkeaaGreatDoor.tab
