/- Texts LRBags, LRBagsCard, one behind the other. -/
import Derived.Test.YtidplkfhodpdhaaGreatDoorStabC
import Derived.Test.YtidplkfhodpdhaaGreatDoorTabUnA
import Derived.Test.YtidplkfhodpdhaaGreatDoorTabMinusA
import Derived.Test.YtidplkfhodpdhaaGreatDoorTabPutA
import Derived.Test.YtidplkfhodpdhaaGreatDoorTabEqA
import Derived.Test.YtidplkfhodpdhaaGreatDoorTabWake
import Derived.Test.YtidplkfhodpdhaaGreatDoorTabMayA
import Derived.Test.YtidplkfhodpdhaaGreatDoorTabFkA
import Derived.Test.YtidplkfhodpdhaaGreatDoorDecFrameD
import Derived.Test.YtidplkfhodpdhaaGreatDoorFrame
import Derived.Deep.DeepHandedRow
namespace Go.Proofs.YtidplkfhodpdhaaGreatDoor.tab
open Go.ChangeShapes Go.WideShapes Go.ChangeAt Go.RowKit kit dec val stab
open hyp (RowA TextsA CellsStay stay_of_below textsV textsV_length own_row OW)
set_option linter.unusedVariables false
set_option linter.unusedSimpArgs false
section
variable (w : World) (hE : Env w) (va vb : Value) (A B : Tab) (hA : TabA w 1048576 va A) (hB : TabA w 1048576 vb B) (ma : mayT A = true) (mb : mayT B = true)
include hE hA hB ma mb
theorem minus_mayB (ha : A.rows.length ≤ 1048575) (hb : B.rows.length ≤ 1048575) : Calls Tryz.prog 39 #[va, vb] w fun e w' => ∃ v, e = .returned v ∧ TabO w w' 1048576 v (minusT A B) := by
 have h1 := (names_parts (may_rows ma).1).1
 have h2 := (names_parts (may_rows mb).1).1
 have h := minus_any 1048576 (by omega) w hE va vb A B hA hB (by omega) (by omega) (by omega) (by omega) (by omega)
 have e : minusZ A B = minusT A B := by unfold minusZ; rw [ma, mb]; simp
 rwa [e] at h
end
theorem project_mayB (w : World) (hE : Env w) (va vx : Value) (A : Tab) (X : List ByteArray) (hA : TabA w 1048576 va A) (hX : TextsA w w.heap.size vx X) (ma : mayT A = true) (mx : namesB X = true) (ha : A.rows.length ≤ 1048575) :
 Calls Tryz.prog 36 #[va, vx] w fun e w' => ∃ v, e = .returned v ∧ TabO w w' 1048576 v (projT A X) := by
 have h1 := (names_parts (may_rows ma).1).1
 have h2 := (names_parts mx).1
 have h := project_any 1048576 (by omega) w hE va vx A X hA hX (by omega) (by omega) (by omega) (by omega)
 have e : projZ A X = projT A X := by unfold projZ; rw [ma, mx]; simp
 rwa [e] at h
theorem distinct_mayB (w : World) (hE : Env w) (va : Value) (A : Tab) (hA : TabA w 1048576 va A) (ma : mayT A = true) (ha : A.rows.length ≤ 1048575) (ka : KeyL A) :
 Calls Tryz.prog 35 #[va] w fun e w' => ∃ v, e = .returned v ∧ TabO w w' 1048576 v (distT A) := by
 have h1 := (names_parts (may_rows ma).1).1
 have h := distinct_any 1048576 (by omega) w hE va A hA (by omega) ha ka
 have e : distZ A = distT A := by unfold distZ; rw [ma]; simp
 rwa [e] at h
theorem agg2_eq {a b c d : Value} (h : Value.agg #[a, b] = .agg #[c, d]) : c = a ∧ d = b := by
 injection h with h
 have h2 := Array.mk.inj h
 simp only [List.cons.injEq, and_true] at h2
 exact ⟨h2.1.symm, h2.2.symm⟩
theorem slice_eq {a b : Option Addr} {n m c d : Nat} (h : Value.slice a n c = .slice b m d) : b = a ∧ d = c := by
 injection h with h1 h2 h3
 exact ⟨h1.symm, h3.symm⟩
structure OT (wb wr : World) (ov rv : Value) (ns : List ByteArray) : Prop where
 below : Below wb.heap.size wb wr
 tb : Blk wr wb.heap.size #[ov, rv] 25
 names : wr.ownsRow wb.heap.size 9 1 ov ns.length (textsV ns)
theorem OT.alloc {wb wr : World} {ov rv : Value} {ns : List ByteArray} (h : OT wb wr ov rv ns) (o : Obj) : OT wb (wr.alloc o) ov rv ns := ⟨h.below.alloc h.below.size o, h.tb.alloc o, h.names.alloc o⟩
theorem OT.stay {wb wr w' : World} {ov rv : Value} {ns : List ByteArray} (h : OT wb wr ov rv ns) (hb : Below wr.heap.size wr w') : OT wb w' ov rv ns :=
 ⟨h.below.trans (hb.mono h.below.size), (hb.block _ h.tb.lt).trans h.tb, own_keep h.names hb⟩
theorem OT.name {wb wr w' : World} {ov rv ov' : Value} {ns : List ByteArray} (h : OT wb wr ov rv ns) (x : ByteArray) (h1 : w'.ownsRow wb.heap.size 9 1 ov' (ns.length + 1) (textsV ns ++ [.string x])) (hg : wr.grownBy w' ov.ownBlock) :
 OT wb (w'.setCell ⟨wb.heap.size, 0, none⟩ ov') ov' rv (ns ++ [x]) := by
 have e1 : Blk w' wb.heap.size #[ov, rv] 25 := (hg.block _ h.tb.lt (fun e => own_ne h.names h.tb (by decide) e.symm)).trans h.tb
 have hb := h.below.grown hg h.below.size (fun k hk => (h.names.lt k hk).1)
 refine ⟨hb.setCell (p := ⟨wb.heap.size, 0, none⟩) (Nat.le_refl _) ov', e1.set 0 ov', ?_⟩
 rw [List.length_append]
 have := own_set h1 e1 (by decide) 0 ov'
 simpa [textsV] using this
set_option maxRecDepth 100000 in
set_option maxHeartbeats 8000000 in
theorem rbags_any (w : World) (hE : EnvD w) (v va ra vb rb vv nv : Value) (A B : Tab) (X : List ByteArray) (lang : Int) (L : List Int) (hT : TwoA w 1048576 v va ra vb rb vv nv A B X lang L) :
 Calls Tryz.prog 6 #[v] w fun e w' => e = .returned (.bool true) ∧ Below w.heap.size w w' := by
 obtain ⟨av, cv, hav, -⟩ := hT.av.form
 obtain ⟨ar, cr, har, -, -⟩ := hT.ar.form
 obtain ⟨bv, dv, hbv, -⟩ := hT.bv.form
 obtain ⟨br, dr, hbr, -, -⟩ := hT.br.form
 obtain ⟨xv, ex, hxv, -⟩ := hT.xs.form
 obtain ⟨nv, en, hnv, -, -⟩ := hT.ns.form
 rw [hyp.numsV_length] at hnv
 subst hav har hbv hbr hxv hnv
 have hveq := hT.eq
 subst hveq
 have hq := Blk.new w #[.slice av A.vars.length cv, .slice ar A.rows.length cr, .slice bv B.vars.length dv, .slice br B.rows.length dr, .slice xv X.length ex, .int .i64 lang, .slice nv L.length en] 42
 have hal : Below w.heap.size w (w.alloc (.cells #[.slice av A.vars.length cv, .slice ar A.rows.length cr, .slice bv B.vars.length dv, .slice br B.rows.length dr, .slice xv X.length ex, .int .i64 lang, .slice nv L.length en] 42)) := (Below.refl _ _).alloc (Nat.le_refl _) _
 have cM := Lib.hid (lmay_any _ _ _ _ _ _ _ _ A B X lang L (hT.stay hal))
 have x0 := hq.cell 0 rfl
 have x1 := hq.cell 1 rfl
 have x2 := hq.cell 2 rfl
 have x3 := hq.cell 3 rfl
 have x4 := hq.cell 4 rfl
 have x5 := hq.cell 5 rfl
 have x6 := hq.cell 6 rfl
 obtain ⟨m, hm⟩ : ∃ m, mayL A B = m := ⟨_, rfl⟩
 rw [hm] at cM
 replace hm := Lib.hid hm
 replace hal := Lib.hid hal
 clear hq
 go_enter Tryz.func6, Tryz.ntmps6
 go_wp2_with fail
 refine cM.out.mono ?_
 rintro e w2 ⟨rfl, hb2⟩
 replace x0 := (stay_of_below hb2).cell x0
 replace x1 := (stay_of_below hb2).cell x1
 replace x2 := (stay_of_below hb2).cell x2
 replace x3 := (stay_of_below hb2).cell x3
 replace x4 := (stay_of_below hb2).cell x4
 replace x5 := (stay_of_below hb2).cell x5
 replace x6 := (stay_of_below hb2).cell x6
 have hB2 := Lib.hid (hal.out.trans (hb2.mono hal.out.size))
 clear cM hb2 hal
 cases m with
 | false =>
  go_wp2_with fail
  refine (wakes9_any _ (hE.env.below hB2.out)).mono ?_
  rintro e wz ⟨rfl, hbz⟩
  have hbzz := Lib.hid (hB2.out.trans (hbz.mono hB2.out.size))
  clear hbz
  go_wp2
  go_ret
  exact ⟨rfl, hbzz.out⟩
 | true =>
  obtain ⟨hmA, hmB, h64, h900, h60a, h60b⟩ := may_parts hm.out
  have hlt : lightT A B = true := by
   have h := hm.out
   unfold mayL at h
   rw [Bool.and_eq_true] at h
   exact h.1
  obtain ⟨hwA, hwB⟩ := wt_light hlt
  obtain ⟨s, hs⟩ : ∃ s, decide (lang = 1) = s := ⟨_, rfl⟩
  obtain ⟨U, hU⟩ : ∃ U, unionT A B = U := ⟨_, rfl⟩
  obtain ⟨C, hC⟩ : ∃ C, canonT s A = C := ⟨_, rfl⟩
  obtain ⟨D, hD⟩ : ∃ D, distT A = D := ⟨_, rfl⟩
  obtain ⟨M, hM⟩ : ∃ M, minusT A A = M := ⟨_, rfl⟩
  have hkA : KeyL A := key_light fun r hr => by have := hwA r hr; omega
  have hUl : U.rows.length = A.rows.length + B.rows.length := by rw [← hU]; exact unionT_len h64
  have hCm : mayT C = true := by rw [← hC]; exact canon_may s hmA
  have hCl : C.rows.length = A.rows.length := by rw [← hC]; exact sortR_len s A.rows
  have hCs : sameT C A = true := by rw [← hC]; exact canon_same s hmA
  have hCt : canonT s C = C := by rw [← hC]; exact canon_twice s A
  have hkC : KeyL C := fun r hr => hkA r (by rw [← hC] at hr; exact (sortR_perm s A.rows).mem_iff.1 hr)
  have hDm : mayT D = true := by rw [← hD]; exact dist_may hmA
  have hDt : distT D = D := by rw [← hD]; exact dist_twice A
  have hDl : D.rows.length ≤ A.rows.length := by rw [← hD]; exact distT_len A
  have hkD : KeyL D := fun r hr => hkA r (by rw [← hD] at hr; exact distF_mem _ _ r hr)
  have hMm : mayT M = true := by rw [← hM]; exact minus_may A hmA
  have hMl : M.rows.length ≤ A.rows.length := by rw [← hM]; unfold minusT; exact List.length_filter_le _ _
  have hMn : ∀ r ∈ M.rows, ∀ v ∈ r, isN v = true := by rw [← hM]; exact minus_self hmA
  have hCo : ∀ i (h : i + 1 < C.rows.length), ordL s (C.rows[i]'(by omega)) C.rows[i + 1] ≤ 0 := by
   subst hC
   exact fun i h => sorted_next s A.rows i h
  have hT2 := Lib.hid (fun V (h : Below w2.heap.size w2 V) => hT.stay (hB2.out.trans (h.mono hB2.out.size)))
  have hE2 := Lib.hid (fun V (h : Below w2.heap.size w2 V) => hE.below (hB2.out.trans (h.mono hB2.out.size)))
  have cU := Lib.hid (fun V (h : Below w2.heap.size w2 V) => union_may V (hE2.out V h).env _ _ A B (hT2.out V h).tabA (hT2.out V h).tabB hmA hmB (by omega))
  have cC := Lib.hid (fun V (h : Below w2.heap.size w2 V) => canon_may2 lang V (hE2.out V h) _ A (hT2.out V h).tabA hmA (by omega))
  have cD := Lib.hid (fun V (h : Below w2.heap.size w2 V) => distinct_mayB V (hE2.out V h).env _ A (hT2.out V h).tabA hmA (by omega) hkA)
  have cN := Lib.hid (fun V (h : Below w2.heap.size w2 V) => minus_mayB V (hE2.out V h).env _ _ A A (hT2.out V h).tabA (hT2.out V h).tabA hmA hmA (by omega) (by omega))
  rw [hU] at cU
  rw [hs, hC] at cC
  rw [hD] at cD
  rw [hM] at cN
  replace hm := Lib.hid hm
  replace hU := Lib.hid hU
  replace hs := Lib.hid hs
  replace hC := Lib.hid hC
  replace hD := Lib.hid hD
  replace hM := Lib.hid hM
  replace hUl := Lib.hid hUl
  replace hCl := Lib.hid hCl
  replace hDl := Lib.hid hDl
  replace hMl := Lib.hid hMl
  replace hCs := Lib.hid hCs
  replace hCt := Lib.hid hCt
  replace hDt := Lib.hid hDt
  replace hMn := Lib.hid hMn
  replace hCo := Lib.hid hCo
  replace hkA := Lib.hid hkA
  replace hkC := Lib.hid hkC
  replace hkD := Lib.hid hkD
  have h2 : Below w2.heap.size w2 w2 := Below.refl _ _
  clear hT hwA hwB
  go_wp2_with fail
  refine (cU.out w2 h2).mono ?_
  rintro e v3 ⟨v, rfl, hO⟩
  obtain ⟨vv, rv, rfl, hb, hown, hsz, hMR⟩ := hO
  obtain ⟨an3, cn3, hvn⟩ := own_form4x hown
  obtain ⟨ar3, cr3, hvr⟩ := hMR.form
  subst hvn
  subst hvr
  obtain ⟨w3, hw3⟩ : ∃ w3, v3.alloc (.cells #[.slice an3 U.vars.length cn3, .slice ar3 U.rows.length cr3] 25) = w3 := ⟨_, rfl⟩
  have hal : Below v3.heap.size v3 w3 := by rw [← hw3]; exact (Below.refl _ _).alloc (Nat.le_refl _) _
  have hbb := hb.trans (hal.mono hb.size)
  have q3 : Blk w3 v3.heap.size #[.slice an3 U.vars.length cn3, .slice ar3 U.rows.length cr3] 25 := by rw [← hw3]; exact Blk.new _ _ _
  have t3 := (⟨_, _, rfl, ⟨own_row (by rw [textsV_length]; exact hown), hsz⟩, hMR.read⟩ : TabA v3 1048576 (.agg #[.slice an3 U.vars.length cn3, .slice ar3 U.rows.length cr3]) U).stay hal
  have h3 := h2.trans (hbb.mono h2.size)
  obtain ⟨p3, hp3⟩ : ∃ p3, v3.heap.size = p3 := ⟨_, rfl⟩
  rw [hp3] at q3
  replace x0 := (stay_of_below hbb).cell x0
  replace x1 := (stay_of_below hbb).cell x1
  replace x2 := (stay_of_below hbb).cell x2
  replace x3 := (stay_of_below hbb).cell x3
  replace x4 := (stay_of_below hbb).cell x4
  replace x5 := (stay_of_below hbb).cell x5
  replace x6 := (stay_of_below hbb).cell x6
  skip
  replace hw3 := Lib.hid hw3
  replace hp3 := Lib.hid hp3
  clear hb hown hsz hMR hal hbb
  go_upto_region 4 with fail
  try rw [hw3.out]
  try rw [hp3.out]
  go_wp2_with fail
  refine (cC.out w3 h3).mono ?_
  rintro e v4 ⟨v, rfl, hO⟩
  obtain ⟨vv, rv, rfl, hb, hown, hsz, hMR⟩ := hO
  obtain ⟨an4, cn4, hvn⟩ := own_form4x hown
  obtain ⟨ar4, cr4, hvr⟩ := hMR.form
  subst hvn
  subst hvr
  obtain ⟨w4, hw4⟩ : ∃ w4, v4.alloc (.cells #[.slice an4 C.vars.length cn4, .slice ar4 C.rows.length cr4] 25) = w4 := ⟨_, rfl⟩
  have hal : Below v4.heap.size v4 w4 := by rw [← hw4]; exact (Below.refl _ _).alloc (Nat.le_refl _) _
  have hbb := hb.trans (hal.mono hb.size)
  have q4 : Blk w4 v4.heap.size #[.slice an4 C.vars.length cn4, .slice ar4 C.rows.length cr4] 25 := by rw [← hw4]; exact Blk.new _ _ _
  have t4 := (⟨_, _, rfl, ⟨own_row (by rw [textsV_length]; exact hown), hsz⟩, hMR.read⟩ : TabA v4 1048576 (.agg #[.slice an4 C.vars.length cn4, .slice ar4 C.rows.length cr4]) C).stay hal
  have h4 := h3.trans (hbb.mono h3.size)
  obtain ⟨p4, hp4⟩ : ∃ p4, v4.heap.size = p4 := ⟨_, rfl⟩
  rw [hp4] at q4
  replace x0 := (stay_of_below hbb).cell x0
  replace x1 := (stay_of_below hbb).cell x1
  replace x2 := (stay_of_below hbb).cell x2
  replace x3 := (stay_of_below hbb).cell x3
  replace x4 := (stay_of_below hbb).cell x4
  replace x5 := (stay_of_below hbb).cell x5
  replace x6 := (stay_of_below hbb).cell x6
  replace q3 := q3.keep (Keep.ofBelow hbb) (by simp)
  replace hw4 := Lib.hid hw4
  replace hp4 := Lib.hid hp4
  clear hb hown hsz hMR hal hbb
  go_upto_region 5 with fail
  try rw [hw4.out]
  try rw [hp4.out]
  go_wp2_with fail
  refine (cD.out w4 h4).mono ?_
  rintro e v5 ⟨v, rfl, hO⟩
  obtain ⟨vv, rv, rfl, hb, hown, hsz, hMR⟩ := hO
  obtain ⟨an5, cn5, hvn⟩ := own_form4x hown
  obtain ⟨ar5, cr5, hvr⟩ := hMR.form
  subst hvn
  subst hvr
  obtain ⟨w5, hw5⟩ : ∃ w5, v5.alloc (.cells #[.slice an5 D.vars.length cn5, .slice ar5 D.rows.length cr5] 25) = w5 := ⟨_, rfl⟩
  have hal : Below v5.heap.size v5 w5 := by rw [← hw5]; exact (Below.refl _ _).alloc (Nat.le_refl _) _
  have hbb := hb.trans (hal.mono hb.size)
  have q5 : Blk w5 v5.heap.size #[.slice an5 D.vars.length cn5, .slice ar5 D.rows.length cr5] 25 := by rw [← hw5]; exact Blk.new _ _ _
  have t5 := (⟨_, _, rfl, ⟨own_row (by rw [textsV_length]; exact hown), hsz⟩, hMR.read⟩ : TabA v5 1048576 (.agg #[.slice an5 D.vars.length cn5, .slice ar5 D.rows.length cr5]) D).stay hal
  have h5 := h4.trans (hbb.mono h4.size)
  obtain ⟨p5, hp5⟩ : ∃ p5, v5.heap.size = p5 := ⟨_, rfl⟩
  rw [hp5] at q5
  replace x0 := (stay_of_below hbb).cell x0
  replace x1 := (stay_of_below hbb).cell x1
  replace x2 := (stay_of_below hbb).cell x2
  replace x3 := (stay_of_below hbb).cell x3
  replace x4 := (stay_of_below hbb).cell x4
  replace x5 := (stay_of_below hbb).cell x5
  replace x6 := (stay_of_below hbb).cell x6
  replace q3 := q3.keep (Keep.ofBelow hbb) (by simp); replace q4 := q4.keep (Keep.ofBelow hbb) (by simp); replace t4 := t4.stay hbb
  replace hw5 := Lib.hid hw5
  replace hp5 := Lib.hid hp5
  clear hb hown hsz hMR hal hbb
  go_upto_region 6 with fail
  try rw [hw5.out]
  try rw [hp5.out]
  go_wp2_with fail
  refine (cN.out w5 h5).mono ?_
  rintro e v6 ⟨v, rfl, hO⟩
  obtain ⟨vv, rv, rfl, hb, hown, hsz, hMR⟩ := hO
  obtain ⟨an6, cn6, hvn⟩ := own_form4x hown
  obtain ⟨ar6, cr6, hvr⟩ := hMR.form
  subst hvn
  subst hvr
  obtain ⟨w6, hw6⟩ : ∃ w6, v6.alloc (.cells #[.slice an6 M.vars.length cn6, .slice ar6 M.rows.length cr6] 25) = w6 := ⟨_, rfl⟩
  have hal : Below v6.heap.size v6 w6 := by rw [← hw6]; exact (Below.refl _ _).alloc (Nat.le_refl _) _
  have hbb := hb.trans (hal.mono hb.size)
  have q6 : Blk w6 v6.heap.size #[.slice an6 M.vars.length cn6, .slice ar6 M.rows.length cr6] 25 := by rw [← hw6]; exact Blk.new _ _ _
  have t6 := (⟨_, _, rfl, ⟨own_row (by rw [textsV_length]; exact hown), hsz⟩, hMR.read⟩ : TabA v6 1048576 (.agg #[.slice an6 M.vars.length cn6, .slice ar6 M.rows.length cr6]) M).stay hal
  have h6 := h5.trans (hbb.mono h5.size)
  obtain ⟨p6, hp6⟩ : ∃ p6, v6.heap.size = p6 := ⟨_, rfl⟩
  rw [hp6] at q6
  replace x0 := (stay_of_below hbb).cell x0
  replace x1 := (stay_of_below hbb).cell x1
  replace x2 := (stay_of_below hbb).cell x2
  replace x3 := (stay_of_below hbb).cell x3
  replace x4 := (stay_of_below hbb).cell x4
  replace x5 := (stay_of_below hbb).cell x5
  replace x6 := (stay_of_below hbb).cell x6
  replace q3 := q3.keep (Keep.ofBelow hbb) (by simp); replace q4 := q4.keep (Keep.ofBelow hbb) (by simp); replace q5 := q5.keep (Keep.ofBelow hbb) (by simp); replace t4 := t4.stay hbb; replace t5 := t5.stay hbb
  replace hw6 := Lib.hid hw6
  replace hp6 := Lib.hid hp6
  clear hb hown hsz hMR hal hbb
  have u1 := q3.cell 1 rfl
  have c0 := q4.cell 0 rfl
  have c1 := q4.cell 1 rfl
  have d0 := q5.cell 0 rfl
  have d1 := q5.cell 1 rfl
  have m1 := q6.cell 1 rfl
  have hsum : IntKind.i64.wrap ((A.rows.length : Int) + (B.rows.length : Int)) = (U.rows.length : Int) := by rw [hUl.out, IntWalk.i64_in _ (by omega)]; omega
  have hdl : ¬ A.rows.length < D.rows.length := by have := hDl.out; omega
  have hT6 := Lib.hid (fun V (h : Below w6.heap.size w6 V) => hT2.out V (h6.trans (h.mono h6.size)))
  have hE6 := Lib.hid (fun V (h : Below w6.heap.size w6 V) => hE2.out V (h6.trans (h.mono h6.size)))
  have hB6 := Lib.hid (hB2.out.trans (h6.mono hB2.out.size))
  replace t4 := Lib.hid t4
  replace t5 := Lib.hid t5
  replace t6 := Lib.hid t6
  replace q3 := Lib.hid q3
  replace q4 := Lib.hid q4
  replace q5 := Lib.hid q5
  replace q6 := Lib.hid q6
  clear cU cC cD cN h2 h3 h4 h5 t3 hT2 hE2 hB2
  go_upto_region 7 with fail
  try rw [hw6.out]
  try rw [hp6.out]
  have h0 : Below w6.heap.size w6 w6.drew := below_drewN (Below.refl _ _) 1
  refine wp_region_held_drew (S := fun V => Below w6.heap.size w6 V) (by kernel_rfl) h0 (fun hS => ?_)
  generalize w6.drew = wd at *
  refine tkH 0 ?_ rfl (fun w' hS => ?_) hS ?_
  rotate_left
  ·
   have y0 := (stay_of_below hS).cell x0; have y1 := (stay_of_below hS).cell x1; have y2 := (stay_of_below hS).cell x2; have y3 := (stay_of_below hS).cell x3; have y5 := (stay_of_below hS).cell x5; have yu := (stay_of_below hS).cell u1; have yc0 := (stay_of_below hS).cell c0; have yc1 := (stay_of_below hS).cell c1; have yd0 := (stay_of_below hS).cell d0; have yd1 := (stay_of_below hS).cell d1
   go_simp
   try with_reducible rfl
  refine tkH 1 ?_ rfl (fun w' hS => ?_) hS ?_
  rotate_left
  ·
   have y0 := (stay_of_below hS).cell x0; have y1 := (stay_of_below hS).cell x1; have y2 := (stay_of_below hS).cell x2; have y3 := (stay_of_below hS).cell x3; have y5 := (stay_of_below hS).cell x5; have yu := (stay_of_below hS).cell u1; have yc0 := (stay_of_below hS).cell c0; have yc1 := (stay_of_below hS).cell c1; have yd0 := (stay_of_below hS).cell d0; have yd1 := (stay_of_below hS).cell d1
   go_simp
   try with_reducible rfl
  refine tkH 2 ?_ rfl (fun w' hS => ?_) hS ?_
  rotate_left
  ·
   have y0 := (stay_of_below hS).cell x0; have y1 := (stay_of_below hS).cell x1; have y2 := (stay_of_below hS).cell x2; have y3 := (stay_of_below hS).cell x3; have y5 := (stay_of_below hS).cell x5; have yu := (stay_of_below hS).cell u1; have yc0 := (stay_of_below hS).cell c0; have yc1 := (stay_of_below hS).cell c1; have yd0 := (stay_of_below hS).cell d0; have yd1 := (stay_of_below hS).cell d1
   go_simp
   try with_reducible rfl
  refine tkH 3 ?_ rfl (fun w' hS => ?_) hS ?_
  rotate_left
  ·
   have y0 := (stay_of_below hS).cell x0; have y1 := (stay_of_below hS).cell x1; have y2 := (stay_of_below hS).cell x2; have y3 := (stay_of_below hS).cell x3; have y5 := (stay_of_below hS).cell x5; have yu := (stay_of_below hS).cell u1; have yc0 := (stay_of_below hS).cell c0; have yc1 := (stay_of_below hS).cell c1; have yd0 := (stay_of_below hS).cell d0; have yd1 := (stay_of_below hS).cell d1
   go_simp
   try with_reducible rfl
  refine tkH 4 ?_ rfl (fun w' hS => ?_) hS ?_
  rotate_left
  ·
   have y0 := (stay_of_below hS).cell x0; have y1 := (stay_of_below hS).cell x1; have y2 := (stay_of_below hS).cell x2; have y3 := (stay_of_below hS).cell x3; have y5 := (stay_of_below hS).cell x5; have yu := (stay_of_below hS).cell u1; have yc0 := (stay_of_below hS).cell c0; have yc1 := (stay_of_below hS).cell c1; have yd0 := (stay_of_below hS).cell d0; have yd1 := (stay_of_below hS).cell d1
   go_simp
   try with_reducible rfl
  refine tkH 5 ?_ rfl (fun w' hS => ?_) hS ?_
  rotate_left
  ·
   have y0 := (stay_of_below hS).cell x0; have y1 := (stay_of_below hS).cell x1; have y2 := (stay_of_below hS).cell x2; have y3 := (stay_of_below hS).cell x3; have y5 := (stay_of_below hS).cell x5; have yu := (stay_of_below hS).cell u1; have yc0 := (stay_of_below hS).cell c0; have yc1 := (stay_of_below hS).cell c1; have yd0 := (stay_of_below hS).cell d0; have yd1 := (stay_of_below hS).cell d1
   go_simp
   try with_reducible rfl
  refine tkH 6 ?_ rfl (fun w' hS => ?_) hS ?_
  rotate_left
  ·
   have y0 := (stay_of_below hS).cell x0; have y1 := (stay_of_below hS).cell x1; have y2 := (stay_of_below hS).cell x2; have y3 := (stay_of_below hS).cell x3; have y5 := (stay_of_below hS).cell x5; have yu := (stay_of_below hS).cell u1; have yc0 := (stay_of_below hS).cell c0; have yc1 := (stay_of_below hS).cell c1; have yd0 := (stay_of_below hS).cell d0; have yd1 := (stay_of_below hS).cell d1
   go_simp
   try with_reducible rfl
  refine tkH 7 ?_ rfl (fun w' hS => ?_) hS ?_
  rotate_left
  ·
   have y0 := (stay_of_below hS).cell x0; have y1 := (stay_of_below hS).cell x1; have y2 := (stay_of_below hS).cell x2; have y3 := (stay_of_below hS).cell x3; have y5 := (stay_of_below hS).cell x5; have yu := (stay_of_below hS).cell u1; have yc0 := (stay_of_below hS).cell c0; have yc1 := (stay_of_below hS).cell c1; have yd0 := (stay_of_below hS).cell d0; have yd1 := (stay_of_below hS).cell d1
   go_simp
   try with_reducible rfl
  refine tkH 8 ?_ rfl (fun w' hS => ?_) hS ?_
  rotate_left
  ·
   have y0 := (stay_of_below hS).cell x0; have y1 := (stay_of_below hS).cell x1; have y2 := (stay_of_below hS).cell x2; have y3 := (stay_of_below hS).cell x3; have y5 := (stay_of_below hS).cell x5; have yu := (stay_of_below hS).cell u1; have yc0 := (stay_of_below hS).cell c0; have yc1 := (stay_of_below hS).cell c1; have yd0 := (stay_of_below hS).cell d0; have yd1 := (stay_of_below hS).cell d1
   go_simp
   try with_reducible rfl
  refine tkH 9 ?_ rfl (fun w' hS => ?_) hS ?_
  rotate_left
  ·
   have y0 := (stay_of_below hS).cell x0; have y1 := (stay_of_below hS).cell x1; have y2 := (stay_of_below hS).cell x2; have y3 := (stay_of_below hS).cell x3; have y5 := (stay_of_below hS).cell x5; have yu := (stay_of_below hS).cell u1; have yc0 := (stay_of_below hS).cell c0; have yc1 := (stay_of_below hS).cell c1; have yd0 := (stay_of_below hS).cell d0; have yd1 := (stay_of_below hS).cell d1
   go_simp
   try with_reducible rfl
  refine tkH 10 ?_ rfl (fun w' hS => ?_) hS ?_
  rotate_left
  ·
   have y0 := (stay_of_below hS).cell x0; have y1 := (stay_of_below hS).cell x1; have y2 := (stay_of_below hS).cell x2; have y3 := (stay_of_below hS).cell x3; have y5 := (stay_of_below hS).cell x5; have yu := (stay_of_below hS).cell u1; have yc0 := (stay_of_below hS).cell c0; have yc1 := (stay_of_below hS).cell c1; have yd0 := (stay_of_below hS).cell d0; have yd1 := (stay_of_below hS).cell d1
   go_simp
   try with_reducible rfl
  refine tkH 11 ?_ rfl (fun w' hS => ?_) hS ?_
  rotate_left
  ·
   have y0 := (stay_of_below hS).cell x0; have y1 := (stay_of_below hS).cell x1; have y2 := (stay_of_below hS).cell x2; have y3 := (stay_of_below hS).cell x3; have y5 := (stay_of_below hS).cell x5; have yu := (stay_of_below hS).cell u1; have yc0 := (stay_of_below hS).cell c0; have yc1 := (stay_of_below hS).cell c1; have yd0 := (stay_of_below hS).cell d0; have yd1 := (stay_of_below hS).cell d1
   go_simp
   try with_reducible rfl
  refine tkH 12 ?_ rfl (fun w' hS => ?_) hS ?_
  rotate_left
  ·
   have y0 := (stay_of_below hS).cell x0; have y1 := (stay_of_below hS).cell x1; have y2 := (stay_of_below hS).cell x2; have y3 := (stay_of_below hS).cell x3; have y5 := (stay_of_below hS).cell x5; have yu := (stay_of_below hS).cell u1; have yc0 := (stay_of_below hS).cell c0; have yc1 := (stay_of_below hS).cell c1; have yd0 := (stay_of_below hS).cell d0; have yd1 := (stay_of_below hS).cell d1
   go_simp
   try with_reducible rfl
  refine tkH 13 ?_ rfl (fun w' hS => ?_) hS ?_
  rotate_left
  ·
   have y0 := (stay_of_below hS).cell x0; have y1 := (stay_of_below hS).cell x1; have y2 := (stay_of_below hS).cell x2; have y3 := (stay_of_below hS).cell x3; have y5 := (stay_of_below hS).cell x5; have yu := (stay_of_below hS).cell u1; have yc0 := (stay_of_below hS).cell c0; have yc1 := (stay_of_below hS).cell c1; have yd0 := (stay_of_below hS).cell d0; have yd1 := (stay_of_below hS).cell d1
   go_simp
   try with_reducible rfl
  refine tkH 14 ?_ rfl (fun w' hS => ?_) hS ?_
  rotate_left
  ·
   have y0 := (stay_of_below hS).cell x0; have y1 := (stay_of_below hS).cell x1; have y2 := (stay_of_below hS).cell x2; have y3 := (stay_of_below hS).cell x3; have y5 := (stay_of_below hS).cell x5; have yu := (stay_of_below hS).cell u1; have yc0 := (stay_of_below hS).cell c0; have yc1 := (stay_of_below hS).cell c1; have yd0 := (stay_of_below hS).cell d0; have yd1 := (stay_of_below hS).cell d1
   go_simp
   try with_reducible rfl
  refine tkH 15 ?_ rfl (fun w' hS => ?_) hS ?_
  rotate_left
  ·
   have y0 := (stay_of_below hS).cell x0; have y1 := (stay_of_below hS).cell x1; have y2 := (stay_of_below hS).cell x2; have y3 := (stay_of_below hS).cell x3; have y5 := (stay_of_below hS).cell x5; have yu := (stay_of_below hS).cell u1; have yc0 := (stay_of_below hS).cell c0; have yc1 := (stay_of_below hS).cell c1; have yd0 := (stay_of_below hS).cell d0; have yd1 := (stay_of_below hS).cell d1
   go_simp
   try with_reducible rfl
  refine tkH 16 ?_ rfl (fun w' hS => ?_) hS ?_
  rotate_left
  ·
   have y0 := (stay_of_below hS).cell x0; have y1 := (stay_of_below hS).cell x1; have y2 := (stay_of_below hS).cell x2; have y3 := (stay_of_below hS).cell x3; have y5 := (stay_of_below hS).cell x5; have yu := (stay_of_below hS).cell u1; have yc0 := (stay_of_below hS).cell c0; have yc1 := (stay_of_below hS).cell c1; have yd0 := (stay_of_below hS).cell d0; have yd1 := (stay_of_below hS).cell d1
   go_simp
   try with_reducible rfl
  have cs1 := same_may wd (hE6.out _ h0).env _ _ C A (t4.out.stay h0) (hT6.out _ h0).tabA hCm hmA (by have := hCl.out; omega) (by omega) hkC.out hkA.out
  rw [hCs.out] at cs1
  replace cs1 := Lib.hid cs1
  refine rdH 17 rfl (fun K hK => ?_)
  clear hS
  go_simp
  refine (cs1.out).mono ?_
  rintro e w7 ⟨rfl, hb7⟩
  go_wp2_with fail
  refine hK.out _ _ (h0.trans (hb7.mono h0.size)) (fun hS => ?_)
  clear hK K
  try simp only [List.getElem_toArray, List.getElem_cons_succ, List.getElem_cons_zero, Act.put, List.setIfInBounds_toArray, List.set_cons_zero, List.set_cons_succ]
  have h7 := h0.trans (hb7.mono h0.size)
  clear hb7 h0 cs1
  refine tkH 18 ?_ rfl (fun w' hS => ?_) hS ?_
  rotate_left
  ·
   have y0 := (stay_of_below hS).cell x0; have y1 := (stay_of_below hS).cell x1; have y2 := (stay_of_below hS).cell x2; have y3 := (stay_of_below hS).cell x3; have y5 := (stay_of_below hS).cell x5; have yu := (stay_of_below hS).cell u1; have yc0 := (stay_of_below hS).cell c0; have yc1 := (stay_of_below hS).cell c1; have yd0 := (stay_of_below hS).cell d0; have yd1 := (stay_of_below hS).cell d1
   go_simp
   try with_reducible rfl
  refine tkH 19 ?_ rfl (fun w' hS => ?_) hS ?_
  rotate_left
  ·
   have y0 := (stay_of_below hS).cell x0; have y1 := (stay_of_below hS).cell x1; have y2 := (stay_of_below hS).cell x2; have y3 := (stay_of_below hS).cell x3; have y5 := (stay_of_below hS).cell x5; have yu := (stay_of_below hS).cell u1; have yc0 := (stay_of_below hS).cell c0; have yc1 := (stay_of_below hS).cell c1; have yd0 := (stay_of_below hS).cell d0; have yd1 := (stay_of_below hS).cell d1
   go_simp
   try with_reducible rfl
  refine tkH 20 ?_ rfl (fun w' hS => ?_) hS ?_
  rotate_left
  ·
   have y0 := (stay_of_below hS).cell x0; have y1 := (stay_of_below hS).cell x1; have y2 := (stay_of_below hS).cell x2; have y3 := (stay_of_below hS).cell x3; have y5 := (stay_of_below hS).cell x5; have yu := (stay_of_below hS).cell u1; have yc0 := (stay_of_below hS).cell c0; have yc1 := (stay_of_below hS).cell c1; have yd0 := (stay_of_below hS).cell d0; have yd1 := (stay_of_below hS).cell d1
   go_simp
   try with_reducible rfl
  refine tkH 21 ?_ rfl (fun w' hS => ?_) hS ?_
  rotate_left
  ·
   have y0 := (stay_of_below hS).cell x0; have y1 := (stay_of_below hS).cell x1; have y2 := (stay_of_below hS).cell x2; have y3 := (stay_of_below hS).cell x3; have y5 := (stay_of_below hS).cell x5; have yu := (stay_of_below hS).cell u1; have yc0 := (stay_of_below hS).cell c0; have yc1 := (stay_of_below hS).cell c1; have yd0 := (stay_of_below hS).cell d0; have yd1 := (stay_of_below hS).cell d1
   go_simp
   try with_reducible rfl
  refine tkH 22 ?_ rfl (fun w' hS => ?_) hS ?_
  rotate_left
  ·
   have y0 := (stay_of_below hS).cell x0; have y1 := (stay_of_below hS).cell x1; have y2 := (stay_of_below hS).cell x2; have y3 := (stay_of_below hS).cell x3; have y5 := (stay_of_below hS).cell x5; have yu := (stay_of_below hS).cell u1; have yc0 := (stay_of_below hS).cell c0; have yc1 := (stay_of_below hS).cell c1; have yd0 := (stay_of_below hS).cell d0; have yd1 := (stay_of_below hS).cell d1
   go_simp
   try with_reducible rfl
  refine tkH 23 ?_ rfl (fun w' hS => ?_) hS ?_
  rotate_left
  ·
   have y0 := (stay_of_below hS).cell x0; have y1 := (stay_of_below hS).cell x1; have y2 := (stay_of_below hS).cell x2; have y3 := (stay_of_below hS).cell x3; have y5 := (stay_of_below hS).cell x5; have yu := (stay_of_below hS).cell u1; have yc0 := (stay_of_below hS).cell c0; have yc1 := (stay_of_below hS).cell c1; have yd0 := (stay_of_below hS).cell d0; have yd1 := (stay_of_below hS).cell d1
   go_simp
   try with_reducible rfl
  refine tkH 25 ?_ rfl (fun w' hS => ?_) hS ?_
  rotate_left
  ·
   have y0 := (stay_of_below hS).cell x0; have y1 := (stay_of_below hS).cell x1; have y2 := (stay_of_below hS).cell x2; have y3 := (stay_of_below hS).cell x3; have y5 := (stay_of_below hS).cell x5; have yu := (stay_of_below hS).cell u1; have yc0 := (stay_of_below hS).cell c0; have yc1 := (stay_of_below hS).cell c1; have yd0 := (stay_of_below hS).cell d0; have yd1 := (stay_of_below hS).cell d1
   go_simp
   try with_reducible rfl
  have cc1 := canon_may2 lang w7 (hE6.out _ h7) _ C (t4.out.stay h7) hCm (by have := hCl.out; omega)
  rw [hs.out, hCt.out] at cc1
  replace cc1 := Lib.hid cc1
  refine rdH 24 rfl (fun K hK => ?_)
  clear hS
  go_simp
  refine (cc1.out).mono ?_
  rintro e w8 ⟨v, rfl, hO⟩
  obtain ⟨vv, rv, rfl, hbw8, hown, hszs, hMR⟩ := hO
  obtain ⟨anw8, cnw8, hvn⟩ := own_form4x hown
  obtain ⟨arw8, crw8, hvr⟩ := hMR.form
  subst hvn
  subst hvr
  have tw8 : TabA w8 1048576 _ _ := ⟨_, _, rfl, ⟨own_row (by rw [textsV_length]; exact hown), hszs⟩, hMR.read⟩
  clear hown hszs hMR
  go_wp2_with fail
  refine hK.out _ _ (h7.trans (hbw8.mono h7.size)) (fun hS => ?_)
  clear hK K
  try simp only [List.getElem_toArray, List.getElem_cons_succ, List.getElem_cons_zero, Act.put, List.setIfInBounds_toArray, List.set_cons_zero, List.set_cons_succ]
  have h8 := h7.trans (hbw8.mono h7.size)
  refine rdH 26 rfl (fun K hK => ?_)
  clear hS
  go_simp
  refine (eqTab_same 1048576 (by omega) w8 _ _ C tw8 (t4.out.stay h8) (by have := (names_parts (may_rows hCm).1).1; omega) (by have := hCl.out; omega)).mono ?_
  rintro e w9 ⟨rfl, hb9⟩
  go_wp2_with fail
  refine hK.out _ _ (h8.trans (hb9.mono h8.size)) (fun hS => ?_)
  clear hK K
  try simp only [List.getElem_toArray, List.getElem_cons_succ, List.getElem_cons_zero, Act.put, List.setIfInBounds_toArray, List.set_cons_zero, List.set_cons_succ]
  have h9 := h8.trans (hb9.mono h8.size)
  clear hb9 h7 h8 tw8 hbw8 cc1
  refine tkH 27 ?_ rfl (fun w' hS => ?_) hS ?_
  rotate_left
  ·
   have y0 := (stay_of_below hS).cell x0; have y1 := (stay_of_below hS).cell x1; have y2 := (stay_of_below hS).cell x2; have y3 := (stay_of_below hS).cell x3; have y5 := (stay_of_below hS).cell x5; have yu := (stay_of_below hS).cell u1; have yc0 := (stay_of_below hS).cell c0; have yc1 := (stay_of_below hS).cell c1; have yd0 := (stay_of_below hS).cell d0; have yd1 := (stay_of_below hS).cell d1
   go_simp
   try with_reducible rfl
  refine tkH 28 ?_ rfl (fun w' hS => ?_) hS ?_
  rotate_left
  ·
   have y0 := (stay_of_below hS).cell x0; have y1 := (stay_of_below hS).cell x1; have y2 := (stay_of_below hS).cell x2; have y3 := (stay_of_below hS).cell x3; have y5 := (stay_of_below hS).cell x5; have yu := (stay_of_below hS).cell u1; have yc0 := (stay_of_below hS).cell c0; have yc1 := (stay_of_below hS).cell c1; have yd0 := (stay_of_below hS).cell d0; have yd1 := (stay_of_below hS).cell d1
   go_simp
   try with_reducible rfl
  refine tkH 29 ?_ rfl (fun w' hS => ?_) hS ?_
  rotate_left
  ·
   have y0 := (stay_of_below hS).cell x0; have y1 := (stay_of_below hS).cell x1; have y2 := (stay_of_below hS).cell x2; have y3 := (stay_of_below hS).cell x3; have y5 := (stay_of_below hS).cell x5; have yu := (stay_of_below hS).cell u1; have yc0 := (stay_of_below hS).cell c0; have yc1 := (stay_of_below hS).cell c1; have yd0 := (stay_of_below hS).cell d0; have yd1 := (stay_of_below hS).cell d1
   go_simp
   try with_reducible rfl
  refine tkH 30 ?_ rfl (fun w' hS => ?_) hS ?_
  rotate_left
  ·
   have y0 := (stay_of_below hS).cell x0; have y1 := (stay_of_below hS).cell x1; have y2 := (stay_of_below hS).cell x2; have y3 := (stay_of_below hS).cell x3; have y5 := (stay_of_below hS).cell x5; have yu := (stay_of_below hS).cell u1; have yc0 := (stay_of_below hS).cell c0; have yc1 := (stay_of_below hS).cell c1; have yd0 := (stay_of_below hS).cell d0; have yd1 := (stay_of_below hS).cell d1
   go_simp
   try with_reducible rfl
  refine tkH 32 ?_ rfl (fun w' hS => ?_) hS ?_
  rotate_left
  ·
   have y0 := (stay_of_below hS).cell x0; have y1 := (stay_of_below hS).cell x1; have y2 := (stay_of_below hS).cell x2; have y3 := (stay_of_below hS).cell x3; have y5 := (stay_of_below hS).cell x5; have yu := (stay_of_below hS).cell u1; have yc0 := (stay_of_below hS).cell c0; have yc1 := (stay_of_below hS).cell c1; have yd0 := (stay_of_below hS).cell d0; have yd1 := (stay_of_below hS).cell d1
   go_simp
   try with_reducible rfl
  have cd1 := distinct_mayB w9 (hE6.out _ h9).env _ D (t5.out.stay h9) hDm (by have := hDl.out; omega) hkD.out
  rw [hDt.out] at cd1
  replace cd1 := Lib.hid cd1
  refine rdH 31 rfl (fun K hK => ?_)
  clear hS
  go_simp
  refine (cd1.out).mono ?_
  rintro e w10 ⟨v, rfl, hO⟩
  obtain ⟨vv, rv, rfl, hbw10, hown, hszs, hMR⟩ := hO
  obtain ⟨anw10, cnw10, hvn⟩ := own_form4x hown
  obtain ⟨arw10, crw10, hvr⟩ := hMR.form
  subst hvn
  subst hvr
  have tw10 : TabA w10 1048576 _ _ := ⟨_, _, rfl, ⟨own_row (by rw [textsV_length]; exact hown), hszs⟩, hMR.read⟩
  clear hown hszs hMR
  go_wp2_with fail
  refine hK.out _ _ (h9.trans (hbw10.mono h9.size)) (fun hS => ?_)
  clear hK K
  try simp only [List.getElem_toArray, List.getElem_cons_succ, List.getElem_cons_zero, Act.put, List.setIfInBounds_toArray, List.set_cons_zero, List.set_cons_succ]
  have h10 := h9.trans (hbw10.mono h9.size)
  refine rdH 33 rfl (fun K hK => ?_)
  clear hS
  go_simp
  refine (eqTab_same 1048576 (by omega) w10 _ _ D tw10 (t5.out.stay h10) (by have := (names_parts (may_rows hDm).1).1; omega) (by have := hDl.out; omega)).mono ?_
  rintro e w11 ⟨rfl, hb11⟩
  go_wp2_with fail
  refine hK.out _ _ (h10.trans (hb11.mono h10.size)) (fun hS => ?_)
  clear hK K
  try simp only [List.getElem_toArray, List.getElem_cons_succ, List.getElem_cons_zero, Act.put, List.setIfInBounds_toArray, List.set_cons_zero, List.set_cons_succ]
  have h11 := h10.trans (hb11.mono h10.size)
  clear hb11 h9 h10 tw10 hbw10 cd1
  refine tkH 34 ?_ rfl (fun w' hS => ?_) hS ?_
  rotate_left
  ·
   have y0 := (stay_of_below hS).cell x0; have y1 := (stay_of_below hS).cell x1; have y2 := (stay_of_below hS).cell x2; have y3 := (stay_of_below hS).cell x3; have y5 := (stay_of_below hS).cell x5; have yu := (stay_of_below hS).cell u1; have yc0 := (stay_of_below hS).cell c0; have yc1 := (stay_of_below hS).cell c1; have yd0 := (stay_of_below hS).cell d0; have yd1 := (stay_of_below hS).cell d1
   go_simp
   try with_reducible rfl
  refine tkH 35 ?_ rfl (fun w' hS => ?_) hS ?_
  rotate_left
  ·
   have y0 := (stay_of_below hS).cell x0; have y1 := (stay_of_below hS).cell x1; have y2 := (stay_of_below hS).cell x2; have y3 := (stay_of_below hS).cell x3; have y5 := (stay_of_below hS).cell x5; have yu := (stay_of_below hS).cell u1; have yc0 := (stay_of_below hS).cell c0; have yc1 := (stay_of_below hS).cell c1; have yd0 := (stay_of_below hS).cell d0; have yd1 := (stay_of_below hS).cell d1
   go_simp
   try with_reducible rfl
  refine tkH 36 ?_ rfl (fun w' hS => ?_) hS ?_
  rotate_left
  ·
   have y0 := (stay_of_below hS).cell x0; have y1 := (stay_of_below hS).cell x1; have y2 := (stay_of_below hS).cell x2; have y3 := (stay_of_below hS).cell x3; have y5 := (stay_of_below hS).cell x5; have yu := (stay_of_below hS).cell u1; have yc0 := (stay_of_below hS).cell c0; have yc1 := (stay_of_below hS).cell c1; have yd0 := (stay_of_below hS).cell d0; have yd1 := (stay_of_below hS).cell d1
   go_simp
   try with_reducible rfl
  refine tkH 37 ?_ rfl (fun w' hS => ?_) hS ?_
  rotate_left
  ·
   have y0 := (stay_of_below hS).cell x0; have y1 := (stay_of_below hS).cell x1; have y2 := (stay_of_below hS).cell x2; have y3 := (stay_of_below hS).cell x3; have y5 := (stay_of_below hS).cell x5; have yu := (stay_of_below hS).cell u1; have yc0 := (stay_of_below hS).cell c0; have yc1 := (stay_of_below hS).cell c1; have yd0 := (stay_of_below hS).cell d0; have yd1 := (stay_of_below hS).cell d1
   go_simp
   try with_reducible rfl
  refine tkH 38 ?_ rfl (fun w' hS => ?_) hS ?_
  rotate_left
  ·
   have y0 := (stay_of_below hS).cell x0; have y1 := (stay_of_below hS).cell x1; have y2 := (stay_of_below hS).cell x2; have y3 := (stay_of_below hS).cell x3; have y5 := (stay_of_below hS).cell x5; have yu := (stay_of_below hS).cell u1; have yc0 := (stay_of_below hS).cell c0; have yc1 := (stay_of_below hS).cell c1; have yd0 := (stay_of_below hS).cell d0; have yd1 := (stay_of_below hS).cell d1
   go_simp
   try with_reducible rfl
  refine tkH 39 ?_ rfl (fun w' hS => ?_) hS ?_
  rotate_left
  ·
   have y0 := (stay_of_below hS).cell x0; have y1 := (stay_of_below hS).cell x1; have y2 := (stay_of_below hS).cell x2; have y3 := (stay_of_below hS).cell x3; have y5 := (stay_of_below hS).cell x5; have yu := (stay_of_below hS).cell u1; have yc0 := (stay_of_below hS).cell c0; have yc1 := (stay_of_below hS).cell c1; have yd0 := (stay_of_below hS).cell d0; have yd1 := (stay_of_below hS).cell d1
   go_simp
   try with_reducible rfl
  refine tkH 40 ?_ rfl (fun w' hS => ?_) hS ?_
  rotate_left
  ·
   have y0 := (stay_of_below hS).cell x0; have y1 := (stay_of_below hS).cell x1; have y2 := (stay_of_below hS).cell x2; have y3 := (stay_of_below hS).cell x3; have y5 := (stay_of_below hS).cell x5; have yu := (stay_of_below hS).cell u1; have yc0 := (stay_of_below hS).cell c0; have yc1 := (stay_of_below hS).cell c1; have yd0 := (stay_of_below hS).cell d0; have yd1 := (stay_of_below hS).cell d1
   go_simp
   try with_reducible rfl
  refine tkH 41 ?_ rfl (fun w' hS => ?_) hS ?_
  rotate_left
  ·
   have y0 := (stay_of_below hS).cell x0; have y1 := (stay_of_below hS).cell x1; have y2 := (stay_of_below hS).cell x2; have y3 := (stay_of_below hS).cell x3; have y5 := (stay_of_below hS).cell x5; have yu := (stay_of_below hS).cell u1; have yc0 := (stay_of_below hS).cell c0; have yc1 := (stay_of_below hS).cell c1; have yd0 := (stay_of_below hS).cell d0; have yd1 := (stay_of_below hS).cell d1
   go_simp
   try with_reducible rfl
  refine tkH 42 ?_ rfl (fun w' hS => ?_) hS ?_
  rotate_left
  ·
   have y0 := (stay_of_below hS).cell x0; have y1 := (stay_of_below hS).cell x1; have y2 := (stay_of_below hS).cell x2; have y3 := (stay_of_below hS).cell x3; have y5 := (stay_of_below hS).cell x5; have yu := (stay_of_below hS).cell u1; have yc0 := (stay_of_below hS).cell c0; have yc1 := (stay_of_below hS).cell c1; have yd0 := (stay_of_below hS).cell d0; have yd1 := (stay_of_below hS).cell d1
   go_simp
   try with_reducible rfl
  refine tkH 43 ?_ rfl (fun w' hS => ?_) hS ?_
  rotate_left
  ·
   have y0 := (stay_of_below hS).cell x0; have y1 := (stay_of_below hS).cell x1; have y2 := (stay_of_below hS).cell x2; have y3 := (stay_of_below hS).cell x3; have y5 := (stay_of_below hS).cell x5; have yu := (stay_of_below hS).cell u1; have yc0 := (stay_of_below hS).cell c0; have yc1 := (stay_of_below hS).cell c1; have yd0 := (stay_of_below hS).cell d0; have yd1 := (stay_of_below hS).cell d1
   go_simp
   try with_reducible rfl
  refine tkH 44 ?_ rfl (fun w' hS => ?_) hS ?_
  rotate_left
  ·
   have y0 := (stay_of_below hS).cell x0; have y1 := (stay_of_below hS).cell x1; have y2 := (stay_of_below hS).cell x2; have y3 := (stay_of_below hS).cell x3; have y5 := (stay_of_below hS).cell x5; have yu := (stay_of_below hS).cell u1; have yc0 := (stay_of_below hS).cell c0; have yc1 := (stay_of_below hS).cell c1; have yd0 := (stay_of_below hS).cell d0; have yd1 := (stay_of_below hS).cell d1
   go_simp
   try with_reducible rfl
  refine tkH 45 ?_ rfl (fun w' hS => ?_) hS ?_
  rotate_left
  ·
   have y0 := (stay_of_below hS).cell x0; have y1 := (stay_of_below hS).cell x1; have y2 := (stay_of_below hS).cell x2; have y3 := (stay_of_below hS).cell x3; have y5 := (stay_of_below hS).cell x5; have yu := (stay_of_below hS).cell u1; have yc0 := (stay_of_below hS).cell c0; have yc1 := (stay_of_below hS).cell c1; have yd0 := (stay_of_below hS).cell d0; have yd1 := (stay_of_below hS).cell d1
   go_simp
   try with_reducible rfl
  refine wpAnyH_done (by kernel_rfl) ?_ _
  clear hS
  have hT11 := Lib.hid (fun V (h : Below w11.heap.size w11 V) => hT6.out V (h11.trans (h.mono h11.size)))
  have hE11 := Lib.hid (fun V (h : Below w11.heap.size w11 V) => hE6.out V (h11.trans (h.mono h11.size)))
  have hB11 := Lib.hid (hB6.out.trans (h11.mono hB6.out.size))
  replace t4 := Lib.hid (t4.out.stay h11)
  replace t6 := Lib.hid (t6.out.stay h11)
  replace x0 := (stay_of_below h11).cell x0
  replace x1 := (stay_of_below h11).cell x1
  replace x2 := (stay_of_below h11).cell x2
  replace x3 := (stay_of_below h11).cell x3
  replace x4 := (stay_of_below h11).cell x4
  replace x5 := (stay_of_below h11).cell x5
  replace x6 := (stay_of_below h11).cell x6
  replace c1 := (stay_of_below h11).cell c1
  replace m1 := (stay_of_below h11).cell m1
  clear hT6 hE6 hB6 h11 h6 t5 q3 q4 q5 q6 u1 c0 d0 d1 hsum hDl hDt hCs hCt hkC hkD
  obtain ⟨vC, rC, eC, -, hCr⟩ := t4.out.ex
  obtain ⟨rfl, rfl⟩ := agg2_eq eC
  obtain ⟨aC, kC, eC2, -, hCc⟩ := hCr.form
  obtain ⟨rfl, rfl⟩ := slice_eq eC2
  clear eC eC2 hCr t4
  replace hCc := Lib.hid hCc
  have hb0 : Hid (Below w11.heap.size w11 w11) := Lib.hid (Below.refl _ _)
  go_wp2
  go_loopw [7] (fun v wr => ∃ k : Nat, 1 ≤ k ∧ (k ≤ C.rows.length ∨ k = 1) ∧ v = .int .i64 (k : Int) ∧ Hid (Below w11.heap.size w11 wr)) (fun v _ => C.rows.length + 1 - (intOf v).toNat)
  case atStart => exact ⟨1, Nat.le_refl _, .inr rfl, rfl, hb0⟩
  case round =>
   obtain ⟨k, k1, k2, rfl, hbr⟩ := hrel
   clear hb0
   obtain ⟨w12, rfl⟩ : ∃ z : World, z = wr := ⟨_, rfl⟩
   replace c1 := (stay_of_below hbr.out).cell c1
   replace x0 := (stay_of_below hbr.out).cell x0
   replace x1 := (stay_of_below hbr.out).cell x1
   replace x2 := (stay_of_below hbr.out).cell x2
   replace x3 := (stay_of_below hbr.out).cell x3
   replace x4 := (stay_of_below hbr.out).cell x4
   replace x5 := (stay_of_below hbr.out).cell x5
   replace x6 := (stay_of_below hbr.out).cell x6
   by_cases hlt : k < C.rows.length
   ·as_aux_lemma =>
     have hki : (k : Int) < (C.rows.length : Int) := by omega
     obtain ⟨j, hj⟩ : ∃ j, k = j + 1 := ⟨k - 1, by omega⟩
     subst hj
     have hjw : IntKind.i64.wrap (((j + 1 : Nat) : Int) - 1) = (j : Int) := by rw [IntWalk.i64_in _ (by have := hCl.out; omega)]; omega
     obtain ⟨b, off, a1, e1, hao, hb, hc1, hl1⟩ := hCc.out j (by omega)
     obtain ⟨b', off', a2, e2, hao', hb', hc2, hl2⟩ := hCc.out (j + 1) hlt
     subst hao
     injection hao' with hao'
     injection hao' with g1 g2
     subst g1 g2
     replace hc1 := (stay_of_below hbr.out).cell hc1
     replace hc2 := (stay_of_below hbr.out).cell hc2
     have hc2b : w12.cell? ⟨b, off + j + 1, none⟩ = some (.slice a2 C.rows[j + 1].length e2) := hc2
     have hji : (j : Int) < (C.rows.length : Int) := by omega
     have hord := hCo.out j hlt
     have hcc := fun V (h : Below w11.heap.size w11 V) => rowsCompare_any 1048576 (by omega) lang V (hE11.out V h) _ _ _ _ (hl1.stay h) (hl2.stay h)
     rw [hs.out] at hcc
     have hwl : Hid ((j + 1) + 1 ≤ C.rows.length + 1) := Lib.hid (by omega)
     generalize C.rows[j] = rA at *
     generalize C.rows[j + 1] = rB at *
     generalize ordL s rA rB = c at *
     have hc0 : ¬ (0 : Int) < c := by omega
     replace hcc := Lib.hid hcc
     obtain ⟨k, hk⟩ : ∃ k, j + 1 = k := ⟨_, rfl⟩
     rw [hk] at hjw hc2 hki k1 hlt hwl ⊢
     have hkw : IntKind.i64.wrap ((k : Int) + 1) = ((k + 1 : Nat) : Int) := by rw [IntWalk.i64_in _ (by have := hCl.out; omega)]; omega
     have hk0 : (0 : Int) ≤ (k : Int) := by omega
     replace hk := Lib.hid hk
     clear hl1 hl2 hord k2
     go_upto_region 12 with fail
     have h0 : Below w12.heap.size w12 w12.drew := below_drewN (Below.refl _ _) 1
     refine wp_region_held_drew (S := fun V => Below w12.heap.size w12 V) (by kernel_rfl) h0 (fun hS => ?_)
     generalize w12.drew = wd at *
     refine tkH 0 ?_ rfl (fun w' hS => ?_) hS ?_
     rotate_left
     ·
      have y1 := (stay_of_below hS).cell c1; have y5 := (stay_of_below hS).cell x5; have z1 := (stay_of_below hS).cell hc1; have z2 := (stay_of_below hS).cell hc2; have z3 := (stay_of_below hS).cell hc2b
      go_simp
      try with_reducible rfl
     refine tkH 1 ?_ rfl (fun w' hS => ?_) hS ?_
     rotate_left
     ·
      have y1 := (stay_of_below hS).cell c1; have y5 := (stay_of_below hS).cell x5; have z1 := (stay_of_below hS).cell hc1; have z2 := (stay_of_below hS).cell hc2; have z3 := (stay_of_below hS).cell hc2b
      go_simp
      try with_reducible rfl
     refine tkH 2 ?_ rfl (fun w' hS => ?_) hS ?_
     rotate_left
     ·
      have y1 := (stay_of_below hS).cell c1; have y5 := (stay_of_below hS).cell x5; have z1 := (stay_of_below hS).cell hc1; have z2 := (stay_of_below hS).cell hc2; have z3 := (stay_of_below hS).cell hc2b
      go_simp
      try with_reducible rfl
     refine tkH 3 ?_ rfl (fun w' hS => ?_) hS ?_
     rotate_left
     ·
      have y1 := (stay_of_below hS).cell c1; have y5 := (stay_of_below hS).cell x5; have z1 := (stay_of_below hS).cell hc1; have z2 := (stay_of_below hS).cell hc2; have z3 := (stay_of_below hS).cell hc2b
      go_simp
      try with_reducible rfl
     refine tkH 4 ?_ rfl (fun w' hS => ?_) hS ?_
     rotate_left
     ·
      have y1 := (stay_of_below hS).cell c1; have y5 := (stay_of_below hS).cell x5; have z1 := (stay_of_below hS).cell hc1; have z2 := (stay_of_below hS).cell hc2; have z3 := (stay_of_below hS).cell hc2b
      go_simp
      try with_reducible rfl
     refine tkH 5 ?_ rfl (fun w' hS => ?_) hS ?_
     rotate_left
     ·
      have y1 := (stay_of_below hS).cell c1; have y5 := (stay_of_below hS).cell x5; have z1 := (stay_of_below hS).cell hc1; have z2 := (stay_of_below hS).cell hc2; have z3 := (stay_of_below hS).cell hc2b
      go_simp
      try with_reducible rfl
     refine tkH 6 ?_ rfl (fun w' hS => ?_) hS ?_
     rotate_left
     ·
      have y1 := (stay_of_below hS).cell c1; have y5 := (stay_of_below hS).cell x5; have z1 := (stay_of_below hS).cell hc1; have z2 := (stay_of_below hS).cell hc2; have z3 := (stay_of_below hS).cell hc2b
      go_simp
      try with_reducible rfl
     refine tkH 7 ?_ rfl (fun w' hS => ?_) hS ?_
     rotate_left
     ·
      have y1 := (stay_of_below hS).cell c1; have y5 := (stay_of_below hS).cell x5; have z1 := (stay_of_below hS).cell hc1; have z2 := (stay_of_below hS).cell hc2; have z3 := (stay_of_below hS).cell hc2b
      go_simp
      try with_reducible rfl
     refine tkH 8 ?_ rfl (fun w' hS => ?_) hS ?_
     rotate_left
     ·
      have y1 := (stay_of_below hS).cell c1; have y5 := (stay_of_below hS).cell x5; have z1 := (stay_of_below hS).cell hc1; have z2 := (stay_of_below hS).cell hc2; have z3 := (stay_of_below hS).cell hc2b
      go_simp
      try with_reducible rfl
     refine tkH 9 ?_ rfl (fun w' hS => ?_) hS ?_
     rotate_left
     ·
      have y1 := (stay_of_below hS).cell c1; have y5 := (stay_of_below hS).cell x5; have z1 := (stay_of_below hS).cell hc1; have z2 := (stay_of_below hS).cell hc2; have z3 := (stay_of_below hS).cell hc2b
      go_simp
      try with_reducible rfl
     refine tkH 10 ?_ rfl (fun w' hS => ?_) hS ?_
     rotate_left
     ·
      have y1 := (stay_of_below hS).cell c1; have y5 := (stay_of_below hS).cell x5; have z1 := (stay_of_below hS).cell hc1; have z2 := (stay_of_below hS).cell hc2; have z3 := (stay_of_below hS).cell hc2b
      go_simp
      try with_reducible rfl
     refine tkH 11 ?_ rfl (fun w' hS => ?_) hS ?_
     rotate_left
     ·
      have y1 := (stay_of_below hS).cell c1; have y5 := (stay_of_below hS).cell x5; have z1 := (stay_of_below hS).cell hc1; have z2 := (stay_of_below hS).cell hc2; have z3 := (stay_of_below hS).cell hc2b
      go_simp
      try with_reducible rfl
     refine tkH 12 ?_ rfl (fun w' hS => ?_) hS ?_
     rotate_left
     ·
      have y1 := (stay_of_below hS).cell c1; have y5 := (stay_of_below hS).cell x5; have z1 := (stay_of_below hS).cell hc1; have z2 := (stay_of_below hS).cell hc2; have z3 := (stay_of_below hS).cell hc2b
      go_simp
      try with_reducible rfl
     refine rdH 13 rfl (fun K hK => ?_)
     clear hS
     go_simp
     refine (hcc.out wd (hbr.out.trans (h0.mono hbr.out.size))).mono ?_
     rintro e w13 ⟨rfl, hb13⟩
     go_wp2_with fail
     refine hK.out _ _ (h0.trans (hb13.mono h0.size)) (fun hS => ?_)
     clear hK K
     try simp only [List.getElem_toArray, List.getElem_cons_succ, List.getElem_cons_zero, Act.put, List.setIfInBounds_toArray, List.set_cons_zero, List.set_cons_succ]
     have h13 := Lib.hid (hbr.out.trans ((h0.trans (hb13.mono h0.size)).mono hbr.out.size))
     refine tkH 14 ?_ rfl (fun w' hS => ?_) hS ?_
     rotate_left
     ·
      skip
      go_simp
      try with_reducible rfl
     refine wpAnyH_done (by kernel_rfl) ?_ _
     clear hS hb13 h0 hcc
     go_wp2
     go_roundw
     case rel => exact ⟨k + 1, by omega, .inl (by have := hwl.out; omega), rfl, h13⟩
     case measure => have := hwl.out; simp [intOf]; omega
   ·have hki : ¬ (k : Int) < (C.rows.length : Int) := by omega
    have hT12 := Lib.hid (fun V (h : Below w12.heap.size w12 V) => hT11.out V (hbr.out.trans (h.mono hbr.out.size)))
    have hE12 := Lib.hid (fun V (h : Below w12.heap.size w12 V) => hE11.out V (hbr.out.trans (h.mono hbr.out.size)))
    have hB12 := Lib.hid (hB11.out.trans (hbr.out.mono hB11.out.size))
    replace m1 := (stay_of_below hbr.out).cell m1
    replace t6 := Lib.hid (t6.out.stay hbr.out)
    obtain ⟨vM, rM, eM, -, hMr⟩ := t6.out.ex
    obtain ⟨rfl, rfl⟩ := agg2_eq eM
    obtain ⟨aM, kM, eM2, -, hMc⟩ := hMr.form
    obtain ⟨rfl, rfl⟩ := slice_eq eM2
    replace hMc := Lib.hid hMc
    clear eM eM2 hMr t6 hT11 hE11 hB11 hbr hCc hCo
    go_wp2
    clear c1
    go_loop [8] (fun v => ∃ k : Nat, k ≤ M.rows.length ∧ v = .int .i64 (k : Int)) (fun v => M.rows.length - (intOf v).toNat)
    case atStart => exact ⟨0, Nat.zero_le _, rfl⟩
    case round =>
     obtain ⟨k, hk, rfl⟩ := hrel
     by_cases hlt : k < M.rows.length
     ·as_aux_lemma =>
       have hki : (k : Int) < (M.rows.length : Int) := by omega
       obtain ⟨b, off, a1, e1, rfl, hb, hc1, hl1⟩ := hMc.out k hlt
       have hall := hMn.out _ (List.getElem_mem hlt)
       have hkw : IntKind.i64.wrap ((k : Int) + 1) = ((k + 1 : Nat) : Int) := by rw [IntWalk.i64_in _ (by have := hMl.out; omega)]; omega
       have hk1 := Lib.hid (show k + 1 ≤ M.rows.length from hlt)
       have hNl := (hl1.elems _ _ _ rfl).1
       generalize M.rows[k] = r at *
       replace hl1 := Lib.hid hl1
       replace hall := Lib.hid hall
       go_wp2
       go_loop [9] (fun v => ∃ j : Nat, j ≤ r.length ∧ v = .int .i64 (j : Int)) (fun v => r.length - (intOf v).toNat)
       case atStart => exact ⟨0, Nat.zero_le _, rfl⟩
       case round =>
        obtain ⟨j, hj, rfl⟩ := hrel
        by_cases hlj : j < r.length
        ·have hji : (j : Int) < (r.length : Int) := by omega
         have hjw : IntKind.i64.wrap ((j : Int) + 1) = ((j + 1 : Nat) : Int) := by rw [IntWalk.i64_in _ (by omega)]; omega
         obtain ⟨b1, off1, kk, bo, n1, t1, xx1, l1, aoE, capE, rfl, he, hr, -, -⟩ := la_at hl1.out j hlj
         have hz := hall.out _ (List.getElem_mem hlj)
         rw [he] at hz
         have hk0 : kk = 0 := of_decide_eq_true hz
         subst hk0
         have y0 := hr.c0
         have hj1 := Lib.hid (show j + 1 ≤ r.length from hlj)
         clear he hz hr
         go_wp2
         go_round
         case rel => exact ⟨j + 1, hj1.out, rfl⟩
         case measure => have := hj1.out; simp [intOf]; omega
        ·have hji : ¬ (j : Int) < (r.length : Int) := by omega
         go_wp2
         go_round
         case rel => exact ⟨k + 1, hk1.out, rfl⟩
         case measure => have := hk1.out; simp [intOf]; omega
     ·have hki2 : ¬ (k : Int) < (M.rows.length : Int) := by omega
      have hO0 : Hid (OT w12 (w12.alloc (.cells #[.slice none 0 0, .slice br B.rows.length dr] 25)) (.slice none 0 0) (.slice br B.rows.length dr) (vNums 0)) := Lib.hid ⟨(Below.refl _ _).alloc (Nat.le_refl _) _, Blk.new _ _ _, World.ownsRow_nil _ _ _ _⟩
      obtain ⟨i0, hi, hz0, hz1, hz2⟩ := info_parts infoStr
      replace hi := Lib.hid hi
      replace hz0 := Lib.hid hz0
      replace hz1 := Lib.hid hz1
      replace hz2 := Lib.hid hz2
      have hno0 : Hid (∀ x ∈ vNums 0, x ∉ A.vars) := Lib.hid (fun x hx => by cases hx)
      clear hMn hMc hMl
      go_wp2
      clear m1
      go_loopw [11] (fun v wr => ∃ (k : Nat) (ov : Value), k ≤ B.vars.length ∧ v = .int .i64 (k : Int) ∧ Hid (OT w12 wr ov (.slice br B.rows.length dr) (vNums k)) ∧ Hid (∀ x ∈ vNums k, x ∉ A.vars)) (fun v _ => B.vars.length - (intOf v).toNat)
      case atStart => exact ⟨0, _, Nat.zero_le _, rfl, hO0, hno0⟩
      case round =>
       clear hO0 hno0
       obtain ⟨k, ov, hk, rfl, hO, hno⟩ := hrel
       obtain ⟨w13, rfl⟩ : ∃ z : World, z = wr := ⟨_, rfl⟩
       have hb13 := hO.out.below
       replace x0 := (stay_of_below hb13).cell x0
       replace x1 := (stay_of_below hb13).cell x1
       replace x2 := (stay_of_below hb13).cell x2
       replace x3 := (stay_of_below hb13).cell x3
       replace x4 := (stay_of_below hb13).cell x4
       replace x5 := (stay_of_below hb13).cell x5
       replace x6 := (stay_of_below hb13).cell x6
       have hB13 := Lib.hid (hB12.out.trans (hb13.mono hB12.out.size))
       have hv64 : B.vars.length ≤ 64 := (names_parts (may_rows hmB).1).1
       have hown := hO.out.names
       rw [vNums_len] at hown
       obtain ⟨an, cn, hvn⟩ := own_form4x hown
       subst hvn
       by_cases hlt : k < B.vars.length
       ·as_aux_lemma =>
         have hki : (k : Int) < (B.vars.length : Int) := by omega
         have hkw : IntKind.i64.wrap ((k : Int) + 1) = ((k + 1 : Nat) : Int) := by rw [IntWalk.i64_in _ (by omega)]; omega
         have hk1 := Lib.hid (show k + 1 ≤ B.vars.length from hlt)
         have cNum := Lib.hid (number_any w13 k (by omega))
         have hql : 1 + (numL k).length ≤ 9223372036854775807 := by have := numL_len k; omega
         have hql2 : (numL k).length + 1 ≤ 9223372036854775807 := by omega
         go_wp2_with fail
         refine cNum.out.mono ?_
         rintro e w14 ⟨rfl, hb14⟩
         have hb1214 := hb13.trans (hb14.mono hb13.size)
         have hT14 := hT12.out w14 hb1214
         obtain ⟨ao, cap, e3, hcA⟩ := hT14.av.form
         rw [(slice_eq e3).1] at hcA
         have cI := rindex_any w14 av cv A.vars (vNum k) (by have := (names_parts (may_rows hmA).1).1; omega) hcA
         have hneg := idxI_neg A.vars (vNum k)
         replace hO := Lib.hid (hO.out.stay hb14)
         have hE14 := Lib.hid (hE12.out w14 hb1214)
         have hB14 := Lib.hid (hB13.out.trans (hb14.mono hB13.out.size))
         replace x0 := (stay_of_below hb14).cell x0
         replace x1 := (stay_of_below hb14).cell x1
         replace x2 := (stay_of_below hb14).cell x2
         replace x3 := (stay_of_below hb14).cell x3
         replace x4 := (stay_of_below hb14).cell x4
         replace x5 := (stay_of_below hb14).cell x5
         replace x6 := (stay_of_below hb14).cell x6
         obtain ⟨ix, hix⟩ : ∃ ix, idxI A.vars (vNum k) = ix := ⟨_, rfl⟩
         rw [hix] at cI hneg
         replace cI := Lib.hid cI
         replace hix := Lib.hid hix
         clear cNum hT14 e3 hcA hb14 hb13 hb1214 hown
         go_upto_region 27 with fail
         rw [vNum_eq]
         obtain ⟨nm, hnm⟩ : ∃ nm, vNum k = nm := ⟨_, rfl⟩
         rw [hnm] at cI hneg ⊢
         go_wp2_with fail
         refine cI.out.mono ?_
         rintro e w15 ⟨rfl, rfl⟩
         by_cases hm : nm ∈ A.vars
         ·have hge : (0 : Int) ≤ ix := by rw [decide_eq_true hm] at hneg; simp at hneg; omega
          replace hnm := Lib.hid hnm
          clear hneg cI hO hno
          go_wp2_with fail
          refine (wakes9_any _ (hE14.out.env)).mono ?_
          rintro e wz ⟨rfl, hbz⟩
          have hbzz := Lib.hid (hB14.out.trans (hbz.mono hB14.out.size))
          clear hbz
          go_wp2
          go_ret
          exact ⟨rfl, hbzz.out⟩
         ·have hge : ¬ (0 : Int) ≤ ix := by rw [decide_eq_false hm] at hneg; simp at hneg; omega
          have hno2 : Hid (∀ x ∈ vNums (k + 1), x ∉ A.vars) := Lib.hid (fun x hx => by
           rw [vNums_next] at hx
           rcases List.mem_append.1 hx with h | h
           ·exact hno.out x h
           ·rw [List.mem_singleton.1 h, hnm]; exact hm)
          have hnx : Hid (vNums (k + 1) = vNums k ++ [nm]) := Lib.hid (by rw [vNums_next, hnm])
          have hlen0 := hO.out.names
          rw [vNums_len] at hlen0
          have y0 := hO.out.tb.cell 0 rfl
          have y1 := hO.out.tb.cell 1 rfl
          have hsz := hO.out.below.size
          replace hnm := Lib.hid hnm
          replace hm := Lib.hid hm
          clear hneg cI
          go_wp2_with (at_builtin; refine wpList_append_own _ rfl _ _ 22 rfl w12.heap.size 9 i0 (.string ByteArray.empty) 1 16 Tryz.underlying22 hi.out hz0.out hz1.out hz2.out rfl (by decide) _ k (textsV (vNums k)) rfl (hlen0.alloc _) _ 1 _ [.string nm] rfl rfl (news_b _ _ _) ?ra ?rb ?rc ?rd ?re)
          case ra => simp [Value.oneCell']
          case rb => simp only [maxLen]; omega
          case rc => omega
          case rd => simp; omega
          case re =>
           intro v' w16 h1 h2 _
           have hO5 := (hO.out.alloc (.cells #[.string nm] 9)).name nm (by rw [vNums_len]; exact h1) h2
           rw [← hnx.out] at hO5
           obtain ⟨a5, c5, rfl⟩ := own_form4x h1
           have hne0 := own_ne hlen0 hO.out.tb (by decide)
           have e1 : Blk w16 w12.heap.size _ _ := (h2.block w12.heap.size (by rw [World.size_alloc]; have := hO.out.tb.lt; omega) (fun e => hne0 e.symm)).trans (hO.out.tb.alloc (.cells #[.string nm] 9))
           have g0 := e1.cell 0 rfl
           have g2 := e1.free 0
           replace hO5 := Lib.hid hO5
           clear h1 h2 hO hlen0 hne0 e1 y0 y1
           go_wp2
           go_roundw
           case rel => exact ⟨k + 1, _, hk1.out, rfl, hO5, hno2⟩
           case measure => have := hk1.out; simp [intOf]; omega
       ·have hki3 : ¬ (k : Int) < (B.vars.length : Int) := by omega
        obtain rfl : k = B.vars.length := by omega
        obtain ⟨UU, hUU⟩ : ∃ UU, unionT A A = UU := ⟨_, rfl⟩
        obtain ⟨To, hTo⟩ : ∃ To : Tab, ⟨vNums B.vars.length, B.rows⟩ = To := ⟨_, rfl⟩
        have hTm : mayT To = true := by rw [← hTo]; exact other_may hmB
        have hTl : To.rows.length = B.rows.length := by rw [← hTo]
        have hTs : sameT (minusT A To) A = true := by rw [← hTo]; exact other_minus hmA hno.out
        have tO : TabA w13 1048576 (.agg #[.slice an B.vars.length cn, .slice br B.rows.length dr]) To := by
         rw [← hTo]
         exact ⟨_, _, rfl, ⟨own_row (by rw [textsV_length, vNums_len]; exact hown), vNums_size _⟩, (hT12.out w13 hb13).br⟩
        have hMAm : mayT (minusT A To) = true := minus_may To hmA
        have hMAl : (minusT A To).rows.length ≤ A.rows.length := by unfold minusT; exact List.length_filter_le _ _
        have hkMA : KeyL (minusT A To) := fun r hr => hkA.out r ((List.mem_filter.1 hr).1)
        have hUUm : mayT UU = true := by rw [← hUU]; exact unionT_may hmA hmA
        have hUUl : UU.rows.length = A.rows.length + A.rows.length := by rw [← hUU, union_same hmA hmA rfl, List.length_append]
        have hkUU : KeyL UU := fun r hr => by
         rw [← hUU, union_same hmA hmA rfl] at hr
         rcases List.mem_append.1 hr with h | h
         ·exact hkA.out r h
         ·exact hkA.out r h
        have hPU : projT UU A.vars = UU := by rw [← hUU]; exact union_proj hmA
        have y0 := hO.out.tb.cell 0 rfl
        have y1 := hO.out.tb.cell 1 rfl
        have hT13 := Lib.hid (fun V (h : Below w13.heap.size w13 V) => hT12.out V (hb13.trans (h.mono hb13.size)))
        have hE13 := Lib.hid (fun V (h : Below w13.heap.size w13 V) => hE12.out V (hb13.trans (h.mono hb13.size)))
        have hnA := (may_rows hmA).1
        replace hTo := Lib.hid hTo
        replace hUU := Lib.hid hUU
        replace hTl := Lib.hid hTl
        replace hTs := Lib.hid hTs
        replace hMAl := Lib.hid hMAl
        replace hUUl := Lib.hid hUUl
        replace hPU := Lib.hid hPU
        replace tO := Lib.hid tO
        clear hown hO hno hT12 hE12 hB12
        go_upto_region 30 with fail
        have h0 : Below w13.heap.size w13 w13.drew := below_drewN (Below.refl _ _) 1
        refine wp_region_held_drew (S := fun V => Below w13.heap.size w13 V) (by kernel_rfl) h0 (fun hS => ?_)
        generalize w13.drew = wd at *
        refine tkH 0 ?_ rfl (fun w' hS => ?_) hS ?_
        rotate_left
        ·
         have z0 := (stay_of_below hS).cell x0; have z1 := (stay_of_below hS).cell x1; have z2 := (stay_of_below hS).cell y0; have z3 := (stay_of_below hS).cell y1
         go_simp
         try with_reducible rfl
        refine tkH 1 ?_ rfl (fun w' hS => ?_) hS ?_
        rotate_left
        ·
         have z0 := (stay_of_below hS).cell x0; have z1 := (stay_of_below hS).cell x1; have z2 := (stay_of_below hS).cell y0; have z3 := (stay_of_below hS).cell y1
         go_simp
         try with_reducible rfl
        refine tkH 2 ?_ rfl (fun w' hS => ?_) hS ?_
        rotate_left
        ·
         have z0 := (stay_of_below hS).cell x0; have z1 := (stay_of_below hS).cell x1; have z2 := (stay_of_below hS).cell y0; have z3 := (stay_of_below hS).cell y1
         go_simp
         try with_reducible rfl
        refine tkH 4 ?_ rfl (fun w' hS => ?_) hS ?_
        rotate_left
        ·
         have z0 := (stay_of_below hS).cell x0; have z1 := (stay_of_below hS).cell x1; have z2 := (stay_of_below hS).cell y0; have z3 := (stay_of_below hS).cell y1
         go_simp
         try with_reducible rfl
        refine tkH 5 ?_ rfl (fun w' hS => ?_) hS ?_
        rotate_left
        ·
         have z0 := (stay_of_below hS).cell x0; have z1 := (stay_of_below hS).cell x1; have z2 := (stay_of_below hS).cell y0; have z3 := (stay_of_below hS).cell y1
         go_simp
         try with_reducible rfl
        refine rdH 3 rfl (fun K hK => ?_)
        clear hS
        go_simp
        refine (minus_mayB wd (hE13.out _ h0).env _ _ A To (hT13.out _ h0).tabA (tO.out.stay h0) hmA hTm (by omega) (by have := hTl.out; omega)).mono ?_
        rintro e w21 ⟨v, rfl, hO⟩
        obtain ⟨vv, rv, rfl, hbw21, hown, hszs, hMR⟩ := hO
        obtain ⟨anw21, cnw21, hvn⟩ := own_form4x hown
        obtain ⟨arw21, crw21, hvr⟩ := hMR.form
        subst hvn
        subst hvr
        have tw21 : TabA w21 1048576 _ _ := ⟨_, _, rfl, ⟨own_row (by rw [textsV_length]; exact hown), hszs⟩, hMR.read⟩
        clear hown hszs hMR
        go_wp2_with fail
        refine hK.out _ _ (h0.trans (hbw21.mono h0.size)) (fun hS => ?_)
        clear hK K
        try simp only [List.getElem_toArray, List.getElem_cons_succ, List.getElem_cons_zero, Act.put, List.setIfInBounds_toArray, List.set_cons_zero, List.set_cons_succ]
        have h21 := h0.trans (hbw21.mono h0.size)
        have cs1 := same_may w21 (hE13.out _ h21).env _ _ _ A tw21 (hT13.out _ h21).tabA hMAm hmA (by have := hMAl.out; omega) (by omega) hkMA hkA.out
        rw [hTs.out] at cs1
        replace cs1 := Lib.hid cs1
        refine rdH 6 rfl (fun K hK => ?_)
        clear hS
        go_simp
        refine (cs1.out).mono ?_
        rintro e w22 ⟨rfl, hb22⟩
        go_wp2_with fail
        refine hK.out _ _ (h21.trans (hb22.mono h21.size)) (fun hS => ?_)
        clear hK K
        try simp only [List.getElem_toArray, List.getElem_cons_succ, List.getElem_cons_zero, Act.put, List.setIfInBounds_toArray, List.set_cons_zero, List.set_cons_succ]
        have h22 := h21.trans (hb22.mono h21.size)
        clear hb22 h0 h21 tw21 hbw21 cs1
        refine tkH 7 ?_ rfl (fun w' hS => ?_) hS ?_
        rotate_left
        ·
         have z0 := (stay_of_below hS).cell x0; have z1 := (stay_of_below hS).cell x1; have z2 := (stay_of_below hS).cell y0; have z3 := (stay_of_below hS).cell y1
         go_simp
         try with_reducible rfl
        refine tkH 8 ?_ rfl (fun w' hS => ?_) hS ?_
        rotate_left
        ·
         have z0 := (stay_of_below hS).cell x0; have z1 := (stay_of_below hS).cell x1; have z2 := (stay_of_below hS).cell y0; have z3 := (stay_of_below hS).cell y1
         go_simp
         try with_reducible rfl
        refine tkH 9 ?_ rfl (fun w' hS => ?_) hS ?_
        rotate_left
        ·
         have z0 := (stay_of_below hS).cell x0; have z1 := (stay_of_below hS).cell x1; have z2 := (stay_of_below hS).cell y0; have z3 := (stay_of_below hS).cell y1
         go_simp
         try with_reducible rfl
        refine tkH 10 ?_ rfl (fun w' hS => ?_) hS ?_
        rotate_left
        ·
         have z0 := (stay_of_below hS).cell x0; have z1 := (stay_of_below hS).cell x1; have z2 := (stay_of_below hS).cell y0; have z3 := (stay_of_below hS).cell y1
         go_simp
         try with_reducible rfl
        refine tkH 11 ?_ rfl (fun w' hS => ?_) hS ?_
        rotate_left
        ·
         have z0 := (stay_of_below hS).cell x0; have z1 := (stay_of_below hS).cell x1; have z2 := (stay_of_below hS).cell y0; have z3 := (stay_of_below hS).cell y1
         go_simp
         try with_reducible rfl
        refine tkH 13 ?_ rfl (fun w' hS => ?_) hS ?_
        rotate_left
        ·
         have z0 := (stay_of_below hS).cell x0; have z1 := (stay_of_below hS).cell x1; have z2 := (stay_of_below hS).cell y0; have z3 := (stay_of_below hS).cell y1
         go_simp
         try with_reducible rfl
        refine tkH 14 ?_ rfl (fun w' hS => ?_) hS ?_
        rotate_left
        ·
         have z0 := (stay_of_below hS).cell x0; have z1 := (stay_of_below hS).cell x1; have z2 := (stay_of_below hS).cell y0; have z3 := (stay_of_below hS).cell y1
         go_simp
         try with_reducible rfl
        refine tkH 15 ?_ rfl (fun w' hS => ?_) hS ?_
        rotate_left
        ·
         have z0 := (stay_of_below hS).cell x0; have z1 := (stay_of_below hS).cell x1; have z2 := (stay_of_below hS).cell y0; have z3 := (stay_of_below hS).cell y1
         go_simp
         try with_reducible rfl
        refine tkH 17 ?_ rfl (fun w' hS => ?_) hS ?_
        rotate_left
        ·
         have z0 := (stay_of_below hS).cell x0; have z1 := (stay_of_below hS).cell x1; have z2 := (stay_of_below hS).cell y0; have z3 := (stay_of_below hS).cell y1
         go_simp
         try with_reducible rfl
        refine tkH 18 ?_ rfl (fun w' hS => ?_) hS ?_
        rotate_left
        ·
         have z0 := (stay_of_below hS).cell x0; have z1 := (stay_of_below hS).cell x1; have z2 := (stay_of_below hS).cell y0; have z3 := (stay_of_below hS).cell y1
         go_simp
         try with_reducible rfl
        refine tkH 19 ?_ rfl (fun w' hS => ?_) hS ?_
        rotate_left
        ·
         have z0 := (stay_of_below hS).cell x0; have z1 := (stay_of_below hS).cell x1; have z2 := (stay_of_below hS).cell y0; have z3 := (stay_of_below hS).cell y1
         go_simp
         try with_reducible rfl
        refine tkH 20 ?_ rfl (fun w' hS => ?_) hS ?_
        rotate_left
        ·
         have z0 := (stay_of_below hS).cell x0; have z1 := (stay_of_below hS).cell x1; have z2 := (stay_of_below hS).cell y0; have z3 := (stay_of_below hS).cell y1
         go_simp
         try with_reducible rfl
        have cu1 := union_may w22 (hE13.out _ h22).env _ _ A A (hT13.out _ h22).tabA (hT13.out _ h22).tabA hmA hmA (by omega)
        rw [hUU.out] at cu1
        replace cu1 := Lib.hid cu1
        refine rdH 12 rfl (fun K hK => ?_)
        clear hS
        go_simp
        refine (cu1.out).mono ?_
        rintro e w23 ⟨v, rfl, hO⟩
        obtain ⟨vv, rv, rfl, hbw23, hown, hszs, hMR⟩ := hO
        obtain ⟨anw23, cnw23, hvn⟩ := own_form4x hown
        obtain ⟨arw23, crw23, hvr⟩ := hMR.form
        subst hvn
        subst hvr
        have tw23 : TabA w23 1048576 _ _ := ⟨_, _, rfl, ⟨own_row (by rw [textsV_length]; exact hown), hszs⟩, hMR.read⟩
        clear hown hszs hMR
        go_wp2_with fail
        refine hK.out _ _ (h22.trans (hbw23.mono h22.size)) (fun hS => ?_)
        clear hK K
        try simp only [List.getElem_toArray, List.getElem_cons_succ, List.getElem_cons_zero, Act.put, List.setIfInBounds_toArray, List.set_cons_zero, List.set_cons_succ]
        have h23 := h22.trans (hbw23.mono h22.size)
        have cp1 := project_mayB w23 (hE13.out _ h23).env _ _ UU A.vars tw23 (hT13.out _ h23).av hUUm hnA (by have := hUUl.out; omega)
        rw [hPU.out] at cp1
        replace cp1 := Lib.hid cp1
        refine rdH 16 rfl (fun K hK => ?_)
        clear hS
        go_simp
        refine (cp1.out).mono ?_
        rintro e w24 ⟨v, rfl, hO⟩
        obtain ⟨vv, rv, rfl, hbw24, hown, hszs, hMR⟩ := hO
        obtain ⟨anw24, cnw24, hvn⟩ := own_form4x hown
        obtain ⟨arw24, crw24, hvr⟩ := hMR.form
        subst hvn
        subst hvr
        have tw24 : TabA w24 1048576 _ _ := ⟨_, _, rfl, ⟨own_row (by rw [textsV_length]; exact hown), hszs⟩, hMR.read⟩
        clear hown hszs hMR
        go_wp2_with fail
        refine hK.out _ _ (h23.trans (hbw24.mono h23.size)) (fun hS => ?_)
        clear hK K
        try simp only [List.getElem_toArray, List.getElem_cons_succ, List.getElem_cons_zero, Act.put, List.setIfInBounds_toArray, List.set_cons_zero, List.set_cons_succ]
        have h24 := h23.trans (hbw24.mono h23.size)
        have cu2 := union_may w24 (hE13.out _ h24).env _ _ A A (hT13.out _ h24).tabA (hT13.out _ h24).tabA hmA hmA (by omega)
        rw [hUU.out] at cu2
        replace cu2 := Lib.hid cu2
        refine rdH 21 rfl (fun K hK => ?_)
        clear hS
        go_simp
        refine (cu2.out).mono ?_
        rintro e w25 ⟨v, rfl, hO⟩
        obtain ⟨vv, rv, rfl, hbw25, hown, hszs, hMR⟩ := hO
        obtain ⟨anw25, cnw25, hvn⟩ := own_form4x hown
        obtain ⟨arw25, crw25, hvr⟩ := hMR.form
        subst hvn
        subst hvr
        have tw25 : TabA w25 1048576 _ _ := ⟨_, _, rfl, ⟨own_row (by rw [textsV_length]; exact hown), hszs⟩, hMR.read⟩
        clear hown hszs hMR
        go_wp2_with fail
        refine hK.out _ _ (h24.trans (hbw25.mono h24.size)) (fun hS => ?_)
        clear hK K
        try simp only [List.getElem_toArray, List.getElem_cons_succ, List.getElem_cons_zero, Act.put, List.setIfInBounds_toArray, List.set_cons_zero, List.set_cons_succ]
        have h25 := h24.trans (hbw25.mono h24.size)
        have cs2 := same_may w25 (hE13.out _ h25).env _ _ UU UU (tw24.stay hbw25) tw25 hUUm hUUm (by have := hUUl.out; omega) (by have := hUUl.out; omega) hkUU hkUU
        rw [same_self hUUm] at cs2
        replace cs2 := Lib.hid cs2
        refine rdH 22 rfl (fun K hK => ?_)
        clear hS
        go_simp
        refine (cs2.out).mono ?_
        rintro e w26 ⟨rfl, hb26⟩
        go_wp2_with fail
        refine hK.out _ _ (h25.trans (hb26.mono h25.size)) (fun hS => ?_)
        clear hK K
        try simp only [List.getElem_toArray, List.getElem_cons_succ, List.getElem_cons_zero, Act.put, List.setIfInBounds_toArray, List.set_cons_zero, List.set_cons_succ]
        have h26 := h25.trans (hb26.mono h25.size)
        clear hb26 h22 h23 h24 h25 tw23 tw24 tw25 hbw23 hbw24 hbw25 cu1 cu2 cp1 cs2
        refine tkH 23 ?_ rfl (fun w' hS => ?_) hS ?_
        rotate_left
        ·
         skip
         go_simp
         try with_reducible rfl
        refine tkH 24 ?_ rfl (fun w' hS => ?_) hS ?_
        rotate_left
        ·
         skip
         go_simp
         try with_reducible rfl
        refine rdH 25 rfl (fun K hK => ?_)
        clear hS
        go_simp
        refine (wakes9_any w26 (hE13.out _ h26).env).mono ?_
        rintro e w27 ⟨rfl, hb27⟩
        go_wp2_with fail
        refine hK.out _ _ (h26.trans (hb27.mono h26.size)) (fun hS => ?_)
        clear hK K
        try simp only [List.getElem_toArray, List.getElem_cons_succ, List.getElem_cons_zero, Act.put, List.setIfInBounds_toArray, List.set_cons_zero, List.set_cons_succ]
        have h27 := h26.trans (hb27.mono h26.size)
        clear hb27 h26
        refine tkH 26 ?_ rfl (fun w' hS => ?_) hS ?_
        rotate_left
        ·
         skip
         go_simp
         try with_reducible rfl
        refine tkH 27 ?_ rfl (fun w' hS => ?_) hS ?_
        rotate_left
        ·
         skip
         go_simp
         try with_reducible rfl
        refine wpAnyH_done (by kernel_rfl) ?_ _
        clear hS
        have hfin := Lib.hid (hB13.out.trans (h27.mono hB13.out.size))
        clear h27
        go_wp2
        go_ret
        exact ⟨rfl, hfin.out⟩
end Go.Proofs.YtidplkfhodpdhaaGreatDoor.tab
namespace Go.Proofs.YtidplkfhodpdhaaGreatDoor.tab
open Go.ChangeShapes Go.WideShapes Go.ChangeAt Go.RowKit kit dec val
set_option linter.unusedVariables false
set_option maxRecDepth 100000 in
theorem rbags_all {H : Type} (enc : TypeId × Value → H) (W : World) (base : Nat) (v0 : Value) (d0 : DataW H) (p0 : List MemPlace) (hv : Value.okWide Tryz.prog W .any base 42 v0)
 (h : DataW.Trod enc Tryz.prog W 0 (fun _ => true) true 42 v0 d0 p0) (hlt : ∀ x ∈ p0, x.block < W.heap.size) (hb : Rows.uptoBulk d0 ≤ 1048576) (hE : EnvD W) :
 Calls Tryz.prog 6 #[v0] W fun e w' => e = .returned (.bool true) ∧ Below W.heap.size W w' := by
 obtain ⟨va, ra, vb, rb, vv, nv, A, B, X, lang, L, hT⟩ := open_two hv h hb
 exact rbags_any W hE v0 va ra vb rb vv nv A B X lang L hT
set_option maxRecDepth 100000 in
theorem rowsBags_witness (os : Os) {H : Type} (enc : TypeId × Value → H) :
 ∃ (w : World) (tape : Tape) (i : Input), w.os = os ∧ (w.forCall tape i).Shaped Tryz.prog ∧ i.vars = [] ∧ Input.okWide Tryz.prog (w.forCall tape i) .any w.heap.size 6 i ∧
  (Rows.OpenSpec.upto Rows.rowsBagsSpec).preRow enc Tryz.prog Tryz.f6 Rows.rowsBagsUptoRow.domain false Rows.rowsBagsUptoRow.laid (w.forCall tape i).memory i.args ∧ ({} : Assume).holds Tryz.prog (lone (Frame.enter Tryz.prog 6 i.args .normal) [] (w.forCall tape i)) := by
 have hx : ∃ places, DataW.whole enc Tryz.prog ((World.laidAll Tryz.prog os laidList).forCall (fun _ _ => 0) ⟨#[], #[.agg #[.slice none 0 0, .slice none 0 0, .slice none 0 0, .slice none 0 0, .slice none 0 0, .int .i64 0, .slice none 0 0]], []⟩).memory Tryz.f6.params.toList Rows.rowsBagsSpec.vars false (#[.agg #[.slice none 0 0, .slice none 0 0, .slice none 0 0, .slice none 0 0, .slice none 0 0, .int .i64 0, .slice none 0 0]] : Array Value).toList 8 = some ([.agg [.agg [.nil, .nil], .agg [.nil, .nil], .nil, .lit (.int .i64 0), .nil]], [], places) := ⟨[], by kernel_rfl⟩
 obtain ⟨places, hx⟩ := hx
 have hok : Input.okWideB Tryz.prog ((World.laidAll Tryz.prog os laidList).forCall (fun _ _ => 0) ⟨#[], #[.agg #[.slice none 0 0, .slice none 0 0, .slice none 0 0, .slice none 0 0, .slice none 0 0, .int .i64 0, .slice none 0 0]], []⟩) 6 ⟨#[], #[.agg #[.slice none 0 0, .slice none 0 0, .slice none 0 0, .slice none 0 0, .slice none 0 0, .int .i64 0, .slice none 0 0]], []⟩ = true := by kernel_rfl
 refine ⟨World.laidAll Tryz.prog os laidList, fun _ _ => 0, ⟨#[], #[.agg #[.slice none 0 0, .slice none 0 0, .slice none 0 0, .slice none 0 0, .slice none 0 0, .int .i64 0, .slice none 0 0]], []⟩, World.laidAll_os _ _ _, World.shaped_of_ZipB (by kernel_rfl) (by kernel_rfl), (Input.okWide_of_okWideB (base := 0) hok).1, (Input.okWide_of_okWideB hok).2, ?_, ?_⟩
 ·exact OpenSpec.preRow_of_cond 8 hx (by kernel_rfl) (fun k hk => by cases hk; kernel_rfl) (by kernel_rfl) (by
   rw [show Rows.rowsBagsUptoRow.laid = laidList from rfl, MakeChecks.laidMetH_plain _ _ _ (by kernel_rfl)]; exact laidMet_laidAll _ (by kernel_rfl) (by kernel_rfl))
 ·simp only [Assume.holds]
  exact ⟨by simp, by simp, fun _ => Modest.zero, by simp, by simp⟩
set_option maxRecDepth 100000 in
theorem rowsBags_lifted (os : Os) (started : os.Started) (H : Type) (enc : TypeId × Value → H) (F : Stop.Interp) :
 ReturnsInHanded {} Tryz.checked os 6 .any ((Rows.OpenSpec.upto Rows.rowsBagsSpec).preRow enc Tryz.prog Tryz.f6 Rows.rowsBagsUptoRow.domain false Rows.rowsBagsUptoRow.laid) (((Rows.OpenSpec.upto Rows.rowsBagsSpec).at F).post enc Tryz.prog Tryz.f6 false true false false) := by
 refine returnsInHanded_of_row (C := Tryz.checked) (s := Rows.OpenSpec.upto Rows.rowsBagsSpec) frame.own started (by kernel_rfl) Tryz.func6 (rowsBags_witness os enc) ?_
 intro W base args ds gs before hval0 hW _ hcond hsz0 hL hsh _
 have hbulk : Rows.uptoBulkAll (ds ++ gs) ≤ 1048576 := of_decide_eq_true (hcond _ rfl)
 have hval : ∀ (j : Nat) t v, Tryz.f6.params[j]? = some t → args[j]? = some v → Value.okWide Tryz.prog W .any base t v := hval0
 have hW' := hW
 obtain ⟨p, q, hA0, hV, rfl, hfz, hnd⟩ := hW
 have hA : DataW.TrodAll enc Tryz.prog W 0 (fun _ => true) true Tryz.f6.params.toList args.toList ds p := hA0
 rw [Tryz.params6] at hA hval
 obtain ⟨v0, vs0, d0, ds0, p0, q0, hargs, rfl, rfl, h0, r0⟩ := trodAll_cons hA
 obtain ⟨rfl, rfl, rfl⟩ := trodAll_nil r0
 obtain rfl : args = #[v0] := by cases args; simp_all
 obtain ⟨rfl, rfl⟩ := trodVars_none hV
 clear hA0 hval0
 simp only [List.append_nil] at hW'
 have hlt : ∀ x ∈ p0, x.block < W.heap.size := fun x hx => hW'.lt x hx
 have hb0 : Rows.uptoBulk d0 ≤ 1048576 := by
  have h1 : ([d0] ++ [] : List (DataW H)) = [d0] := rfl
  rw [h1] at hbulk
  simp only [Rows.uptoBulkAll] at hbulk
  omega
 refine (rbags_all enc W base v0 d0 p0 (hval 0 _ v0 rfl rfl) h0 hlt hb0 (env_of hL hsh)).mono fun e W' ⟨he, hg⟩ => ?_
 subst he
 exact ⟨_, rfl, frame.post_of_below (pa := p0 ++ []) (pv := []) hW' (fun _ _ _ => (trodAll_cons_mk (shut_bool Tryz.underlying4 _) trodAll_mk0))
  (fun sp hsp => trodAll_cons_mk (WideElems.Trod_stays frame.laid (by kernel_rfl) (of_decide_eq_true (by kernel_rfl)) h0 (fun x hx => hg.same (hlt x hx)) (sp' := sp) (fun x hx => hsp x hx)) trodAll_mk0)
  (fun _ _ => rfl) (by simp) hg (ok_one (by kernel_rfl) rfl (okWide_bool_mk Tryz.underlying4 _))⟩
theorem rowsBags_over : Rows.rowsBagsUptoRow.holds Tryz.pinned (Rows.OpenSpec.upto Rows.rowsBagsSpec) :=
 OpenClaim.holds_of_cond 6 Tryz.f6 rfl rfl rfl rfl rfl rfl rfl ⟨rfl, rfl, rfl, rfl, rfl⟩ rfl rfl rfl rfl rfl (by kernel_rfl) Tryz.func6 (by kernel_rfl)
  (of_decide_eq_true (by kernel_rfl)) (by unfold Func.isWrapper; first | (rw [if_pos (by decide +kernel)]; kernel_rfl) | (rw [if_neg (by decide +kernel)]; exact ⟨rfl, rfl⟩))
  (fun os started H enc _ F => by rw [OpenClaim.pre_eq_preRow]; exact rowsBags_lifted os started H enc F)
theorem RowsBags_holds : Rows.RowsBagsUptoCardSaid :=
 Claim7.holds_tied_plain_at .later [] [.data, .data, .data, .data, .sentinel, .sentinel, .pinned] true (true, "33896800da5fbb622223149dbd77372fda19828a3aca41e9228101d7c6ea8e0b") true
  rowsBags_over (fun _ h => by cases h) (by kernel_rfl) (fun _ h => by cases h) rowsBagsUpto_row_tie rfl ⟨rfl, rfl⟩ (by kernel_rfl) rfl
  (fun f fn hf hfn => by
   obtain rfl : f = 6 := Option.some.inj ((show Tryz.prog.funcNamed "diptych/diptychlaw9.RowsBags" = some 6 by kernel_rfl).symm.trans hf) |>.symm
   obtain rfl : fn = Tryz.f6 := (Option.some.inj (Tryz.func6.symm.trans hfn)).symm
   exact ⟨by kernel_rfl, fun j t ht => by
    rw [Tryz.params6] at ht
    have hm : t ∈ ([42] : List TypeId) := by simpa using Array.mem_of_getElem? ht
    have hall : (([42] : List TypeId).all fun u => !Tryz.prog.wantsStandIn u) = true := by kernel_rfl
    exact (show Tryz.prog.wantsStandIn t = false by simpa using List.all_eq_true.1 hall t hm)⟩)
  (by kernel_rfl)
end Go.Proofs.YtidplkfhodpdhaaGreatDoor.tab
