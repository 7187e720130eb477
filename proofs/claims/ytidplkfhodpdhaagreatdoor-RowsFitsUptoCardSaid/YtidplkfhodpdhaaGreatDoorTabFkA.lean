/- Texts TabFits, TabKeyP, one behind the other. -/
import Derived.Test.YtidplkfhodpdhaaGreatDoorTabJnA
import Derived.Test.YtidplkfhodpdhaaGreatDoorTabTogA
import Derived.Test.YtidplkfhodpdhaaGreatDoorTabKA
import Derived.Test.YtidplkfhodpdhaaGreatDoorTabMayA
import Derived.Test.YtidplkfhodpdhaaGreatDoorTabSameA
import Derived.Test.YtidplkfhodpdhaaGreatDoorTabPA
namespace Go.Proofs.YtidplkfhodpdhaaGreatDoor.tab
open Go.ChangeShapes Go.WideShapes Go.ChangeAt Go.RowKit kit dec val
open hyp (RowA TextsA CellsStay stay_of_below textsV textsV_length own_row)
set_option linter.unusedVariables false
set_option linter.unusedSimpArgs false
def fitsZ (A B : Tab) (i j : Int) : Bool := mayT A && (mayT B && (decide (0 ≤ i) && (decide (0 ≤ j) && (decide (i < A.rows.length) && (decide (j < B.rows.length) && compat A.vars B.vars (A.rows.getD i.toNat []) (B.rows.getD j.toNat []))))))
theorem fitsZ_at {A B : Tab} (ha : mayT A = true) (hb : mayT B = true) {i j : Nat} (hi : i < A.rows.length) (hj : j < B.rows.length) : fitsZ A B i j = compat A.vars B.vars A.rows[i] B.rows[j] := by
 unfold fitsZ
 rw [ha, hb, decide_eq_true (by omega), decide_eq_true (by omega), decide_eq_true (by omega), decide_eq_true (by omega)]
 simp [hi, hj]
set_option maxRecDepth 100000 in
set_option maxHeartbeats 4000000 in
theorem fits_any (N : Nat) (hN : N ≤ 1048576) (hN2 : 128 ≤ N) (w : World) (hE : Env w) (va vb : Value) (A B : Tab) (hA : TabA w N va A) (hB : TabA w N vb B) (a1 : A.vars.length ≤ 100000) (a2 : A.rows.length ≤ 1048576) (b1 : B.vars.length ≤ 100000) (b2 : B.rows.length ≤ 1048576) (i j : Int) :
 Calls Tryz.prog 25 #[va, vb, .int .i64 i, .int .i64 j] w fun e w' => e = .returned (.bool (fitsZ A B i j)) ∧ Below w.heap.size w w' := by
 obtain ⟨vv, rv, rfl, hV, hR⟩ := hA.ex
 obtain ⟨vv2, rv2, rfl, hV2, hR2⟩ := hB.ex
 obtain ⟨av, cv, rfl, -⟩ := hV.form
 obtain ⟨av2, cv2, rfl, -⟩ := hV2.form
 obtain ⟨ar, cr, rfl, -, hrc⟩ := hR.form
 obtain ⟨ar2, cr2, rfl, -, hrc2⟩ := hR2.form
 obtain ⟨q, hq⟩ : ∃ q, fitsZ A B i j = q := ⟨_, rfl⟩
 rw [hq]
 have hal : Below w.heap.size w ((w.alloc (.cells #[.slice av A.vars.length cv, .slice ar A.rows.length cr] 25)).alloc (.cells #[.slice av2 B.vars.length cv2, .slice ar2 B.rows.length cr2] 25)) :=
  ((Below.refl _ _).alloc (Nat.le_refl _) _).alloc (by rw [World.size_alloc]; omega) _
 have hq0 := (Blk.new w #[.slice av A.vars.length cv, .slice ar A.rows.length cr] 25).alloc (.cells #[.slice av2 B.vars.length cv2, .slice ar2 B.rows.length cr2] 25)
 have hq1 := Blk.new (w.alloc (.cells #[.slice av A.vars.length cv, .slice ar A.rows.length cr] 25)) #[.slice av2 B.vars.length cv2, .slice ar2 B.rows.length cr2] 25
 rw [World.size_alloc] at hq1
 obtain ⟨w1, hw1⟩ : ∃ w1, (w.alloc (.cells #[.slice av A.vars.length cv, .slice ar A.rows.length cr] 25)).alloc (.cells #[.slice av2 B.vars.length cv2, .slice ar2 B.rows.length cr2] 25) = w1 := ⟨_, rfl⟩
 have hs1 : w1.heap.size = w.heap.size + 2 := by rw [← hw1]; simp
 rw [hw1] at hal hq0 hq1
 have hE1 := hE.below hal
 have cA := Lib.hid (checkT_any N (by omega) w1 hE1 _ A (hA.stay hal) (by omega) a2)
 have cB := Lib.hid (fun V (h : Below w1.heap.size w1 V) => checkT_any N (by omega) V (hE1.below h) _ B ((hB.stay hal).stay h) (by omega) b2)
 have cT := Lib.hid (fun V (h : Below w1.heap.size w1 V) => together_any V _ _ A.vars B.vars (TextsA.below (TextsA.below hV hal) h) (TextsA.below (TextsA.below hV2 hal) h) a1 b1)
 have x0 := hq0.cell 0 rfl
 have x1 := hq0.cell 1 rfl
 have y0 := hq1.cell 0 rfl
 have y1 := hq1.cell 1 rfl
 replace hrc := Lib.hid hrc
 replace hrc2 := Lib.hid hrc2
 replace hal := Lib.hid hal
 replace hw1 := Lib.hid hw1
 replace hq := Lib.hid hq
 clear hA hB hV hV2 hR hR2 hE hE1 hq0 hq1
 go_enter Tryz.func25, Tryz.ntmps25
 go_wp2_with fail
 rw [hw1.out]
 refine cA.out.mono ?_
 rintro e w2 ⟨rfl, hb2⟩
 replace x0 := (stay_of_below hb2).cell x0
 replace x1 := (stay_of_below hb2).cell x1
 replace y0 := (stay_of_below hb2).cell y0
 replace y1 := (stay_of_below hb2).cell y1
 have hB2 := Lib.hid (hal.out.trans (hb2.mono hal.out.size))
 have cB2 := Lib.hid (cB.out w2 hb2)
 have hb12 := Lib.hid hb2
 clear cA cB hb2
 cases hmA : mayT A with
 | false =>
  have hz : q = false := by rw [← hq.out]; unfold fitsZ; rw [hmA]; rfl
  clear cB2
  replace hz := Lib.hid hz
  go_wp2
  go_ret
  exact ⟨ret_bool hz.out.symm, hB2.out⟩
 | true =>
  go_wp2_with fail
  refine cB2.out.mono ?_
  rintro e w3 ⟨rfl, hb3⟩
  replace x0 := (stay_of_below hb3).cell x0
  replace x1 := (stay_of_below hb3).cell x1
  replace y0 := (stay_of_below hb3).cell y0
  replace y1 := (stay_of_below hb3).cell y1
  have hB3 := Lib.hid (hB2.out.trans (hb3.mono hB2.out.size))
  have hb13 := Lib.hid (hb12.out.trans (hb3.mono hb12.out.size))
  clear cB2 hb12 hB2 hb3
  cases hmB : mayT B with
  | false =>
   have hz : q = false := by rw [← hq.out]; unfold fitsZ; rw [hmA, hmB]; rfl
   clear cT
   replace hz := Lib.hid hz
   go_wp2
   go_ret
   exact ⟨ret_bool hz.out.symm, hB3.out⟩
  | true =>
   have hqq : q = (decide (0 ≤ i) && (decide (0 ≤ j) && (decide (i < A.rows.length) && (decide (j < B.rows.length) && compat A.vars B.vars (A.rows.getD i.toNat []) (B.rows.getD j.toNat []))))) := by rw [← hq.out]; unfold fitsZ; rw [hmA, hmB]; rfl
   by_cases hi : i < 0
   ·have hz : q = false := by rw [hqq, decide_eq_false (by omega)]; rfl
    clear hqq cT
    replace hz := Lib.hid hz
    go_wp2
    go_ret
    exact ⟨ret_bool hz.out.symm, hB3.out⟩
   by_cases hj : j < 0
   ·have hz : q = false := by rw [hqq, decide_eq_true (by omega), decide_eq_false (by omega)]; rfl
    clear hqq cT
    replace hz := Lib.hid hz
    go_wp2
    go_ret
    exact ⟨ret_bool hz.out.symm, hB3.out⟩
   by_cases hil : (A.rows.length : Int) ≤ i
   ·have hz : q = false := by rw [hqq, decide_eq_true (by omega), decide_eq_true (by omega), decide_eq_false (by omega)]; rfl
    clear hqq cT
    replace hz := Lib.hid hz
    go_wp2
    go_ret
    exact ⟨ret_bool hz.out.symm, hB3.out⟩
   by_cases hjl : (B.rows.length : Int) ≤ j
   ·have hz : q = false := by rw [hqq, decide_eq_true (by omega), decide_eq_true (by omega), decide_eq_true (by omega), decide_eq_false (by omega)]; rfl
    clear hqq cT
    replace hz := Lib.hid hz
    go_wp2
    go_ret
    exact ⟨ret_bool hz.out.symm, hB3.out⟩
   obtain ⟨m, rfl⟩ : ∃ m : Nat, i = (m : Int) := ⟨i.toNat, by omega⟩
   obtain ⟨n, rfl⟩ : ∃ n : Nat, j = (n : Int) := ⟨j.toNat, by omega⟩
   have hmi : m < A.rows.length := by omega
   have hnj : n < B.rows.length := by omega
   have hz : q = compat A.vars B.vars A.rows[m] B.rows[n] := by rw [← hq.out, fitsZ_at hmA hmB hmi hnj]
   obtain ⟨hnA, hrA⟩ := may_rows hmA
   obtain ⟨hnB, hrB⟩ := may_rows hmB
   obtain ⟨hl1, -, hdA⟩ := names_parts hnA
   obtain ⟨hl2, -, hdB⟩ := names_parts hnB
   have hfl := foldN_len B.vars A.vars
   have hrm := hrA _ (List.getElem_mem hmi)
   have hrn := hrB _ (List.getElem_mem hnj)
   have hrn2 := hrn
   unfold rowB at hrn2
   rw [Bool.and_eq_true, decide_eq_true_eq, List.all_eq_true] at hrn2
   obtain ⟨g1, o1, a3, c3, rfl, hg1, hc1, hla1⟩ := hrc.out m hmi
   obtain ⟨g2, o2, a4, c4, rfl, hg2, hc2, hla2⟩ := hrc2.out n hnj
   replace hc1 := (stay_of_below hB3.out).cell hc1
   replace hc2 := (stay_of_below hB3.out).cell hc2
   have hd3 : Below w3.heap.size w3 w3.drew := below_drewN (Below.refl _ _) 1
   have hcT := cT.out w3.drew (hb13.out.trans (hd3.mono hb13.out.size))
   have hcJ : Hid (∀ V V', Below w3.heap.size w3 V → Below V.heap.size V V' → ∀ an cn ap cp, V.ownsRow w3.heap.size 3 1 (.slice ap (atN A.vars B.vars).length cp) (atN A.vars B.vars).length (numsN (atN A.vars B.vars)) → Calls Tryz.prog 68 #[.agg #[.slice an (B.vars.foldl addN A.vars).length cn, .slice ap (atN A.vars B.vars).length cp], .slice a3 A.rows[m].length c3, .slice a4 B.rows[n].length c4] V' fun e w' => JdP V' N (B.vars.foldl addN A.vars).length A.vars B.vars A.rows[m] B.rows[n] e w') := Lib.hid (fun V V' h h' an cn ap cp own => by
    have h1 := hB3.out.trans ((h.trans (h'.mono h.size)).mono hB3.out.size)
    exact joined_any N hN V' A.vars B.vars A.rows[m] B.rows[n] an _ cn _ _ _ hdA hdB hrm hrn2.1 hrn2.2 rfl (by omega) (((own_row (by rw [numsN_length]; exact own) : RowA V V.heap.size _ _).stay (stay_of_below h')).mono h'.size) (hla1.stay h1) (hla2.stay h1))
   replace hcT := Lib.hid hcT
   have hi0 : ¬ ((m : Int) < 0) := by omega
   have hj0 : ¬ ((n : Int) < 0) := by omega
   have him : (m : Int) < (A.rows.length : Int) := by omega
   have hjn : (n : Int) < (B.rows.length : Int) := by omega
   replace hz := Lib.hid hz
   clear hrc hrc2 hrA hrB hnA hnB hdA hdB hrm hrn hrn2 hla1 hla2 cT hqq hq hg1 hg2 hi hj
   generalize A.rows[m] = r at *
   generalize B.rows[n] = s at *
   go_upto_region 3 with fail
   refine wp_region_held_drew (S := fun V => Below w3.heap.size w3 V) (by kernel_rfl) hd3 (fun hS => ?_)
   have hV := hd3
   clear hd3
   generalize w3.drew = V0 at *
   refine tkH 0 ?_ rfl (fun w' hS => ?_) hS ?_
   rotate_left
   ·
    have p0 := (stay_of_below hS).cell x0; have p1 := (stay_of_below hS).cell x1; have p2 := (stay_of_below hS).cell y0; have p3 := (stay_of_below hS).cell y1; have p4 := (stay_of_below hS).cell hc1; have p5 := (stay_of_below hS).cell hc2
    go_simp
    try with_reducible rfl
   refine tkH 1 ?_ rfl (fun w' hS => ?_) hS ?_
   rotate_left
   ·
    have p0 := (stay_of_below hS).cell x0; have p1 := (stay_of_below hS).cell x1; have p2 := (stay_of_below hS).cell y0; have p3 := (stay_of_below hS).cell y1; have p4 := (stay_of_below hS).cell hc1; have p5 := (stay_of_below hS).cell hc2
    go_simp
    try with_reducible rfl
   refine tkH 2 ?_ rfl (fun w' hS => ?_) hS ?_
   rotate_left
   ·
    have p0 := (stay_of_below hS).cell x0; have p1 := (stay_of_below hS).cell x1; have p2 := (stay_of_below hS).cell y0; have p3 := (stay_of_below hS).cell y1; have p4 := (stay_of_below hS).cell hc1; have p5 := (stay_of_below hS).cell hc2
    go_simp
    try with_reducible rfl
   refine tkH 3 ?_ rfl (fun w' hS => ?_) hS ?_
   rotate_left
   ·
    have p0 := (stay_of_below hS).cell x0; have p1 := (stay_of_below hS).cell x1; have p2 := (stay_of_below hS).cell y0; have p3 := (stay_of_below hS).cell y1; have p4 := (stay_of_below hS).cell hc1; have p5 := (stay_of_below hS).cell hc2
    go_simp
    try with_reducible rfl
   refine tkH 5 ?_ rfl (fun w' hS => ?_) hS ?_
   rotate_left
   ·
    have p0 := (stay_of_below hS).cell x0; have p1 := (stay_of_below hS).cell x1; have p2 := (stay_of_below hS).cell y0; have p3 := (stay_of_below hS).cell y1; have p4 := (stay_of_below hS).cell hc1; have p5 := (stay_of_below hS).cell hc2
    go_simp
    try with_reducible rfl
   refine tkH 6 ?_ rfl (fun w' hS => ?_) hS ?_
   rotate_left
   ·
    have p0 := (stay_of_below hS).cell x0; have p1 := (stay_of_below hS).cell x1; have p2 := (stay_of_below hS).cell y0; have p3 := (stay_of_below hS).cell y1; have p4 := (stay_of_below hS).cell hc1; have p5 := (stay_of_below hS).cell hc2
    go_simp
    try with_reducible rfl
   refine tkH 7 ?_ rfl (fun w' hS => ?_) hS ?_
   rotate_left
   ·
    have p0 := (stay_of_below hS).cell x0; have p1 := (stay_of_below hS).cell x1; have p2 := (stay_of_below hS).cell y0; have p3 := (stay_of_below hS).cell y1; have p4 := (stay_of_below hS).cell hc1; have p5 := (stay_of_below hS).cell hc2
    go_simp
    try with_reducible rfl
   refine tkH 8 ?_ rfl (fun w' hS => ?_) hS ?_
   rotate_left
   ·
    have p0 := (stay_of_below hS).cell x0; have p1 := (stay_of_below hS).cell x1; have p2 := (stay_of_below hS).cell y0; have p3 := (stay_of_below hS).cell y1; have p4 := (stay_of_below hS).cell hc1; have p5 := (stay_of_below hS).cell hc2
    go_simp
    try with_reducible rfl
   refine tkH 9 ?_ rfl (fun w' hS => ?_) hS ?_
   rotate_left
   ·
    have p0 := (stay_of_below hS).cell x0; have p1 := (stay_of_below hS).cell x1; have p2 := (stay_of_below hS).cell y0; have p3 := (stay_of_below hS).cell y1; have p4 := (stay_of_below hS).cell hc1; have p5 := (stay_of_below hS).cell hc2
    go_simp
    try with_reducible rfl
   refine tkH 10 ?_ rfl (fun w' hS => ?_) hS ?_
   rotate_left
   ·
    have p0 := (stay_of_below hS).cell x0; have p1 := (stay_of_below hS).cell x1; have p2 := (stay_of_below hS).cell y0; have p3 := (stay_of_below hS).cell y1; have p4 := (stay_of_below hS).cell hc1; have p5 := (stay_of_below hS).cell hc2
    go_simp
    try with_reducible rfl
   refine tkH 11 ?_ rfl (fun w' hS => ?_) hS ?_
   rotate_left
   ·
    have p0 := (stay_of_below hS).cell x0; have p1 := (stay_of_below hS).cell x1; have p2 := (stay_of_below hS).cell y0; have p3 := (stay_of_below hS).cell y1; have p4 := (stay_of_below hS).cell hc1; have p5 := (stay_of_below hS).cell hc2
    go_simp
    try with_reducible rfl
   refine tkH 12 ?_ rfl (fun w' hS => ?_) hS ?_
   rotate_left
   ·
    have p0 := (stay_of_below hS).cell x0; have p1 := (stay_of_below hS).cell x1; have p2 := (stay_of_below hS).cell y0; have p3 := (stay_of_below hS).cell y1; have p4 := (stay_of_below hS).cell hc1; have p5 := (stay_of_below hS).cell hc2
    go_simp
    try with_reducible rfl
   refine tkH 13 ?_ rfl (fun w' hS => ?_) hS ?_
   rotate_left
   ·
    have p0 := (stay_of_below hS).cell x0; have p1 := (stay_of_below hS).cell x1; have p2 := (stay_of_below hS).cell y0; have p3 := (stay_of_below hS).cell y1; have p4 := (stay_of_below hS).cell hc1; have p5 := (stay_of_below hS).cell hc2
    go_simp
    try with_reducible rfl
   refine tkH 14 ?_ rfl (fun w' hS => ?_) hS ?_
   rotate_left
   ·
    have p0 := (stay_of_below hS).cell x0; have p1 := (stay_of_below hS).cell x1; have p2 := (stay_of_below hS).cell y0; have p3 := (stay_of_below hS).cell y1; have p4 := (stay_of_below hS).cell hc1; have p5 := (stay_of_below hS).cell hc2
    go_simp
    try with_reducible rfl
   refine rdH 4 rfl (fun K hK => ?_)
   clear hS
   go_simp
   refine hcT.out.mono ?_
   rintro e w5 ⟨v, rfl, vn, vp, rfl, hb5, hnm, hpl⟩
   obtain ⟨an, cn, rfl⟩ := own_form4x hnm
   obtain ⟨ap, cp, rfl⟩ := own_form4x hpl
   have h35 : Below w3.heap.size w3 w5 := hV.trans (hb5.mono hV.size)
   have hJ := Lib.hid (hcJ.out w5 w5 h35 (Below.refl _ _) an cn ap cp (own_low4 hpl hV.size))
   clear hcT hb5 hnm hpl hcJ
   go_wp2_with fail
   refine hK.out _ _ h35 (fun hS => ?_)
   clear hK K
   try simp only [List.getElem_toArray, List.getElem_cons_succ, List.getElem_cons_zero, Act.put, List.setIfInBounds_toArray, List.set_cons_zero, List.set_cons_succ]
   refine rdH 15 rfl (fun K hK => ?_)
   clear hS
   go_simp
   refine hJ.out.mono ?_
   rintro e w6 ⟨hb6, hY, hN6⟩
   have hb16 := h35.trans (hb6.mono h35.size)
   have hfin := Lib.hid (hB3.out.trans (hb16.mono hB3.out.size))
   generalize compat A.vars B.vars r s = b at *
   cases b with
   | true =>
    obtain ⟨a9, c9, rfl, -⟩ := hY rfl
    clear hY hN6 hJ hb6
    go_wp2_with fail
    refine hK.out _ _ hb16 (fun hS => ?_)
    clear hK K
    try simp only [List.getElem_toArray, List.getElem_cons_succ, List.getElem_cons_zero, Act.put, List.setIfInBounds_toArray, List.set_cons_zero, List.set_cons_succ]
    refine tkH 16 ?_ rfl (fun w' hS => ?_) hS ?_
    rotate_left
    ·
     skip
     go_simp
     try with_reducible rfl
    refine tkH 17 ?_ rfl (fun w' hS => ?_) hS ?_
    rotate_left
    ·
     skip
     go_simp
     try with_reducible rfl
    refine tkH 18 ?_ rfl (fun w' hS => ?_) hS ?_
    rotate_left
    ·
     skip
     go_simp
     try with_reducible rfl
    refine tkH 19 ?_ rfl (fun w' hS => ?_) hS ?_
    rotate_left
    ·
     skip
     go_simp
     try with_reducible rfl
    refine tkH 20 ?_ rfl (fun w' hS => ?_) hS ?_
    rotate_left
    ·
     skip
     go_simp
     try with_reducible rfl
    refine tkH 21 ?_ rfl (fun w' hS => ?_) hS ?_
    rotate_left
    ·
     skip
     go_simp
     try with_reducible rfl
    refine tkH 22 ?_ rfl (fun w' hS => ?_) hS ?_
    rotate_left
    ·
     skip
     go_simp
     try with_reducible rfl
    refine wpAnyH_done (by kernel_rfl) ?_ _
    clear hS
    go_wp2
    go_ret
    exact ⟨ret_bool hz.out.symm, hfin.out⟩
   | false =>
    obtain rfl := hN6 rfl
    clear hY hN6 hJ hb6
    go_wp2_with fail
    refine hK.out _ _ hb16 (fun hS => ?_)
    clear hK K
    try simp only [List.getElem_toArray, List.getElem_cons_succ, List.getElem_cons_zero, Act.put, List.setIfInBounds_toArray, List.set_cons_zero, List.set_cons_succ]
    refine tkH 16 ?_ rfl (fun w' hS => ?_) hS ?_
    rotate_left
    ·
     skip
     go_simp
     try with_reducible rfl
    refine tkH 17 ?_ rfl (fun w' hS => ?_) hS ?_
    rotate_left
    ·
     skip
     go_simp
     try with_reducible rfl
    refine tkH 18 ?_ rfl (fun w' hS => ?_) hS ?_
    rotate_left
    ·
     skip
     go_simp
     try with_reducible rfl
    refine tkH 19 ?_ rfl (fun w' hS => ?_) hS ?_
    rotate_left
    ·
     skip
     go_simp
     try with_reducible rfl
    refine tkH 20 ?_ rfl (fun w' hS => ?_) hS ?_
    rotate_left
    ·
     skip
     go_simp
     try with_reducible rfl
    refine tkH 21 ?_ rfl (fun w' hS => ?_) hS ?_
    rotate_left
    ·
     skip
     go_simp
     try with_reducible rfl
    refine tkH 22 ?_ rfl (fun w' hS => ?_) hS ?_
    rotate_left
    ·
     skip
     go_simp
     try with_reducible rfl
    refine wpAnyH_done (by kernel_rfl) ?_ _
    clear hS
    go_wp2
    go_ret
    exact ⟨ret_bool hz.out.symm, hfin.out⟩
end Go.Proofs.YtidplkfhodpdhaaGreatDoor.tab
namespace Go.Proofs.YtidplkfhodpdhaaGreatDoor.tab
open Go.RowKit dec val
set_option linter.unusedVariables false
set_option linter.unusedSimpArgs false
mutual
theorem encV_le9 : ∀ v, (encV v).length ≤ 9 * wtV v
 | .mk k b n t x l => by
  have hl := encL_le9 l
  rw [encV_mk, wtV, List.length_cons]
  have h1 : (txL t).length = 4 + t.size := by unfold txL; rw [List.length_append, bigL_len]; simp
  have h2 : (txL x).length = 4 + x.size := by unfold txL; rw [List.length_append, bigL_len]; simp
  split
  ·simp; omega
  split
  ·rw [bigL_len]; omega
  split
  ·rw [h1]; omega
  split
  ·rw [List.length_append, h1, h2]; omega
  split
  ·rw [List.length_append, bigL_len]; omega
  ·simp; omega
theorem encL_le9 : ∀ l, (encL l).length ≤ 9 * wtL l
 | [] => by simp [encL]
 | v :: r => by rw [encL, wtL, List.length_append]; have := encV_le9 v; have := encL_le9 r; omega
end
mutual
theorem wtV_size : ∀ v, wtV v ≤ 127 * sizeV v
 | .mk k b n t x l => by
  have := wtL_size l
  rw [wtV, sizeV]
  omega
theorem wtL_size : ∀ l, wtL l ≤ 127 * sizeL l
 | [] => by simp [wtL]
 | v :: r => by rw [wtL, sizeL]; have := wtV_size v; have := wtL_size r; omega
end
theorem sizeR_mem {r : List V} {l : List (List V)} (h : r ∈ l) : 1 + sizeL r ≤ sizeR l := by
 induction l with
 | nil => cases h
 | cons u l ih =>
  rw [sizeR]
  rcases List.mem_cons.1 h with rfl | h
  ·omega
  ·have := ih h; omega
theorem wt_light {A B : Tab} (h : lightT A B = true) : (∀ r ∈ A.rows, wtL r ≤ 381000) ∧ ∀ r ∈ B.rows, wtL r ≤ 381000 := by
 unfold lightT at h
 simp only [Bool.and_eq_true, decide_eq_true_eq] at h
 refine ⟨fun r hr => ?_, fun r hr => ?_⟩
 ·have := sizeR_mem hr; have := wtL_size r; omega
 ·have := sizeR_mem hr; have := wtL_size r; omega
theorem key_light {A : Tab} (h : ∀ r ∈ A.rows, wtL r ≤ 1100000) : KeyL A := fun r hr => by
 have := encL_le9 r
 have := h r hr
 omega
end Go.Proofs.YtidplkfhodpdhaaGreatDoor.tab
