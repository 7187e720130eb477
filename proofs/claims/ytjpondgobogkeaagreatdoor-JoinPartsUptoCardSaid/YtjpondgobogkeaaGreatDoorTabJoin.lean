/- Contract of rows.Join: the walk. -/
import Derived.Test.YtjpondgobogkeaaGreatDoorTabJd
import Derived.Test.YtjpondgobogkeaaGreatDoorTabJoinM
import Derived.Test.YtjpondgobogkeaaGreatDoorTabPA
import Derived.Test.YtjpondgobogkeaaGreatDoorTabCheck
namespace Go.Proofs.YtjpondgobogkeaaGreatDoor.tab
open Go.ChangeShapes Go.WideShapes Go.ChangeAt Go.RowKit kit dec val
open hyp (RowA TextsA CellsStay stay_of_below textsV textsV_length own_row)
set_option linter.unusedVariables false
set_option linter.unusedSimpArgs false
def joinZ (A B : Tab) : Tab := if mayT A = true ∧ mayT B = true then joinT A B else ⟨[], []⟩
set_option maxRecDepth 100000 in
set_option maxHeartbeats 4000000 in
theorem join_any (N : Nat) (hN : N ≤ 1048576) (w : World) (hE : Env w) (va vb : Value) (A B : Tab) (hA : TabA w N va A) (hB : TabA w N vb B) (a1 : A.vars.length ≤ 100000) (a2 : A.rows.length ≤ 1048576) (b1 : B.vars.length ≤ 100000) (b2 : B.rows.length ≤ 1048576) (hN64 : 64 ≤ N) (hrs : A.rows.length * B.rows.length ≤ 1048576) :
    Calls Tryz.prog 9 #[va, vb] w fun e w' => ∃ v, e = .returned v ∧ TabO w w' N v (joinZ A B) := by
  obtain ⟨vv, rv, rfl, hV, hR⟩ := hA.ex
  obtain ⟨vv2, rv2, rfl, hV2, hR2⟩ := hB.ex
  obtain ⟨av, cv, rfl, -⟩ := hV.form
  obtain ⟨av2, cv2, rfl, -⟩ := hV2.form
  obtain ⟨ar, cr, rfl, -, -⟩ := hR.form
  obtain ⟨ar2, cr2, rfl, -, -⟩ := hR2.form
  have hal : Below w.heap.size w (((w.alloc (.cells #[.slice av A.vars.length cv, .slice ar A.rows.length cr] 25)).alloc (.cells #[.slice av2 B.vars.length cv2, .slice ar2 B.rows.length cr2] 25)).alloc (.cells #[.slice none 0 0, .slice none 0 0] 25)) :=
    (((Below.refl _ _).alloc (Nat.le_refl _) _).alloc (by rw [World.size_alloc]; omega) _).alloc (by rw [World.size_alloc, World.size_alloc]; omega) _
  have hq0 := ((Blk.new w #[.slice av A.vars.length cv, .slice ar A.rows.length cr] 25).alloc (.cells #[.slice av2 B.vars.length cv2, .slice ar2 B.rows.length cr2] 25)).alloc (.cells #[.slice none 0 0, .slice none 0 0] 25)
  have hq1 := (Blk.new (w.alloc (.cells #[.slice av A.vars.length cv, .slice ar A.rows.length cr] 25)) #[.slice av2 B.vars.length cv2, .slice ar2 B.rows.length cr2] 25).alloc (.cells #[.slice none 0 0, .slice none 0 0] 25)
  have hq2 := Blk.new ((w.alloc (.cells #[.slice av A.vars.length cv, .slice ar A.rows.length cr] 25)).alloc (.cells #[.slice av2 B.vars.length cv2, .slice ar2 B.rows.length cr2] 25)) #[.slice none 0 0, .slice none 0 0] 25
  rw [World.size_alloc] at hq1 hq2
  rw [World.size_alloc] at hq2
  obtain ⟨w1, hw1⟩ : ∃ w1, (((w.alloc (.cells #[.slice av A.vars.length cv, .slice ar A.rows.length cr] 25)).alloc (.cells #[.slice av2 B.vars.length cv2, .slice ar2 B.rows.length cr2] 25)).alloc (.cells #[.slice none 0 0, .slice none 0 0] 25)) = w1 := ⟨_, rfl⟩
  have hs1 : w1.heap.size = w.heap.size + 3 := by rw [← hw1]; simp
  rw [hw1] at hal hq0 hq1 hq2
  have hA1 := hA.stay hal
  have hB1 := hB.stay hal
  have hE1 := hE.below hal
  have hR1 := hR.stay hal
  have hR21 := hR2.stay hal
  have hsA := Lib.hid hV.size
  have hsB := Lib.hid hV2.size
  have cT := together_any w1 _ _ A.vars B.vars (TextsA.below hV hal) (TextsA.below hV2 hal) a1 b1
  have cA := Lib.hid (fun V (h : Below w1.heap.size w1 V) => checkT_any N (by omega) V (hE1.below h) _ A (hA1.stay h) (by omega) a2)
  have cB := Lib.hid (fun V (h : Below w1.heap.size w1 V) => checkT_any N (by omega) V (hE1.below h) _ B (hB1.stay h) (by omega) b2)
  have x0 := hq0.cell 0 rfl
  have x1 := hq0.cell 1 rfl
  have y0 := hq1.cell 0 rfl
  have y1 := hq1.cell 1 rfl
  replace cT := Lib.hid cT
  replace hal := Lib.hid hal
  replace hq0 := Lib.hid hq0
  replace hq1 := Lib.hid hq1
  replace hq2 := Lib.hid hq2
  replace hR1 := Lib.hid hR1
  replace hR21 := Lib.hid hR21
  replace hw1 := Lib.hid hw1
  replace hs1 := Lib.hid hs1
  clear hA hB hA1 hB1 hV hV2 hR hR2 hE hE1
  go_enter Tryz.func9, Tryz.ntmps9
  go_wp2_with fail
  rw [hw1.out]
  refine cT.out.mono ?_
  rintro e w2 ⟨v, rfl, vn, vp, rfl, hb2, hnm, hpl⟩
  clear cT
  obtain ⟨an, cn, rfl⟩ := own_form4x hnm
  obtain ⟨ap, cp, rfl⟩ := own_form4x hpl
  have hbA := hb2.alloc hb2.size (.cells #[.slice an (B.vars.foldl addN A.vars).length cn, .slice ap (atN A.vars B.vars).length cp] 53)
  replace x0 := (stay_of_below hbA).cell x0
  replace x1 := (stay_of_below hbA).cell x1
  replace y0 := (stay_of_below hbA).cell y0
  replace y1 := (stay_of_below hbA).cell y1
  have cA2 := Lib.hid (cA.out _ hbA)
  replace hbA := Lib.hid hbA
  replace hnm := Lib.hid hnm
  replace hpl := Lib.hid hpl
  have hb2s := hb2.size
  replace hb2 := Lib.hid hb2
  clear cA
  go_wp2_with fail
  refine cA2.out.mono ?_
  rintro e w3 ⟨rfl, hb3⟩
  replace x0 := (stay_of_below hb3).cell x0
  replace x1 := (stay_of_below hb3).cell x1
  replace y0 := (stay_of_below hb3).cell y0
  replace y1 := (stay_of_below hb3).cell y1
  have hbB := hbA.out.trans (hb3.mono hbA.out.size)
  have cB2 := Lib.hid (cB.out w3 hbB)
  have hp3 : Hid (Blk w3 w2.heap.size #[.slice an (B.vars.foldl addN A.vars).length cn, .slice ap (atN A.vars B.vars).length cp] 53) := Lib.hid ((hb3.block _ (by simp)).trans (Blk.new w2 #[.slice an (B.vars.foldl addN A.vars).length cn, .slice ap (atN A.vars B.vars).length cp] 53))
  replace hb3 := Lib.hid hb3
  replace hbB := Lib.hid hbB
  clear cA2 cB
  have hq23 : Blk w3 (w.heap.size + 1 + 1) #[.slice none 0 0, .slice none 0 0] 25 := (hbB.out.block _ hq2.out.lt).trans hq2.out
  have f2 := Blk.free hq23
  have z0 := hq23.cell 0 rfl
  have z1 := hq23.cell 1 rfl
  cases hmA : mayT A with
  | false =>
    have hz : joinZ A B = ⟨[], []⟩ := by unfold joinZ; rw [hmA]; simp
    replace hz := Lib.hid hz
    clear cB2
    go_wp2
    have q0 := hq23.set 0 (.slice none 0 0)
    have hfin := q0.set 1 (.slice none 0 0)
    have hbf := ((hal.out.trans (hbB.out.mono hal.out.size)).setCell (p := ⟨w.heap.size + 1 + 1, 0, none⟩) (by simp; omega) (.slice none 0 0)).setCell (p := ⟨w.heap.size + 1 + 1, 1, none⟩) (by simp; omega) (.slice none 0 0)
    refine bodyPost_ret (v := .agg #[.slice none 0 0, .slice none 0 0]) (results_cell_row rfl _ _ (w.heap.size + 1 + 1) 25 _ (0, 0) _ rfl hfin.eq Tryz.underlying25 rfl infoTab) rfl ⟨_, rfl, ?_⟩
    rw [hz.out]
    exact tabO_zero hbf
  | true =>
    go_wp2_with fail
    refine cB2.out.mono ?_
    rintro e w4 ⟨rfl, hb4⟩
    replace x0 := (stay_of_below hb4).cell x0
    replace x1 := (stay_of_below hb4).cell x1
    replace y0 := (stay_of_below hb4).cell y0
    replace y1 := (stay_of_below hb4).cell y1
    have hbC := hbB.out.trans (hb4.mono hbB.out.size)
    have hp4 : Hid (Blk w4 w2.heap.size #[.slice an (B.vars.foldl addN A.vars).length cn, .slice ap (atN A.vars B.vars).length cp] 53) := Lib.hid ((hb4.block _ hp3.out.lt).trans hp3.out)
    have hq24 : Blk w4 (w.heap.size + 1 + 1) #[.slice none 0 0, .slice none 0 0] 25 := (hb4.block _ hq23.lt).trans hq23
    replace hb4 := Lib.hid hb4
    replace hbC := Lib.hid hbC
    clear cB2 f2 z0 z1 hq23
    have f2 := Blk.free hq24
    have z0 := hq24.cell 0 rfl
    have z1 := hq24.cell 1 rfl
    have hq0 := hq24.set 0 (.slice none 0 0)
    have hfin := hq0.set 1 (.slice none 0 0)
    have hbf := ((hal.out.trans (hbC.out.mono hal.out.size)).setCell (p := ⟨w.heap.size + 1 + 1, 0, none⟩) (by simp; omega) (.slice none 0 0)).setCell (p := ⟨w.heap.size + 1 + 1, 1, none⟩) (by simp; omega) (.slice none 0 0)
    have p0 := hp4.out.cell 0 rfl
    have p1 := hp4.out.cell 1 rfl
    cases hmB : mayT B with
    | false =>
      have hz : joinZ A B = ⟨[], []⟩ := by unfold joinZ; rw [hmB]; simp
      replace hz := Lib.hid hz
      go_wp2
      refine bodyPost_ret (v := .agg #[.slice none 0 0, .slice none 0 0]) (results_cell_row rfl _ _ (w.heap.size + 1 + 1) 25 _ (0, 0) _ rfl hfin.eq Tryz.underlying25 rfl infoTab) rfl ⟨_, rfl, ?_⟩
      rw [hz.out]
      exact tabO_zero hbf
    | true =>
      by_cases h64 : (B.vars.foldl addN A.vars).length ≤ 64
      · have h64i : ¬ (64 : Int) < ((B.vars.foldl addN A.vars).length : Int) := by omega
        clear hfin hbf hq0 p0 p1 f2 z0 z1
        obtain ⟨hnA, hrA⟩ := may_rows hmA
        obtain ⟨hnB, hrB⟩ := may_rows hmB
        obtain ⟨-, -, hdA⟩ := names_parts hnA
        obtain ⟨-, -, hdB⟩ := names_parts hnB
        have hz : joinZ A B = ⟨B.vars.foldl addN A.vars, joinRows A B⟩ := by unfold joinZ joinT; rw [hmA, hmB, if_pos h64]; simp
        replace hz := Lib.hid hz
        have hsz : ∀ s ∈ B.vars.foldl addN A.vars, s.size ≤ maxLen := fun s hs => by
          rcases (mem_foldN B.vars A.vars).1 hs with h | h
          · exact hsA.out s h
          · exact hsB.out s h
        have own4 := Lib.hid (own_keep (own_keep (hnm.out.alloc _) hb3.out) hb4.out)
        have pl4 : Hid (RowA w4 w4.heap.size (.slice ap (atN A.vars B.vars).length cp) (numsN (atN A.vars B.vars))) := Lib.hid (own_row (by rw [numsN_length]; exact own_keep (own_keep (hpl.out.alloc _) hb3.out) hb4.out))
        have hR4 := Lib.hid (hR1.out.stay hbC.out)
        have hR24 := Lib.hid (hR21.out.stay hbC.out)
        have hJ0 := Lib.hid (JnW.start w4 N (.slice an (B.vars.foldl addN A.vars).length cn))
        have hB4 := Lib.hid (hal.out.trans (hbC.out.mono hal.out.size))
        have hq24b := Lib.hid hq24
        have hs1b := hs1.out
        have hp40 := hp4.out.cell 0 rfl
        have hp4lt := hp4.out.lt
        have x1b := Lib.hid x1
        have y1b := Lib.hid y1
        have hq24lt := hq24.lt
        rw [← rowsIJ_zero A B] at hJ0
        obtain ⟨n, hn⟩ : ∃ n, (B.vars.foldl addN A.vars).length = n := ⟨_, rfl⟩
        have hn64 : n ≤ 64 := by omega
        clear hq24 hal hbA hbB hbC hnm hpl hq0 hq1 hq2 hb2 hb3 hb4 hR1 hR21 hw1 hs1 hp3
        rw [hn] at own4 hJ0 hp4 hp40 h64i ⊢
        replace hn := Lib.hid hn
        have hdA2 := Lib.hid hdA
        have hdB2 := Lib.hid hdB
        have hrA2 := Lib.hid hrA
        have hrB2 := Lib.hid hrB
        have hsz2 := Lib.hid hsz
        clear hdA hdB hrA hrB hsz hnA hnB
        have hRA : Hid (∀ j (hj : j < A.rows.length), ∃ b off a c, ar = some ⟨b, off, none⟩ ∧ b < w4.heap.size ∧ w4.cell? ⟨b, off + j, none⟩ = some (.slice a A.rows[j].length c) ∧ LA w4 N (.slice a A.rows[j].length c) A.rows[j]) := Lib.hid (by
          obtain ⟨_, _, e, -, h⟩ := hR4.out.form
          injection e with e1 _ _
          subst e1
          exact h)
        have hRB : Hid (∀ j (hj : j < B.rows.length), ∃ b off a c, ar2 = some ⟨b, off, none⟩ ∧ b < w4.heap.size ∧ w4.cell? ⟨b, off + j, none⟩ = some (.slice a B.rows[j].length c) ∧ LA w4 N (.slice a B.rows[j].length c) B.rows[j]) := Lib.hid (by
          obtain ⟨_, _, e, -, h⟩ := hR24.out.form
          injection e with e1 _ _
          subst e1
          exact h)
        obtain ⟨wb, rfl⟩ : ∃ wb : World, wb = w4 := ⟨_, rfl⟩
        clear hR4 hR24 x0 y0 y1
        replace x1 := (stay_of_below hJ0.out.below).cell x1
        go_wp2
        go_loopw [40] (fun i wr => ∃ (k : Nat) (rv : Value), k ≤ A.rows.length ∧ i = .int .i64 (k : Int) ∧ Hid (JnW wb wr N (.slice an n cn) rv (rowsIJ A B k 0))) (fun i _ => A.rows.length - (intOf i).toNat)
        case atStart => exact ⟨0, _, Nat.zero_le _, rfl, hJ0⟩
        case round =>
          clear hJ0
          obtain ⟨i, rv, hi, rfl, hJ⟩ := hrel
          obtain ⟨w5, rfl⟩ : ∃ w5 : World, w5 = wr := ⟨_, rfl⟩
          by_cases hlt : i < A.rows.length
          · have hki : (i : Int) < (A.rows.length : Int) := by omega
            have hi1 := Lib.hid (show i + 1 ≤ A.rows.length from hlt)
            obtain ⟨b1, o1, a1, c1, rfl, hb1, hcell, hla1⟩ := hRA.out i hlt
            replace hcell := (stay_of_below hJ.out.below).cell hcell
            have y1c := (stay_of_below hJ.out.below).cell y1b.out
            have hnext := rowsIJ_next A B hlt
            replace hnext := Lib.hid hnext
            have hrw := hrA2.out _ (List.getElem_mem hlt)
            replace hrw := Lib.hid hrw
            replace hla1 := Lib.hid hla1
            go_wp2
            go_loopw [47] (fun j wr => ∃ (k : Nat) (rv : Value), k ≤ B.rows.length ∧ j = .int .i64 (k : Int) ∧ Hid (JnW wb wr N (.slice an n cn) rv (rowsIJ A B i k))) (fun j _ => B.rows.length - (intOf j).toNat)
            case atStart => exact ⟨0, _, Nat.zero_le _, rfl, hJ⟩
            case round =>
              clear hJ hcell y1c
              obtain ⟨j, rv, hj, rfl, hJ⟩ := hrel
              by_cases hlj : j < B.rows.length
              · have hji : (j : Int) < (B.rows.length : Int) := by omega
                have hj1 := Lib.hid (show j + 1 ≤ B.rows.length from hlj)
                obtain ⟨b2, o2, a2, c2, rfl, hb2, hcell2, hla2⟩ := hRB.out j hlj
                replace hcell2 := (stay_of_below hJ.out.below).cell hcell2
                have p0 := (stay_of_below hJ.out.below).cell (hp4.out.cell 0 rfl)
                have p1 := (stay_of_below hJ.out.below).cell (hp4.out.cell 1 rfl)
                have hrs := hrB2.out _ (List.getElem_mem hlj)
                have hyes := Lib.hid (rowsIJ_yes A B hlt hlj)
                have hno := Lib.hid (rowsIJ_no A B hlt hlj)
                have hlen : (rowsIJ A B i j).length + 1 ≤ 1048576 := by
                  have h1 := rowsIJ_len A B i j hlt hj
                  have h2 := Nat.mul_le_mul_right B.rows.length (show i + 1 ≤ A.rows.length from hlt)
                  rw [Nat.succ_mul] at h2
                  omega
                have hrs2 := hrs
                unfold rowB at hrs2
                rw [Bool.and_eq_true, decide_eq_true_eq, List.all_eq_true] at hrs2
                have hcJ := joined_any N (by omega) wr A.vars B.vars A.rows[i] B.rows[j] an n cn _ _ _ hdA2.out hdB2.out hrw.out hrs2.1 hrs2.2 hn.out (by omega) ((pl4.out.stay (stay_of_below hJ.out.below)).mono hJ.out.below.size) (hla1.out.stay hJ.out.below) (hla2.stay hJ.out.below)
                replace hcJ := Lib.hid hcJ
                replace hlen := Lib.hid hlen
                clear hrs hrs2 hla2
                generalize rowsIJ A B i j = L1 at *
                generalize A.rows[i] = r at *
                generalize B.rows[j] = s at *
                go_wp2_with fail
                refine hcJ.out.mono ?_
                rintro e wv ⟨hb6, hY, hN6⟩
                have hJ6 := Lib.hid (hJ.out.stay hb6)
                cases hc : compat A.vars B.vars r s with
                | false =>
                  have he := hN6 hc
                  subst he
                  rw [← hno.out hc] at hJ6
                  replace hc := Lib.hid hc
                  clear hJ hcJ hY hN6 hb6 p0 p1 hcell2
                  go_wp2
                  go_roundw
                  case rel => exact ⟨j + 1, _, hj1.out, by go_num, hJ6⟩
                  case measure => have := hj1.out; simp [intOf]; omega
                | true =>
                  obtain ⟨a3, c3, he, hla3⟩ := hY hc
                  subst he
                  have hx := Lib.hid (hyes.out hc)
                  generalize joinR A.vars B.vars r s = x at *
                  generalize shared A.vars B.vars r s = sh at *
                  have hq0 : wv.heap.size ≤ wv.heap.size := Nat.le_refl _
                  obtain ⟨q0, hq⟩ : ∃ q0, q0 = wv.heap.size := ⟨_, rfl⟩
                  have hM0 : Hid (MR wv N (fun b => wb.heap.size < b ∧ b < q0) rv L1) := Lib.hid (by rw [hq]; exact hJ6.out.rows)
                  replace hq0 : q0 ≤ wv.heap.size := by omega
                  have hla := Lib.hid hla3
                  replace hq := Lib.hid hq
                  replace hlen := hlen.out
                  replace hc := Lib.hid hc
                  clear hJ hcJ hY hN6 hb6 p0 p1 hcell2 hyes hno hla3
                  have hJ := hJ6
                  clear hJ6
                  go_upto_region 13 with fail
                  have hal : Below wv.heap.size wv wv.drew := below_drewN (Below.refl _ _) 1
                  have hJV := hJ.out.stay hal
                  have hMV := hM0.out.stay (fun b hS hlt => hal.block b hlt)
                  have hlaV := hla.out.stay hal
                  have htlt := hJ.out.tb.lt
                  have hwV : wv.drew.heap.size = wv.heap.size := rfl
                  have hS0 : Blk wv.drew wb.heap.size #[.slice an n cn, rv] 25 ∧ ∀ b, q0 ≤ b → b < wv.heap.size → wv.drew.heap[b]? = wv.heap[b]? := ⟨hJV.tb, fun _ _ _ => rfl⟩
                  refine wp_region_late [7] (S := fun V => Blk V wb.heap.size #[.slice an n cn, rv] 25 ∧ ∀ b, q0 ≤ b → b < wv.heap.size → V.heap[b]? = wv.heap[b]?) (by kernel_rfl) hS0 (fun hS => ?_)
                  have hV := hS0
                  clear hS0 hal hJ hla hM0
                  generalize wv.drew = V0 at *
                  have hcall := Lib.hid (row_any N (by omega) V0 _ _ hlaV)
                  refine wpAnyL_take (i := 0) (v := ?_) rfl (by kernel_rfl) (by kernel_rfl) (by kernel_rfl) (by kernel_rfl) (by kernel_rfl) (fun _ _ _ h => h) (.inl ⟨by kernel_rfl, fun w' hS => ?_⟩) hS ?_
                  rotate_left
                  ·
                    skip
                    go_simp
                    try with_reducible rfl
                  simp only [List.getElem_toArray, List.getElem_cons_succ, List.getElem_cons_zero, Act.put, List.setIfInBounds_toArray, List.set_cons_zero, List.set_cons_succ]
                  refine wpAnyL_take (i := 1) (v := ?_) rfl (by kernel_rfl) (by kernel_rfl) (by kernel_rfl) (by kernel_rfl) (by kernel_rfl) (fun _ _ _ h => h) (.inl ⟨by kernel_rfl, fun w' hS => ?_⟩) hS ?_
                  rotate_left
                  ·
                    have z0 := hS.1.cell 0 rfl; have z1 := hS.1.cell 1 rfl
                    go_simp
                    try with_reducible rfl
                  simp only [List.getElem_toArray, List.getElem_cons_succ, List.getElem_cons_zero, Act.put, List.setIfInBounds_toArray, List.set_cons_zero, List.set_cons_succ]
                  refine wpAnyL_take (i := 2) (v := ?_) rfl (by kernel_rfl) (by kernel_rfl) (by kernel_rfl) (by kernel_rfl) (by kernel_rfl) (fun _ _ _ h => h) (.inl ⟨by kernel_rfl, fun w' hS => ?_⟩) hS ?_
                  rotate_left
                  ·
                    skip
                    go_simp
                    try with_reducible rfl
                  simp only [List.getElem_toArray, List.getElem_cons_succ, List.getElem_cons_zero, Act.put, List.setIfInBounds_toArray, List.set_cons_zero, List.set_cons_succ]
                  refine wpAnyL_ready (i := 3) (by kernel_rfl) rfl (fun K hK => ?_)
                  clear hS
                  go_simp
                  refine (hcall.out).mono ?_
                  rintro e w5 ⟨a9, c9, rfl, hb5, hl5⟩
                  go_wp2_with fail
                  refine hK.out _ _ (⟨(hb5.block _ hV.1.lt).trans hV.1, fun b h1 h2 => (hb5.block b (by omega)).trans (hV.2 b h1 h2)⟩) (fun hS => ?_)
                  clear hK K
                  try simp only [List.getElem_toArray, List.getElem_cons_succ, List.getElem_cons_zero, Act.put, List.setIfInBounds_toArray, List.set_cons_zero, List.set_cons_succ]
                  have hJ5 := hJV.stay hb5
                  have hM5 := hMV.stay (fun b hS hlt => hb5.block b hlt)
                  have hs5 := hb5.size
                  have hV5 : ∀ b, q0 ≤ b → b < wv.heap.size → w5.heap[b]? = wv.heap[b]? := fun b h1 h2 => (hb5.block b (by omega)).trans (hV.2 b h1 h2)
                  clear hcall hV hJV hMV hlaV
                  refine wpAnyL_ready (i := 4) (by kernel_rfl) rfl (fun K hK => ?_)
                  clear hS
                  go_simp
                  go_wp2_with fail
                  have hal := ((Below.refl w5.heap.size w5).alloc (Nat.le_refl _) (.cells #[.slice a9 x.length c9] 36))
                  have hJ6 := hJ5.stay hal
                  have hM6 := hM5.stay (fun b hS hlt => hal.block b hlt)
                  have hl6 := hl5.stay (fun b hS hlt => hal.block b hlt)
                  have hs6 := World.size_alloc w5 (.cells #[.slice a9 x.length c9] 36)
                  have hn6 : (w5.alloc (.cells #[.slice a9 x.length c9] 36)).cell? ⟨w5.heap.size, 0, none⟩ = some (.slice a9 x.length c9) := (Blk.new w5 #[.slice a9 x.length c9] 36).cell 0 rfl
                  have hV6 : ∀ b, q0 ≤ b → b < wv.heap.size → (w5.alloc (.cells #[.slice a9 x.length c9] 36)).heap[b]? = wv.heap[b]? := fun b h1 h2 => (hal.block b (by omega)).trans (hV5 b h1 h2)
                  refine hK.out _ _ ⟨hJ6.tb, hV6⟩ (fun hS => ?_)
                  clear hK K hJ5 hM5 hl5 hV5 hb5
                  try simp only [List.getElem_toArray, List.getElem_cons_succ, List.getElem_cons_zero, Act.put, List.setIfInBounds_toArray, List.set_cons_zero, List.set_cons_succ]
                  refine wpAnyL_ready (i := 5) (by kernel_rfl) rfl (fun K hK => ?_)
                  clear hS
                  refine wp_pushR (.tmp 61) (.tmp 64) rfl N (fun b => wb.heap.size < b ∧ b < q0) (Fr V0.heap.size w5) _ _ rfl hM6 ?d2 w5.heap.size _ (.slice a9 x.length c9) rfl hn6 hl6 ?d3 hlen ?d5
                  case d2 => intro b hb; rw [hs6]; have := hb.2; omega
                  case d3 => intro b hb; exact ⟨by rw [hs6]; have := hb.2; omega, fun h => by have := h.2; have := hb.1; omega⟩
                  intro v' w' hM' hg hvS
                  have hgs := hg.size
                  rw [hs6] at hgs
                  have hJ8 := Lib.hid (hJ6.push hM' hg (fun g e => by have := hvS g e; exact ⟨this.1, by rw [hs6]; omega⟩) (fun b hb => ⟨hb.1, by have := hb.2; omega⟩) (fun b hb => ⟨by have := hb.1; omega, by have := hb.2; omega⟩))
                  have hV7 : Blk w' wb.heap.size _ _ := (hg.block _ hJ6.tb.lt (fun e => by have := (hvS _ e.symm).1; omega)).trans hJ6.tb
                  have hV8 : ∀ b, q0 ≤ b → b < wv.heap.size → w'.heap[b]? = wv.heap[b]? := fun b h1 h2 => (hg.block b (by rw [hs6]; omega) (fun e => by have := (hvS _ e.symm).2; omega)).trans (hV6 b h1 h2)
                  obtain ⟨ao7, cap7, hv7⟩ := hM'.form
                  rw [List.length_append, List.length_singleton] at hv7
                  subst hv7
                  refine hK.out _ _ ⟨hV7, hV8⟩ (fun hS => ?_)
                  clear hK K hJ6 hM6 hl6 hn6 hM' hg hvS hV6 hV8
                  try simp only [List.getElem_toArray, List.getElem_cons_succ, List.getElem_cons_zero, Act.put, List.setIfInBounds_toArray, List.set_cons_zero, List.set_cons_succ]
                  refine wpAnyL_take (i := 6) (v := ?_) rfl (by kernel_rfl) (by kernel_rfl) (by kernel_rfl) (by kernel_rfl) (by kernel_rfl) (fun _ _ _ h => h) (.inl ⟨by kernel_rfl, fun w' hS => ?_⟩) hS ?_
                  rotate_left
                  ·
                    skip
                    go_simp
                    try with_reducible rfl
                  simp only [List.getElem_toArray, List.getElem_cons_succ, List.getElem_cons_zero, Act.put, List.setIfInBounds_toArray, List.set_cons_zero, List.set_cons_succ]
                  refine wpAnyL_late (i := 7) (by kernel_rfl) rfl (by kernel_rfl) (fun K hK => ?_)
                  clear hS
                  have f1 := hV7.free 1
                  have z0 := hV7.cell 0 rfl
                  have z1 := hV7.cell 1 rfl
                  go_simp
                  go_wp2_with fail
                  refine hK.out _ _ ?_
                  clear hK K f1 hV7 z0 z1
                  try simp only [List.getElem_toArray, List.getElem_cons_succ, List.getElem_cons_zero, Act.put, List.setIfInBounds_toArray, List.set_cons_zero, List.set_cons_succ]
                  refine wpAnyL_done (by kernel_rfl) ?_ _
                  rw [← hx.out] at hJ8
                  go_wp2
                  go_roundw
                  case rel => exact ⟨j + 1, _, hj1.out, by go_num, hJ8⟩
                  case measure => have := hj1.out; simp [intOf]; omega
              · have hji : ¬ (j : Int) < (B.rows.length : Int) := by omega
                obtain rfl : j = B.rows.length := by omega
                rw [← hnext.out] at hJ
                go_wp2
                go_roundw
                case rel => exact ⟨i + 1, _, hi1.out, by go_num, hJ⟩
                case measure => have := hi1.out; simp [intOf]; omega
          · have hki : ¬ (i : Int) < (A.rows.length : Int) := by omega
            obtain rfl : i = A.rows.length := by omega
            rw [rowsIJ_end] at hJ
            have hd := Lib.hid (hJ.out.done (vars := B.vars.foldl addN A.vars) hB4.out (by rw [hn.out]; exact own4.out) (by omega) hsz2.out hq24b.out (by omega))
            have z0 := hJ.out.tb.cell 0 rfl
            have z1 := hJ.out.tb.cell 1 rfl
            have hrb5 : Blk w5 (w.heap.size + 1 + 1) _ _ := (hJ.out.below.block _ hq24lt).trans hq24b.out
            have f1 := Blk.free hrb5
            have g0 := hrb5.cell 0 rfl
            have g1 := hrb5.cell 1 rfl
            obtain ⟨ao9, cap9, hrv⟩ := hJ.out.slice
            subst hrv
            go_wp2
            refine bodyPost_ret (v := .agg #[.slice an n cn, .slice ao9 (joinRows A B).length cap9]) (results_cell_row rfl _ _ (w.heap.size + 1 + 1) 25 _ (0, 0) _ rfl hd.out.1.eq Tryz.underlying25 rfl infoTab) rfl ⟨_, rfl, by rw [hz.out]; exact hd.out.2⟩
      · have h64i : (64 : Int) < ((B.vars.foldl addN A.vars).length : Int) := by omega
        have hz : joinZ A B = ⟨[], []⟩ := by unfold joinZ joinT; rw [hmA, hmB, if_neg h64]; simp
        replace hz := Lib.hid hz
        go_wp2
        refine bodyPost_ret (v := .agg #[.slice none 0 0, .slice none 0 0]) (results_cell_row rfl _ _ (w.heap.size + 1 + 1) 25 _ (0, 0) _ rfl hfin.eq Tryz.underlying25 rfl infoTab) rfl ⟨_, rfl, ?_⟩
        rw [hz.out]
        exact tabO_zero hbf
end Go.Proofs.YtjpondgobogkeaaGreatDoor.tab
