/- The reference: Check. -/
import Derived.Test.YtnocncmjdhlmkaaHRef5
namespace Go.Proofs.Ytnocncmjdhlmkaa.hyp
open Go.ChangeShapes Go.WideShapes Go.ChangeAt Go.RowKit kit
set_option linter.unusedVariables false
set_option linter.unusedSimpArgs false
def anyTo (e : List ByteArray) (bs : List BagD) (m : Nat) : Bool := (bs.take m).any fun b => withinB e b.names
theorem anyTo_succ (e : List ByteArray) (bs : List BagD) (m : Nat) (h : m < bs.length) : anyTo e bs (m + 1) = (anyTo e bs m || withinB e bs[m].names) := by
  unfold anyTo
  rw [List.take_succ_eq_append_getElem h, List.any_append]
  simp
theorem rootsR_succ (bs : List BagD) (x : ByteArray) (n : Nat) : rootsR bs x (n + 1) = rootsR bs x n + (if rootAt bs x n then 1 else 0) := by
  unfold rootsR
  rw [List.range_succ, List.filter_append, List.length_append]
  congr 1
  cases h : rootAt bs x n <;> simp [h]
theorem rootsR_le (bs : List BagD) (x : ByteArray) (n : Nat) : rootsR bs x n ≤ n := by
  have := List.length_filter_le (fun i => rootAt bs x i) (List.range n)
  unfold rootsR
  simpa using this
theorem getD_bag {bs : List BagD} {j : Nat} (h : j < bs.length) : bs.getD j ⟨[], [], 0⟩ = bs[j] := by
  rw [List.getD_eq_getElem?_getD, List.getElem?_eq_getElem h]; rfl
set_option maxRecDepth 100000 in
set_option maxHeartbeats 8000000 in
theorem rcheck_any (w : World) (ao : Option Addr) (cap : Nat) (E : List (List ByteArray)) (bs : List BagD) (lv : Value) (width : Int) (hE : EdgesA w w.heap.size (.slice ao E.length cap) E) (hs : sizeE E ≤ 1000) (hl : E.length ≤ 1048576)
    (hB : BagsA w w.heap.size lv bs) (hbl : bs.length ≤ 1000) (hbs : ∀ b ∈ bs, b.names.length ≤ 1000 ∧ b.edges.length ≤ 400) :
    Calls Try.prog 19 #[.slice ao E.length cap, lv, .int .i64 width] w fun e w' => e = .returned (.bool (refChk E bs width)) ∧ Below w.heap.size w w' := by
  obtain ⟨q, hq⟩ : ∃ q, refChk E bs width = q := ⟨_, rfl⟩
  rw [hq]
  have hmy := may_any w ao cap E hE hs hl
  cases hm : mayR nameB E with
  | false =>
    have hqf : Hid (q = false) := Lib.hid (by rw [← hq]; unfold refChk; rw [hm]; rfl)
    rw [hm] at hmy
    obtain ⟨al, cl, rfl, -⟩ := hB
    replace hmy := Lib.hid hmy
    clear hE hq hm
    go_enter Try.func19, Try.ntmps19
    go_wp2_with fail
    refine hmy.out.mono ?_
    rintro e w1 ⟨rfl, hb⟩
    replace hb := Lib.hid hb
    go_wp2
    go_ret
    exact ⟨ret_bool hqf.out.symm, hb.out⟩
  | true =>
    rw [hm] at hmy
    by_cases hwd : width < 1
    · have hqf : Hid (q = false) := Lib.hid (by rw [← hq]; unfold refChk; rw [hm, decide_eq_false (show ¬ 1 ≤ width by omega)]; rfl)
      obtain ⟨al, cl, rfl, -⟩ := hB
      replace hmy := Lib.hid hmy
      clear hE hq hm
      go_enter Try.func19, Try.ntmps19
      go_wp2_with fail
      refine hmy.out.mono ?_
      rintro e w1 ⟨rfl, hb⟩
      replace hb := Lib.hid hb
      go_wp2
      go_ret
      exact ⟨ret_bool hqf.out.symm, hb.out⟩
    · by_cases hb0 : bs = []
      · have hqf : Hid (q = false) := Lib.hid (by rw [← hq]; unfold refChk; rw [hb0]; simp)
        have hl0 : (bs.length : Int) < 1 := by rw [hb0]; decide
        obtain ⟨al, cl, rfl, -⟩ := hB
        replace hmy := Lib.hid hmy
        replace hb0 := Lib.hid hb0
        clear hE hq hm
        go_enter Try.func19, Try.ntmps19
        go_wp2_with fail
        refine hmy.out.mono ?_
        rintro e w1 ⟨rfl, hb⟩
        replace hb := Lib.hid hb
        go_wp2
        go_ret
        exact ⟨ret_bool hqf.out.symm, hb.out⟩
      · have hl0 : ¬ (bs.length : Int) < 1 := by have := List.length_pos_iff.2 hb0; omega
        have hl9 : ¬ (10000 : Int) < (bs.length : Int) := by omega
        obtain ⟨hm1, hm2, hm3⟩ := may_parts hm
        obtain ⟨A, hA⟩ : ∃ A, allBags E (varsR E) bs width = A := ⟨_, rfl⟩
        obtain ⟨B, hBe⟩ : ∃ B, (E.all fun e => bs.any fun b => withinB e b.names) = B := ⟨_, rfl⟩
        obtain ⟨C, hC⟩ : ∃ C, ((varsR E).all fun x => decide (rootsR bs x bs.length ≤ 1)) = C := ⟨_, rfl⟩
        have hq1 : (A && (B && C)) = q := by
          rw [← hq, ← hA, ← hBe, ← hC]
          unfold refChk
          rw [hm, decide_eq_true (show 1 ≤ width by omega), decide_eq_true hb0]
          simp [Bool.and_assoc]
        have hqA : Hid (A = false → q = false) := Lib.hid fun h => by rw [← hq1, h]; rfl
        have hqB : Hid (B = false → q = false) := Lib.hid fun h => by rw [← hq1, h]; simp
        have hqC : Hid (C = false → q = false) := Lib.hid fun h => by rw [← hq1, h]; simp
        have hqT : Hid (A = true → B = true → C = true → q = true) := Lib.hid fun h1 h2 h3 => by rw [← hq1, h1, h2, h3]; rfl
        have hvs := fun w1 (h : Below w.heap.size w w1) => vars_any w1 ao cap E ((hE.stay (stay_of_below h)).mono h.size) hs hl
        have hnsz : ∀ s ∈ varsR E, s.size ≤ maxLen := fun s hs => by
          obtain ⟨e, he, hv⟩ := vars_mem hs
          obtain ⟨vs, h1, h2, h3⟩ := hE
          obtain ⟨j, hj, rfl⟩ := List.getElem_of_mem he
          exact (h3 j hj (by omega)).size s hv
        replace hmy := Lib.hid hmy
        replace hvs := Lib.hid hvs
        replace hnsz := Lib.hid hnsz
        replace hE := Lib.hid hE
        replace hA := Lib.hid hA
        replace hBe := Lib.hid hBe
        replace hC := Lib.hid hC
        obtain ⟨al, cl, rfl, hbc⟩ := hB
        replace hbc := Lib.hid hbc
        replace hb0 := Lib.hid hb0
        clear hq hq1 hm
        go_enter Try.func19, Try.ntmps19
        go_wp2_with fail
        refine hmy.out.mono ?_
        rintro e w1 ⟨rfl, hb⟩
        replace hb := Lib.hid hb
        have hvs1 := Lib.hid (hvs.out w1 hb.out)
        clear hvs hmy
        go_wp2_with fail
        refine hvs1.out.mono ?_
        rintro e w2 ⟨nv, rfl, hW⟩
        have hN : TextsA w2 w2.heap.size nv (varsR E) := ⟨hW.row, fun s hs => hnsz.out s hs⟩
        have hb2 := Lib.hid (hb.out.trans (hW.below.mono hb.out.size))
        have hE2 : Hid (EdgesA w2 w2.heap.size (.slice ao E.length cap) E) := Lib.hid ((hE.out.stay (stay_of_below hb2.out)).mono hb2.out.size)
        have hbc2 : Hid (∀ j (hj : j < bs.length), ∃ b off vv ve, al = some ⟨b, off, none⟩ ∧ w2.cell? ⟨b, off + j * 3, none⟩ = some vv ∧ w2.cell? ⟨b, off + j * 3 + 1, none⟩ = some ve ∧ w2.cell? ⟨b, off + j * 3 + 2, none⟩ = some (.int .i64 bs[j].parent) ∧ TextsA w2 w2.heap.size vv bs[j].names ∧ RowA w2 w2.heap.size ve (numsV bs[j].edges)) := Lib.hid fun j hj => by
          obtain ⟨b, off, vv, ve, h1, -, h3, h4, h5, h6, h7⟩ := hbc.out j hj
          have hst := stay_of_below hb2.out
          exact ⟨b, off, vv, ve, h1, hst.cell h3, hst.cell h4, hst.cell h5, (h6.stay hst).mono hb2.out.size, (h7.stay hst).mono hb2.out.size⟩
        obtain ⟨an, cn, rfl, hnc⟩ := hN.form
        generalize hns : varsR E = ns at *
        replace hns := Lib.hid hns
        have hbg := Lib.hid (fun V (h : Below w2.heap.size w2 V) (j : Nat) (hj : j < bs.length) vv ve (h6 : TextsA w2 w2.heap.size vv bs[j].names) (h7 : RowA w2 w2.heap.size ve (numsV bs[j].edges)) =>
          bagged_any V ao cap E ((hE2.out.stay (stay_of_below h)).mono h.size) an cn ns ((hN.stay (stay_of_below h)).mono h.size) vv ve bs[j].parent bs[j].names bs[j].edges ((h6.stay (stay_of_below h)).mono h.size) ((h7.stay (stay_of_below h)).mono h.size) j width (by omega) (by omega) (hbs _ (List.getElem_mem hj)).1 (hbs _ (List.getElem_mem hj)).2 (by omega) (fun e he => by have := (hm2 e he).1; omega))
        replace hnc := Lib.hid hnc
        clear hW hvs1 hN hE hbc hb
        go_wp2
        go_loopw [8] (fun i wr => ∃ k : Nat, k ≤ bs.length ∧ i = .int .i64 (k : Int) ∧ Hid (Below w2.heap.size w2 wr) ∧ Hid (∀ j (hj : j < bs.length), j < k → baggedR E ns bs[j] j width = true)) (fun i _ => bs.length - (intOf i).toNat)
        case atStart => exact ⟨0, by omega, rfl, Lib.hid (Below.refl _ _), Lib.hid fun j _ h => by omega⟩
        case round =>
          obtain ⟨k, hk, rfl, hbw, hin⟩ := hrel
          by_cases hlt : k < bs.length
          · have hki : (k : Int) < (bs.length : Int) := by omega
            have hk1 := Lib.hid (show k + 1 ≤ bs.length from hlt)
            obtain ⟨b, off, vv, ve, rfl, c0, c1, c2, h6, h7⟩ := hbc2.out k hlt
            have hst := stay_of_below hbw.out
            replace c0 := hst.cell c0
            replace c1 := hst.cell c1
            replace c2 := hst.cell c2
            have hcall : Hid (Calls Try.prog 42 #[.slice ao E.length cap, .slice an ns.length cn, .agg #[vv, ve, .int .i64 bs[k].parent], .int .i64 (k : Int), .int .i64 width] wr fun e w' => e = .returned (.bool (baggedR E ns bs[k] k width)) ∧ Below wr.heap.size wr w') := Lib.hid (hbg.out wr hbw.out k hlt vv ve h6 h7)
            have hno : Hid (baggedR E ns bs[k] k width = false → q = false) := Lib.hid fun h => hqA.out (by
              rw [← hA.out]
              unfold allBags
              rw [List.all_eq_false]
              exact ⟨k, List.mem_range.2 hlt, fun h2 => Bool.noConfusion (h.symm.trans ((congrArg (fun b => baggedR E ns b k width) (getD_bag hlt)).symm.trans h2))⟩)
            have hyes : Hid (baggedR E ns bs[k] k width = true → ∀ j (hj : j < bs.length), j < k + 1 → baggedR E ns bs[j] j width = true) := Lib.hid fun h j hj hjk => by
              by_cases he : j = k
              · subst he; exact h
              · exact hin.out j hj (by omega)
            obtain ⟨av, cv, rfl, -⟩ := h6.form
            obtain ⟨ae, ce, rfl, -⟩ := h7.form
            rw [numsV_length] at c1 hcall
            clear h6 h7 hst hin
            generalize bs[k].parent = p at *
            generalize bs[k].names.length = nl at *
            generalize bs[k].edges.length = el at *
            generalize baggedR E ns bs[k] k width = r at *
            clear hlt
            go_wp2_with fail
            refine hcall.out.mono ?_
            rintro e w3 ⟨rfl, hb3⟩
            have hb3w := Lib.hid (hbw.out.trans (hb3.mono hbw.out.size))
            clear hcall hb3
            cases r with
            | false =>
              have hqf := Lib.hid (hno.out rfl)
              have hfin := Lib.hid (hb2.out.trans (hb3w.out.mono hb2.out.size))
              go_wp2
              go_ret
              exact ⟨ret_bool hqf.out.symm, hfin.out⟩
            | true =>
              have hin2 := Lib.hid (hyes.out rfl)
              clear hno hyes
              go_wp2
              go_roundw
              case rel => exact ⟨k + 1, hk1.out, by go_num, hb3w, hin2⟩
              case measure => have := hk1.out; simp [intOf]; omega
          · have hki : ¬ (k : Int) < (bs.length : Int) := by omega
            obtain rfl : k = bs.length := by omega
            have hAt : Hid (A = true) := Lib.hid (by
              rw [← hA.out]
              unfold allBags
              rw [List.all_eq_true]
              intro j hj
              have hj := List.mem_range.1 hj
              rw [getD_bag hj]
              exact hin.out j hj hj)
            have hpar : Hid (∀ j (hj : j < bs.length), parOK j bs[j].parent = true) := Lib.hid fun j hj => by
              have h := hin.out j hj hj
              unfold baggedR at h
              simp only [Bool.and_eq_true] at h
              exact h.1.1.1.1
            clear hin hbg hlt hqA hA
            generalize wr = w3 at *
            go_wp2
            go_loopw [9] (fun i wr => ∃ n : Nat, n ≤ E.length ∧ i = .int .i64 (n : Int) ∧ Hid (Below w2.heap.size w2 wr) ∧ Hid (∀ j (hj : j < E.length), j < n → anyTo E[j] bs bs.length = true)) (fun i _ => E.length - (intOf i).toNat)
            case atStart => exact ⟨0, by omega, rfl, hbw, Lib.hid fun j _ h => by omega⟩
            case round =>
              clear hbw
              obtain ⟨n, hn, rfl, hbw, hin⟩ := hrel
              by_cases hlt : n < E.length
              · have hni : (n : Int) < (E.length : Int) := by omega
                have hn1 := Lib.hid (show n + 1 ≤ E.length from hlt)
                obtain ⟨ao2, cap2, hvv, hec⟩ := hE2.out.form
                obtain ⟨rfl, rfl⟩ : ao = ao2 ∧ cap = cap2 := by injection hvv with h1 h2 h3; exact ⟨h1, h3⟩
                obtain ⟨b2, off2, u, rfl, -, hc2, hEt⟩ := hec n hlt
                obtain ⟨au, cu, rfl, hEc⟩ := hEt.form
                have hxl := (hm2 _ (List.getElem_mem hlt)).1
                have hall2 : Hid (anyTo E[n] bs bs.length = true → ∀ j (hj : j < E.length), j < n + 1 → anyTo E[j] bs bs.length = true) := Lib.hid fun h j hj hjn => by
                  by_cases he : j = n
                  · subst he; exact h
                  · exact hin.out j hj (by omega)
                have hno2 : Hid (anyTo E[n] bs bs.length = false → q = false) := Lib.hid fun h => hqB.out (by
                  rw [← hBe.out, List.all_eq_false]
                  exact ⟨_, List.getElem_mem hlt, fun h2 => by unfold anyTo at h; rw [List.take_length] at h; exact Bool.noConfusion (h.symm.trans h2)⟩)
                replace hEc := Lib.hid hEc
                clear hvv hec hEt hin
                generalize E[n] = x at *
                have hx0 : Hid (.bool false = (.bool (anyTo x bs 0) : Value)) := Lib.hid (by unfold anyTo; simp)
                go_wp2
                generalize wr = w4 at *
                go_loopw [10, 11] (fun s k wr => ∃ m : Nat, m ≤ bs.length ∧ k = .int .i64 (m : Int) ∧ Hid (s = .bool (anyTo x bs m)) ∧ Hid (Below w2.heap.size w2 wr)) (fun _ k _ => bs.length - (intOf k).toNat)
                case atStart => exact ⟨0, by omega, rfl, Lib.hid hx0.out, hbw⟩
                case round =>
                  clear hbw hx0
                  obtain ⟨m, hmm, rfl, hsv, hbw⟩ := hrel
                  by_cases hltm : m < bs.length
                  · have hmi : (m : Int) < (bs.length : Int) := by omega
                    have hmm1 := Lib.hid (show m + 1 ≤ bs.length from hltm)
                    obtain ⟨b, off, vv, ve, hal, c0, c1, c2, h6, h7⟩ := hbc2.out m hltm
                    have hsucc := Lib.hid (anyTo_succ x bs m hltm)
                    have hnl := (hbs _ (List.getElem_mem hltm)).1
                    obtain ⟨av, cv, rfl, hvc⟩ := h6.form
                    have hbd : Hid (Below w2.heap.size w2 wr.drew) := Lib.hid (hbw.out.trans ⟨rfl, rfl, rfl, Nat.le_refl _, fun _ _ => rfl⟩)
                    have hwi := fun V (h : Below w2.heap.size w2 V) => within_any V au cu x av cv bs[m].names (by omega) (by omega)
                      (fun j hj => by
                        obtain ⟨b, off, h1, h2, h3⟩ := hEc.out j hj
                        exact ⟨b, off, h1, Nat.lt_of_lt_of_le h2 h.size, (stay_of_below h).cell h3⟩)
                      (fun j hj => by
                        obtain ⟨b, off, h1, h2, h3⟩ := hvc j hj
                        exact ⟨b, off, h1, Nat.lt_of_lt_of_le h2 h.size, (stay_of_below h).cell h3⟩)
                    clear h6 h7 hvc
                    subst hal
                    generalize withinB x bs[m].names = r at *
                    generalize bs[m].parent = p at *
                    generalize hnn : bs[m].names.length = nl at *
                    replace hnn := Lib.hid hnn
                    replace hwi := Lib.hid hwi
                    generalize hav : anyTo x bs m = s at *
                    have hav2 := hav
                    have hsv2 := hsv.out
                    subst hsv2
                    clear hsv hav
                    replace hav2 := Lib.hid hav2
                    clear hltm hbw
                    go_wp2_with fail
                    have hwiV := Lib.hid (hwi.out wr.drew hbd.out)
                    cases s with
                    | true =>
                      have hnx : Hid ((.bool true : Value) = .bool (anyTo x bs (m + 1))) := Lib.hid (by rw [hsucc.out]; rfl)
                      refine wp_region_held_drew (S := fun V => Below w2.heap.size w2 V) (by kernel_rfl) hbd.out (fun hS => ?_)
                      generalize wr.drew = V0 at *
                      refine wpAnyH_take (i := 0) (v := ?_) rfl (by kernel_rfl) (by kernel_rfl) (by kernel_rfl) (fun _ _ _ h => h) (.inl ⟨by kernel_rfl, fun w' hS => ?_⟩) hS ?_
                      rotate_left
                      ·
                        skip
                        go_simp
                        try with_reducible rfl
                      simp only [List.getElem_toArray, List.getElem_cons_succ, List.getElem_cons_zero, Act.put, List.setIfInBounds_toArray, List.set_cons_zero, List.set_cons_succ]
                      refine wpAnyH_take (i := 1) (v := ?_) rfl (by kernel_rfl) (by kernel_rfl) (by kernel_rfl) (fun _ _ _ h => h) (.inl ⟨by kernel_rfl, fun w' hS => ?_⟩) hS ?_
                      rotate_left
                      ·
                        skip
                        go_simp
                        try with_reducible rfl
                      simp only [List.getElem_toArray, List.getElem_cons_succ, List.getElem_cons_zero, Act.put, List.setIfInBounds_toArray, List.set_cons_zero, List.set_cons_succ]
                      refine wpAnyH_take (i := 2) (v := undef) rfl (by kernel_rfl) (by kernel_rfl) (by kernel_rfl) (fun _ _ _ h => h) (.inr ⟨by kernel_rfl, rfl⟩) hS ?_
                      simp only [List.getElem_toArray, List.getElem_cons_succ, List.getElem_cons_zero, Act.put, List.setIfInBounds_toArray, List.set_cons_zero, List.set_cons_succ]
                      refine wpAnyH_take (i := 3) (v := undef) rfl (by kernel_rfl) (by kernel_rfl) (by kernel_rfl) (fun _ _ _ h => h) (.inr ⟨by kernel_rfl, rfl⟩) hS ?_
                      simp only [List.getElem_toArray, List.getElem_cons_succ, List.getElem_cons_zero, Act.put, List.setIfInBounds_toArray, List.set_cons_zero, List.set_cons_succ]
                      refine wpAnyH_take (i := 4) (v := undef) rfl (by kernel_rfl) (by kernel_rfl) (by kernel_rfl) (fun _ _ _ h => h) (.inr ⟨by kernel_rfl, rfl⟩) hS ?_
                      simp only [List.getElem_toArray, List.getElem_cons_succ, List.getElem_cons_zero, Act.put, List.setIfInBounds_toArray, List.set_cons_zero, List.set_cons_succ]
                      refine wpAnyH_take (i := 5) (v := undef) rfl (by kernel_rfl) (by kernel_rfl) (by kernel_rfl) (fun _ _ _ h => h) (.inr ⟨by kernel_rfl, rfl⟩) hS ?_
                      simp only [List.getElem_toArray, List.getElem_cons_succ, List.getElem_cons_zero, Act.put, List.setIfInBounds_toArray, List.set_cons_zero, List.set_cons_succ]
                      refine wpAnyH_take (i := 6) (v := undef) rfl (by kernel_rfl) (by kernel_rfl) (by kernel_rfl) (fun _ _ _ h => h) (.inr ⟨by kernel_rfl, rfl⟩) hS ?_
                      simp only [List.getElem_toArray, List.getElem_cons_succ, List.getElem_cons_zero, Act.put, List.setIfInBounds_toArray, List.set_cons_zero, List.set_cons_succ]
                      refine wpAnyH_take (i := 7) (v := undef) rfl (by kernel_rfl) (by kernel_rfl) (by kernel_rfl) (fun _ _ _ h => h) (.inr ⟨by kernel_rfl, rfl⟩) hS ?_
                      simp only [List.getElem_toArray, List.getElem_cons_succ, List.getElem_cons_zero, Act.put, List.setIfInBounds_toArray, List.set_cons_zero, List.set_cons_succ]
                      refine wpAnyH_take (i := 8) (v := undef) rfl (by kernel_rfl) (by kernel_rfl) (by kernel_rfl) (fun _ _ _ h => h) (.inr ⟨by kernel_rfl, rfl⟩) hS ?_
                      simp only [List.getElem_toArray, List.getElem_cons_succ, List.getElem_cons_zero, Act.put, List.setIfInBounds_toArray, List.set_cons_zero, List.set_cons_succ]
                      refine wpAnyH_take (i := 9) (v := undef) rfl (by kernel_rfl) (by kernel_rfl) (by kernel_rfl) (fun _ _ _ h => h) (.inr ⟨by kernel_rfl, rfl⟩) hS ?_
                      simp only [List.getElem_toArray, List.getElem_cons_succ, List.getElem_cons_zero, Act.put, List.setIfInBounds_toArray, List.set_cons_zero, List.set_cons_succ]
                      refine wpAnyH_take (i := 10) (v := undef) rfl (by kernel_rfl) (by kernel_rfl) (by kernel_rfl) (fun _ _ _ h => h) (.inr ⟨by kernel_rfl, rfl⟩) hS ?_
                      simp only [List.getElem_toArray, List.getElem_cons_succ, List.getElem_cons_zero, Act.put, List.setIfInBounds_toArray, List.set_cons_zero, List.set_cons_succ]
                      refine wpAnyH_take (i := 11) (v := undef) rfl (by kernel_rfl) (by kernel_rfl) (by kernel_rfl) (fun _ _ _ h => h) (.inr ⟨by kernel_rfl, rfl⟩) hS ?_
                      simp only [List.getElem_toArray, List.getElem_cons_succ, List.getElem_cons_zero, Act.put, List.setIfInBounds_toArray, List.set_cons_zero, List.set_cons_succ]
                      refine wpAnyH_take (i := 12) (v := ?_) rfl (by kernel_rfl) (by kernel_rfl) (by kernel_rfl) (fun _ _ _ h => h) (.inl ⟨by kernel_rfl, fun w' hS => ?_⟩) hS ?_
                      rotate_left
                      ·
                        skip
                        go_simp
                        try with_reducible rfl
                      simp only [List.getElem_toArray, List.getElem_cons_succ, List.getElem_cons_zero, Act.put, List.setIfInBounds_toArray, List.set_cons_zero, List.set_cons_succ]
                      refine wpAnyH_take (i := 13) (v := ?_) rfl (by kernel_rfl) (by kernel_rfl) (by kernel_rfl) (fun _ _ _ h => h) (.inl ⟨by kernel_rfl, fun w' hS => ?_⟩) hS ?_
                      rotate_left
                      ·
                        skip
                        go_simp
                        try with_reducible rfl
                      simp only [List.getElem_toArray, List.getElem_cons_succ, List.getElem_cons_zero, Act.put, List.setIfInBounds_toArray, List.set_cons_zero, List.set_cons_succ]
                      refine wpAnyH_done (by kernel_rfl) ?_ _
                      clear hS
                      go_wp2
                      go_roundw
                      case rel => exact ⟨m + 1, hmm1.out, by go_num, hnx, hbd⟩
                      case measure => have := hmm1.out; simp [intOf]; omega
                    | false =>
                      have hnx : Hid ((.bool r : Value) = .bool (anyTo x bs (m + 1))) := Lib.hid (by rw [hsucc.out]; rfl)
                      refine wp_region_held_drew (S := fun V => Below w2.heap.size w2 V) (by kernel_rfl) hbd.out (fun hS => ?_)
                      generalize wr.drew = V0 at *
                      refine wpAnyH_take (i := 0) (v := ?_) rfl (by kernel_rfl) (by kernel_rfl) (by kernel_rfl) (fun _ _ _ h => h) (.inl ⟨by kernel_rfl, fun w' hS => ?_⟩) hS ?_
                      rotate_left
                      ·
                        have q1 := (stay_of_below hS).cell c0; have q2 := (stay_of_below hS).cell hc2
                        go_simp
                        try with_reducible rfl
                      simp only [List.getElem_toArray, List.getElem_cons_succ, List.getElem_cons_zero, Act.put, List.setIfInBounds_toArray, List.set_cons_zero, List.set_cons_succ]
                      refine wpAnyH_take (i := 1) (v := ?_) rfl (by kernel_rfl) (by kernel_rfl) (by kernel_rfl) (fun _ _ _ h => h) (.inl ⟨by kernel_rfl, fun w' hS => ?_⟩) hS ?_
                      rotate_left
                      ·
                        have q1 := (stay_of_below hS).cell c0; have q2 := (stay_of_below hS).cell hc2
                        go_simp
                        try with_reducible rfl
                      simp only [List.getElem_toArray, List.getElem_cons_succ, List.getElem_cons_zero, Act.put, List.setIfInBounds_toArray, List.set_cons_zero, List.set_cons_succ]
                      refine wpAnyH_take (i := 2) (v := ?_) rfl (by kernel_rfl) (by kernel_rfl) (by kernel_rfl) (fun _ _ _ h => h) (.inl ⟨by kernel_rfl, fun w' hS => ?_⟩) hS ?_
                      rotate_left
                      ·
                        have q1 := (stay_of_below hS).cell c0; have q2 := (stay_of_below hS).cell hc2
                        go_simp
                        try with_reducible rfl
                      simp only [List.getElem_toArray, List.getElem_cons_succ, List.getElem_cons_zero, Act.put, List.setIfInBounds_toArray, List.set_cons_zero, List.set_cons_succ]
                      refine wpAnyH_take (i := 3) (v := ?_) rfl (by kernel_rfl) (by kernel_rfl) (by kernel_rfl) (fun _ _ _ h => h) (.inl ⟨by kernel_rfl, fun w' hS => ?_⟩) hS ?_
                      rotate_left
                      ·
                        have q1 := (stay_of_below hS).cell c0; have q2 := (stay_of_below hS).cell hc2
                        go_simp
                        try with_reducible rfl
                      simp only [List.getElem_toArray, List.getElem_cons_succ, List.getElem_cons_zero, Act.put, List.setIfInBounds_toArray, List.set_cons_zero, List.set_cons_succ]
                      refine wpAnyH_take (i := 4) (v := ?_) rfl (by kernel_rfl) (by kernel_rfl) (by kernel_rfl) (fun _ _ _ h => h) (.inl ⟨by kernel_rfl, fun w' hS => ?_⟩) hS ?_
                      rotate_left
                      ·
                        have q1 := (stay_of_below hS).cell c0; have q2 := (stay_of_below hS).cell hc2
                        go_simp
                        try with_reducible rfl
                      simp only [List.getElem_toArray, List.getElem_cons_succ, List.getElem_cons_zero, Act.put, List.setIfInBounds_toArray, List.set_cons_zero, List.set_cons_succ]
                      refine wpAnyH_take (i := 5) (v := ?_) rfl (by kernel_rfl) (by kernel_rfl) (by kernel_rfl) (fun _ _ _ h => h) (.inl ⟨by kernel_rfl, fun w' hS => ?_⟩) hS ?_
                      rotate_left
                      ·
                        have q1 := (stay_of_below hS).cell c0; have q2 := (stay_of_below hS).cell hc2
                        go_simp
                        try with_reducible rfl
                      simp only [List.getElem_toArray, List.getElem_cons_succ, List.getElem_cons_zero, Act.put, List.setIfInBounds_toArray, List.set_cons_zero, List.set_cons_succ]
                      refine wpAnyH_take (i := 6) (v := ?_) rfl (by kernel_rfl) (by kernel_rfl) (by kernel_rfl) (fun _ _ _ h => h) (.inl ⟨by kernel_rfl, fun w' hS => ?_⟩) hS ?_
                      rotate_left
                      ·
                        have q1 := (stay_of_below hS).cell c0; have q2 := (stay_of_below hS).cell hc2
                        go_simp
                        try with_reducible rfl
                      simp only [List.getElem_toArray, List.getElem_cons_succ, List.getElem_cons_zero, Act.put, List.setIfInBounds_toArray, List.set_cons_zero, List.set_cons_succ]
                      refine wpAnyH_take (i := 7) (v := ?_) rfl (by kernel_rfl) (by kernel_rfl) (by kernel_rfl) (fun _ _ _ h => h) (.inl ⟨by kernel_rfl, fun w' hS => ?_⟩) hS ?_
                      rotate_left
                      ·
                        have q1 := (stay_of_below hS).cell c0; have q2 := (stay_of_below hS).cell hc2
                        go_simp
                        try with_reducible rfl
                      simp only [List.getElem_toArray, List.getElem_cons_succ, List.getElem_cons_zero, Act.put, List.setIfInBounds_toArray, List.set_cons_zero, List.set_cons_succ]
                      refine wpAnyH_take (i := 8) (v := ?_) rfl (by kernel_rfl) (by kernel_rfl) (by kernel_rfl) (fun _ _ _ h => h) (.inl ⟨by kernel_rfl, fun w' hS => ?_⟩) hS ?_
                      rotate_left
                      ·
                        have q1 := (stay_of_below hS).cell c0; have q2 := (stay_of_below hS).cell hc2
                        go_simp
                        try with_reducible rfl
                      simp only [List.getElem_toArray, List.getElem_cons_succ, List.getElem_cons_zero, Act.put, List.setIfInBounds_toArray, List.set_cons_zero, List.set_cons_succ]
                      refine wpAnyH_take (i := 9) (v := ?_) rfl (by kernel_rfl) (by kernel_rfl) (by kernel_rfl) (fun _ _ _ h => h) (.inl ⟨by kernel_rfl, fun w' hS => ?_⟩) hS ?_
                      rotate_left
                      ·
                        have q1 := (stay_of_below hS).cell c0; have q2 := (stay_of_below hS).cell hc2
                        go_simp
                        try with_reducible rfl
                      simp only [List.getElem_toArray, List.getElem_cons_succ, List.getElem_cons_zero, Act.put, List.setIfInBounds_toArray, List.set_cons_zero, List.set_cons_succ]
                      refine wpAnyH_take (i := 10) (v := ?_) rfl (by kernel_rfl) (by kernel_rfl) (by kernel_rfl) (fun _ _ _ h => h) (.inl ⟨by kernel_rfl, fun w' hS => ?_⟩) hS ?_
                      rotate_left
                      ·
                        have q1 := (stay_of_below hS).cell c0; have q2 := (stay_of_below hS).cell hc2
                        go_simp
                        try with_reducible rfl
                      simp only [List.getElem_toArray, List.getElem_cons_succ, List.getElem_cons_zero, Act.put, List.setIfInBounds_toArray, List.set_cons_zero, List.set_cons_succ]
                      refine wpAnyH_ready (rs := [11]) (by kernel_rfl) (by simp) ?_
                      refine AllReadyH.cons rfl (fun K hK => ?_) AllReadyH.nil
                      clear hS
                      go_simp
                      refine (hwiV.out).mono ?_
                      rintro e w7 ⟨rfl, rfl⟩
                      go_wp2_with fail
                      refine hK.out _ _ (hbd.out) (fun hS => ?_)
                      clear hK K
                      try simp only [List.getElem_toArray, List.getElem_cons_succ, List.getElem_cons_zero, Act.put, List.setIfInBounds_toArray, List.set_cons_zero, List.set_cons_succ]
                      refine wpAnyH_take (i := 12) (v := ?_) rfl (by kernel_rfl) (by kernel_rfl) (by kernel_rfl) (fun _ _ _ h => h) (.inl ⟨by kernel_rfl, fun w' hS => ?_⟩) hS ?_
                      rotate_left
                      ·
                        skip
                        go_simp
                        try with_reducible rfl
                      simp only [List.getElem_toArray, List.getElem_cons_succ, List.getElem_cons_zero, Act.put, List.setIfInBounds_toArray, List.set_cons_zero, List.set_cons_succ]
                      refine wpAnyH_take (i := 13) (v := ?_) rfl (by kernel_rfl) (by kernel_rfl) (by kernel_rfl) (fun _ _ _ h => h) (.inl ⟨by kernel_rfl, fun w' hS => ?_⟩) hS ?_
                      rotate_left
                      ·
                        skip
                        go_simp
                        try with_reducible rfl
                      simp only [List.getElem_toArray, List.getElem_cons_succ, List.getElem_cons_zero, Act.put, List.setIfInBounds_toArray, List.set_cons_zero, List.set_cons_succ]
                      refine wpAnyH_done (by kernel_rfl) ?_ _
                      clear hS
                      go_wp2
                      go_roundw
                      case rel => exact ⟨m + 1, hmm1.out, by go_num, hnx, hbd⟩
                      case measure => have := hmm1.out; simp [intOf]; omega
                  · have hmi : ¬ (m : Int) < (bs.length : Int) := by omega
                    obtain rfl : m = bs.length := by omega
                    have hsv2 := hsv.out
                    generalize anyTo x bs bs.length = s at *
                    subst hsv2
                    clear hsv hltm
                    cases s with
                    | false =>
                      have hqf := Lib.hid (hno2.out rfl)
                      have hfin := Lib.hid (hb2.out.trans (hbw.out.mono hb2.out.size))
                      go_wp2
                      go_ret
                      exact ⟨ret_bool hqf.out.symm, hfin.out⟩
                    | true =>
                      have hin2 := Lib.hid (hall2.out rfl)
                      clear hno2 hall2
                      go_wp2
                      go_roundw
                      case rel => exact ⟨n + 1, hn1.out, by go_num, hbw, hin2⟩
                      case measure => have := hn1.out; simp [intOf]; omega
              · have hni : ¬ (n : Int) < (E.length : Int) := by omega
                obtain rfl : n = E.length := by omega
                have hBt : Hid (B = true) := Lib.hid (by
                  rw [← hBe.out, List.all_eq_true]
                  intro e he
                  obtain ⟨j, hj, rfl⟩ := List.getElem_of_mem he
                  have := hin.out j hj hj
                  unfold anyTo at this
                  rw [List.take_length] at this
                  exact this)
                clear hin hlt hqB hBe
                generalize wr = w4 at *
                go_wp2
                go_loopw [12] (fun i wr => ∃ n : Nat, n ≤ ns.length ∧ i = .int .i64 (n : Int) ∧ Hid (Below w2.heap.size w2 wr) ∧ Hid (∀ j (hj : j < ns.length), j < n → rootsR bs ns[j] bs.length ≤ 1)) (fun i _ => ns.length - (intOf i).toNat)
                case atStart => exact ⟨0, by omega, rfl, hbw, Lib.hid fun j _ h => by omega⟩
                case round =>
                  clear hbw
                  obtain ⟨n, hn, rfl, hbw, hin⟩ := hrel
                  by_cases hlt : n < ns.length
                  · have hni : (n : Int) < (ns.length : Int) := by omega
                    have hn1 := Lib.hid (show n + 1 ≤ ns.length from hlt)
                    obtain ⟨b2, off2, rfl, -, hc2⟩ := hnc.out n hlt
                    have hall2 : Hid (rootsR bs ns[n] bs.length ≤ 1 → ∀ j (hj : j < ns.length), j < n + 1 → rootsR bs ns[j] bs.length ≤ 1) := Lib.hid fun h j hj hjn => by
                      by_cases he : j = n
                      · subst he; exact h
                      · exact hin.out j hj (by omega)
                    have hno2 : Hid (¬ rootsR bs ns[n] bs.length ≤ 1 → q = false) := Lib.hid fun h => hqC.out (by
                      rw [← hC.out, List.all_eq_false]
                      exact ⟨_, List.getElem_mem hlt, fun h2 => Bool.noConfusion ((decide_eq_false h).symm.trans h2)⟩)
                    clear hin
                    generalize ns[n] = x at *
                    go_wp2
                    generalize wr = w5 at *
                    go_loopw [13, 14] (fun s k wr => ∃ m : Nat, m ≤ bs.length ∧ k = .int .i64 (m : Int) ∧ s = .int .i64 (rootsR bs x m : Nat) ∧ Hid (Below w2.heap.size w2 wr)) (fun _ k _ => bs.length - (intOf k).toNat)
                    case atStart => exact ⟨0, by omega, rfl, rfl, hbw⟩
                    case round =>
                      clear hbw
                      obtain ⟨m, hmm, rfl, rfl, hbw⟩ := hrel
                      have hrl := rootsR_le bs x m
                      by_cases hltm : m < bs.length
                      · have hmi : (m : Int) < (bs.length : Int) := by omega
                        have hmm1 := Lib.hid (show m + 1 ≤ bs.length from hltm)
                        obtain ⟨b, off, vv, ve, hal, c0, c1, c2, h6, h7⟩ := hbc2.out m hltm
                        have hsucc := Lib.hid (rootsR_succ bs x m)
                        have hat : Hid (rootAt bs x m = (decide (x ∈ bs[m].names) && (decide (bs[m].parent < 0) || !decide (x ∈ (bs.getD bs[m].parent.toNat ⟨[], [], 0⟩).names)))) := Lib.hid (by unfold rootAt; rw [getD_bag hltm]; rfl)
                        have hnl := (hbs _ (List.getElem_mem hltm)).1
                        have hpp := hpar.out m hltm
                        obtain ⟨av, cv, rfl, hvc⟩ := h6.form
                        have hbd : Hid (Below w2.heap.size w2 wr.drew) := Lib.hid (hbw.out.trans ⟨rfl, rfl, rfl, Nat.le_refl _, fun _ _ => rfl⟩)
                        have hi1 := fun V (h : Below w2.heap.size w2 V) => rindex_any V av cv bs[m].names x (by omega)
                          (fun j hj => by
                            obtain ⟨b, off, h1, h2, h3⟩ := hvc j hj
                            exact ⟨b, off, h1, Nat.lt_of_lt_of_le h2 h.size, (stay_of_below h).cell h3⟩)
                        clear h6 h7 hvc
                        have hneg1 := idxI_neg bs[m].names x
                        generalize idxI bs[m].names x = i1 at *
                        generalize hd1 : decide (x ∈ bs[m].names) = d1 at *
                        clear hd1
                        generalize bs[m].parent = p at *
                        replace hi1 := Lib.hid (hi1 wr.drew hbd.out)
                        generalize bs[m].names.length = nl at *
                        cases d1 with
                        | false =>
                          have hz1 : ¬ (0 : Int) ≤ i1 := by
                            have : i1 < 0 := by simpa using hneg1
                            omega
                          have hnx : Hid ((.int .i64 (rootsR bs x m : Nat) : Value) = .int .i64 (rootsR bs x (m + 1) : Nat)) := Lib.hid (by rw [hsucc.out, hat.out]; rfl)
                          clear hneg1 hsucc hat hpp
                          subst hal
                          clear hltm hbw
                          go_wp2_with fail
                          refine wp_region_held_drew (S := fun V => Below w2.heap.size w2 V) (by kernel_rfl) hbd.out (fun hS => ?_)
                          generalize wr.drew = V0 at *
                          refine wpAnyH_take (i := 0) (v := ?_) rfl (by kernel_rfl) (by kernel_rfl) (by kernel_rfl) (fun _ _ _ h => h) (.inl ⟨by kernel_rfl, fun w' hS => ?_⟩) hS ?_
                          rotate_left
                          ·
                            have q1 := (stay_of_below hS).cell c0; have q2 := (stay_of_below hS).cell hc2
                            go_simp
                            try with_reducible rfl
                          simp only [List.getElem_toArray, List.getElem_cons_succ, List.getElem_cons_zero, Act.put, List.setIfInBounds_toArray, List.set_cons_zero, List.set_cons_succ]
                          refine wpAnyH_take (i := 1) (v := ?_) rfl (by kernel_rfl) (by kernel_rfl) (by kernel_rfl) (fun _ _ _ h => h) (.inl ⟨by kernel_rfl, fun w' hS => ?_⟩) hS ?_
                          rotate_left
                          ·
                            have q1 := (stay_of_below hS).cell c0; have q2 := (stay_of_below hS).cell hc2
                            go_simp
                            try with_reducible rfl
                          simp only [List.getElem_toArray, List.getElem_cons_succ, List.getElem_cons_zero, Act.put, List.setIfInBounds_toArray, List.set_cons_zero, List.set_cons_succ]
                          refine wpAnyH_take (i := 2) (v := ?_) rfl (by kernel_rfl) (by kernel_rfl) (by kernel_rfl) (fun _ _ _ h => h) (.inl ⟨by kernel_rfl, fun w' hS => ?_⟩) hS ?_
                          rotate_left
                          ·
                            have q1 := (stay_of_below hS).cell c0; have q2 := (stay_of_below hS).cell hc2
                            go_simp
                            try with_reducible rfl
                          simp only [List.getElem_toArray, List.getElem_cons_succ, List.getElem_cons_zero, Act.put, List.setIfInBounds_toArray, List.set_cons_zero, List.set_cons_succ]
                          refine wpAnyH_take (i := 3) (v := ?_) rfl (by kernel_rfl) (by kernel_rfl) (by kernel_rfl) (fun _ _ _ h => h) (.inl ⟨by kernel_rfl, fun w' hS => ?_⟩) hS ?_
                          rotate_left
                          ·
                            have q1 := (stay_of_below hS).cell c0; have q2 := (stay_of_below hS).cell hc2
                            go_simp
                            try with_reducible rfl
                          simp only [List.getElem_toArray, List.getElem_cons_succ, List.getElem_cons_zero, Act.put, List.setIfInBounds_toArray, List.set_cons_zero, List.set_cons_succ]
                          refine wpAnyH_take (i := 4) (v := ?_) rfl (by kernel_rfl) (by kernel_rfl) (by kernel_rfl) (fun _ _ _ h => h) (.inl ⟨by kernel_rfl, fun w' hS => ?_⟩) hS ?_
                          rotate_left
                          ·
                            have q1 := (stay_of_below hS).cell c0; have q2 := (stay_of_below hS).cell hc2
                            go_simp
                            try with_reducible rfl
                          simp only [List.getElem_toArray, List.getElem_cons_succ, List.getElem_cons_zero, Act.put, List.setIfInBounds_toArray, List.set_cons_zero, List.set_cons_succ]
                          refine wpAnyH_take (i := 5) (v := ?_) rfl (by kernel_rfl) (by kernel_rfl) (by kernel_rfl) (fun _ _ _ h => h) (.inl ⟨by kernel_rfl, fun w' hS => ?_⟩) hS ?_
                          rotate_left
                          ·
                            have q1 := (stay_of_below hS).cell c0; have q2 := (stay_of_below hS).cell hc2
                            go_simp
                            try with_reducible rfl
                          simp only [List.getElem_toArray, List.getElem_cons_succ, List.getElem_cons_zero, Act.put, List.setIfInBounds_toArray, List.set_cons_zero, List.set_cons_succ]
                          refine wpAnyH_take (i := 6) (v := ?_) rfl (by kernel_rfl) (by kernel_rfl) (by kernel_rfl) (fun _ _ _ h => h) (.inl ⟨by kernel_rfl, fun w' hS => ?_⟩) hS ?_
                          rotate_left
                          ·
                            have q1 := (stay_of_below hS).cell c0; have q2 := (stay_of_below hS).cell hc2
                            go_simp
                            try with_reducible rfl
                          simp only [List.getElem_toArray, List.getElem_cons_succ, List.getElem_cons_zero, Act.put, List.setIfInBounds_toArray, List.set_cons_zero, List.set_cons_succ]
                          refine wpAnyH_take (i := 7) (v := ?_) rfl (by kernel_rfl) (by kernel_rfl) (by kernel_rfl) (fun _ _ _ h => h) (.inl ⟨by kernel_rfl, fun w' hS => ?_⟩) hS ?_
                          rotate_left
                          ·
                            have q1 := (stay_of_below hS).cell c0; have q2 := (stay_of_below hS).cell hc2
                            go_simp
                            try with_reducible rfl
                          simp only [List.getElem_toArray, List.getElem_cons_succ, List.getElem_cons_zero, Act.put, List.setIfInBounds_toArray, List.set_cons_zero, List.set_cons_succ]
                          refine wpAnyH_take (i := 8) (v := ?_) rfl (by kernel_rfl) (by kernel_rfl) (by kernel_rfl) (fun _ _ _ h => h) (.inl ⟨by kernel_rfl, fun w' hS => ?_⟩) hS ?_
                          rotate_left
                          ·
                            have q1 := (stay_of_below hS).cell c0; have q2 := (stay_of_below hS).cell hc2
                            go_simp
                            try with_reducible rfl
                          simp only [List.getElem_toArray, List.getElem_cons_succ, List.getElem_cons_zero, Act.put, List.setIfInBounds_toArray, List.set_cons_zero, List.set_cons_succ]
                          refine wpAnyH_ready (rs := [9]) (by kernel_rfl) (by simp) ?_
                          refine AllReadyH.cons rfl (fun K hK => ?_) AllReadyH.nil
                          clear hS
                          go_simp
                          refine (hi1.out).mono ?_
                          rintro e w7 ⟨rfl, rfl⟩
                          go_wp2_with fail
                          refine hK.out _ _ (hbd.out) (fun hS => ?_)
                          clear hK K
                          try simp only [List.getElem_toArray, List.getElem_cons_succ, List.getElem_cons_zero, Act.put, List.setIfInBounds_toArray, List.set_cons_zero, List.set_cons_succ]
                          refine wpAnyH_take (i := 10) (v := ?_) rfl (by kernel_rfl) (by kernel_rfl) (by kernel_rfl) (fun _ _ _ h => h) (.inl ⟨by kernel_rfl, fun w' hS => ?_⟩) hS ?_
                          rotate_left
                          ·
                            have g1 : ¬ (0 : Int) ≤ i1 := (by omega); have g2 : i1 < 0 := (by omega)
                            go_simp
                            try with_reducible rfl
                          simp only [List.getElem_toArray, List.getElem_cons_succ, List.getElem_cons_zero, Act.put, List.setIfInBounds_toArray, List.set_cons_zero, List.set_cons_succ]
                          refine wpAnyH_take (i := 11) (v := ?_) rfl (by kernel_rfl) (by kernel_rfl) (by kernel_rfl) (fun _ _ _ h => h) (.inl ⟨by kernel_rfl, fun w' hS => ?_⟩) hS ?_
                          rotate_left
                          ·
                            have g1 : ¬ (0 : Int) ≤ i1 := (by omega); have g2 : i1 < 0 := (by omega)
                            go_simp
                            try with_reducible rfl
                          simp only [List.getElem_toArray, List.getElem_cons_succ, List.getElem_cons_zero, Act.put, List.setIfInBounds_toArray, List.set_cons_zero, List.set_cons_succ]
                          refine wpAnyH_take (i := 12) (v := undef) rfl (by kernel_rfl) (by kernel_rfl) (by kernel_rfl) (fun _ _ _ h => h) (.inr ⟨by kernel_rfl, rfl⟩) hS ?_
                          simp only [List.getElem_toArray, List.getElem_cons_succ, List.getElem_cons_zero, Act.put, List.setIfInBounds_toArray, List.set_cons_zero, List.set_cons_succ]
                          refine wpAnyH_take (i := 13) (v := undef) rfl (by kernel_rfl) (by kernel_rfl) (by kernel_rfl) (fun _ _ _ h => h) (.inr ⟨by kernel_rfl, rfl⟩) hS ?_
                          simp only [List.getElem_toArray, List.getElem_cons_succ, List.getElem_cons_zero, Act.put, List.setIfInBounds_toArray, List.set_cons_zero, List.set_cons_succ]
                          refine wpAnyH_take (i := 14) (v := undef) rfl (by kernel_rfl) (by kernel_rfl) (by kernel_rfl) (fun _ _ _ h => h) (.inr ⟨by kernel_rfl, rfl⟩) hS ?_
                          simp only [List.getElem_toArray, List.getElem_cons_succ, List.getElem_cons_zero, Act.put, List.setIfInBounds_toArray, List.set_cons_zero, List.set_cons_succ]
                          refine wpAnyH_take (i := 15) (v := undef) rfl (by kernel_rfl) (by kernel_rfl) (by kernel_rfl) (fun _ _ _ h => h) (.inr ⟨by kernel_rfl, rfl⟩) hS ?_
                          simp only [List.getElem_toArray, List.getElem_cons_succ, List.getElem_cons_zero, Act.put, List.setIfInBounds_toArray, List.set_cons_zero, List.set_cons_succ]
                          refine wpAnyH_take (i := 16) (v := undef) rfl (by kernel_rfl) (by kernel_rfl) (by kernel_rfl) (fun _ _ _ h => h) (.inr ⟨by kernel_rfl, rfl⟩) hS ?_
                          simp only [List.getElem_toArray, List.getElem_cons_succ, List.getElem_cons_zero, Act.put, List.setIfInBounds_toArray, List.set_cons_zero, List.set_cons_succ]
                          refine wpAnyH_take (i := 17) (v := undef) rfl (by kernel_rfl) (by kernel_rfl) (by kernel_rfl) (fun _ _ _ h => h) (.inr ⟨by kernel_rfl, rfl⟩) hS ?_
                          simp only [List.getElem_toArray, List.getElem_cons_succ, List.getElem_cons_zero, Act.put, List.setIfInBounds_toArray, List.set_cons_zero, List.set_cons_succ]
                          refine wpAnyH_take (i := 18) (v := undef) rfl (by kernel_rfl) (by kernel_rfl) (by kernel_rfl) (fun _ _ _ h => h) (.inr ⟨by kernel_rfl, rfl⟩) hS ?_
                          simp only [List.getElem_toArray, List.getElem_cons_succ, List.getElem_cons_zero, Act.put, List.setIfInBounds_toArray, List.set_cons_zero, List.set_cons_succ]
                          refine wpAnyH_take (i := 19) (v := undef) rfl (by kernel_rfl) (by kernel_rfl) (by kernel_rfl) (fun _ _ _ h => h) (.inr ⟨by kernel_rfl, rfl⟩) hS ?_
                          simp only [List.getElem_toArray, List.getElem_cons_succ, List.getElem_cons_zero, Act.put, List.setIfInBounds_toArray, List.set_cons_zero, List.set_cons_succ]
                          refine wpAnyH_take (i := 20) (v := undef) rfl (by kernel_rfl) (by kernel_rfl) (by kernel_rfl) (fun _ _ _ h => h) (.inr ⟨by kernel_rfl, rfl⟩) hS ?_
                          simp only [List.getElem_toArray, List.getElem_cons_succ, List.getElem_cons_zero, Act.put, List.setIfInBounds_toArray, List.set_cons_zero, List.set_cons_succ]
                          refine wpAnyH_take (i := 21) (v := undef) rfl (by kernel_rfl) (by kernel_rfl) (by kernel_rfl) (fun _ _ _ h => h) (.inr ⟨by kernel_rfl, rfl⟩) hS ?_
                          simp only [List.getElem_toArray, List.getElem_cons_succ, List.getElem_cons_zero, Act.put, List.setIfInBounds_toArray, List.set_cons_zero, List.set_cons_succ]
                          refine wpAnyH_take (i := 22) (v := undef) rfl (by kernel_rfl) (by kernel_rfl) (by kernel_rfl) (fun _ _ _ h => h) (.inr ⟨by kernel_rfl, rfl⟩) hS ?_
                          simp only [List.getElem_toArray, List.getElem_cons_succ, List.getElem_cons_zero, Act.put, List.setIfInBounds_toArray, List.set_cons_zero, List.set_cons_succ]
                          refine wpAnyH_take (i := 23) (v := undef) rfl (by kernel_rfl) (by kernel_rfl) (by kernel_rfl) (fun _ _ _ h => h) (.inr ⟨by kernel_rfl, rfl⟩) hS ?_
                          simp only [List.getElem_toArray, List.getElem_cons_succ, List.getElem_cons_zero, Act.put, List.setIfInBounds_toArray, List.set_cons_zero, List.set_cons_succ]
                          refine wpAnyH_take (i := 24) (v := undef) rfl (by kernel_rfl) (by kernel_rfl) (by kernel_rfl) (fun _ _ _ h => h) (.inr ⟨by kernel_rfl, rfl⟩) hS ?_
                          simp only [List.getElem_toArray, List.getElem_cons_succ, List.getElem_cons_zero, Act.put, List.setIfInBounds_toArray, List.set_cons_zero, List.set_cons_succ]
                          refine wpAnyH_take (i := 25) (v := undef) rfl (by kernel_rfl) (by kernel_rfl) (by kernel_rfl) (fun _ _ _ h => h) (.inr ⟨by kernel_rfl, rfl⟩) hS ?_
                          simp only [List.getElem_toArray, List.getElem_cons_succ, List.getElem_cons_zero, Act.put, List.setIfInBounds_toArray, List.set_cons_zero, List.set_cons_succ]
                          refine wpAnyH_take (i := 26) (v := undef) rfl (by kernel_rfl) (by kernel_rfl) (by kernel_rfl) (fun _ _ _ h => h) (.inr ⟨by kernel_rfl, rfl⟩) hS ?_
                          simp only [List.getElem_toArray, List.getElem_cons_succ, List.getElem_cons_zero, Act.put, List.setIfInBounds_toArray, List.set_cons_zero, List.set_cons_succ]
                          refine wpAnyH_take (i := 27) (v := undef) rfl (by kernel_rfl) (by kernel_rfl) (by kernel_rfl) (fun _ _ _ h => h) (.inr ⟨by kernel_rfl, rfl⟩) hS ?_
                          simp only [List.getElem_toArray, List.getElem_cons_succ, List.getElem_cons_zero, Act.put, List.setIfInBounds_toArray, List.set_cons_zero, List.set_cons_succ]
                          refine wpAnyH_take (i := 28) (v := undef) rfl (by kernel_rfl) (by kernel_rfl) (by kernel_rfl) (fun _ _ _ h => h) (.inr ⟨by kernel_rfl, rfl⟩) hS ?_
                          simp only [List.getElem_toArray, List.getElem_cons_succ, List.getElem_cons_zero, Act.put, List.setIfInBounds_toArray, List.set_cons_zero, List.set_cons_succ]
                          refine wpAnyH_take (i := 29) (v := undef) rfl (by kernel_rfl) (by kernel_rfl) (by kernel_rfl) (fun _ _ _ h => h) (.inr ⟨by kernel_rfl, rfl⟩) hS ?_
                          simp only [List.getElem_toArray, List.getElem_cons_succ, List.getElem_cons_zero, Act.put, List.setIfInBounds_toArray, List.set_cons_zero, List.set_cons_succ]
                          refine wpAnyH_take (i := 30) (v := undef) rfl (by kernel_rfl) (by kernel_rfl) (by kernel_rfl) (fun _ _ _ h => h) (.inr ⟨by kernel_rfl, rfl⟩) hS ?_
                          simp only [List.getElem_toArray, List.getElem_cons_succ, List.getElem_cons_zero, Act.put, List.setIfInBounds_toArray, List.set_cons_zero, List.set_cons_succ]
                          refine wpAnyH_take (i := 31) (v := undef) rfl (by kernel_rfl) (by kernel_rfl) (by kernel_rfl) (fun _ _ _ h => h) (.inr ⟨by kernel_rfl, rfl⟩) hS ?_
                          simp only [List.getElem_toArray, List.getElem_cons_succ, List.getElem_cons_zero, Act.put, List.setIfInBounds_toArray, List.set_cons_zero, List.set_cons_succ]
                          refine wpAnyH_take (i := 32) (v := undef) rfl (by kernel_rfl) (by kernel_rfl) (by kernel_rfl) (fun _ _ _ h => h) (.inr ⟨by kernel_rfl, rfl⟩) hS ?_
                          simp only [List.getElem_toArray, List.getElem_cons_succ, List.getElem_cons_zero, Act.put, List.setIfInBounds_toArray, List.set_cons_zero, List.set_cons_succ]
                          refine wpAnyH_take (i := 33) (v := undef) rfl (by kernel_rfl) (by kernel_rfl) (by kernel_rfl) (fun _ _ _ h => h) (.inr ⟨by kernel_rfl, rfl⟩) hS ?_
                          simp only [List.getElem_toArray, List.getElem_cons_succ, List.getElem_cons_zero, Act.put, List.setIfInBounds_toArray, List.set_cons_zero, List.set_cons_succ]
                          refine wpAnyH_take (i := 34) (v := undef) rfl (by kernel_rfl) (by kernel_rfl) (by kernel_rfl) (fun _ _ _ h => h) (.inr ⟨by kernel_rfl, rfl⟩) hS ?_
                          simp only [List.getElem_toArray, List.getElem_cons_succ, List.getElem_cons_zero, Act.put, List.setIfInBounds_toArray, List.set_cons_zero, List.set_cons_succ]
                          refine wpAnyH_take (i := 35) (v := ?_) rfl (by kernel_rfl) (by kernel_rfl) (by kernel_rfl) (fun _ _ _ h => h) (.inl ⟨by kernel_rfl, fun w' hS => ?_⟩) hS ?_
                          rotate_left
                          ·
                            have g1 : ¬ (0 : Int) ≤ i1 := (by omega); have g2 : i1 < 0 := (by omega)
                            go_simp
                            try with_reducible rfl
                          simp only [List.getElem_toArray, List.getElem_cons_succ, List.getElem_cons_zero, Act.put, List.setIfInBounds_toArray, List.set_cons_zero, List.set_cons_succ]
                          refine wpAnyH_done (by kernel_rfl) ?_ _
                          clear hS
                          go_wp2
                          go_roundw
                          case rel => exact ⟨m + 1, hmm1.out, by go_num, hnx.out, hbd⟩
                          case measure => have := hmm1.out; simp [intOf]; omega
                        | true =>
                          have hz1 : (0 : Int) ≤ i1 := by
                            have : ¬ i1 < 0 := by simpa using hneg1
                            omega
                          clear hneg1
                          by_cases hp0 : p < 0
                          · have hnx : Hid ((.int .i64 ((rootsR bs x m : Nat) + 1 : Int) : Value) = .int .i64 (rootsR bs x (m + 1) : Nat)) := Lib.hid (by rw [hsucc.out, hat.out, decide_eq_true hp0]; simp)
                            clear hsucc hat hpp
                            subst hal
                            clear hltm hbw
                            go_wp2_with fail
                            refine wp_region_held_drew (S := fun V => Below w2.heap.size w2 V) (by kernel_rfl) hbd.out (fun hS => ?_)
                            generalize wr.drew = V0 at *
                            refine wpAnyH_take (i := 0) (v := ?_) rfl (by kernel_rfl) (by kernel_rfl) (by kernel_rfl) (fun _ _ _ h => h) (.inl ⟨by kernel_rfl, fun w' hS => ?_⟩) hS ?_
                            rotate_left
                            ·
                              have q1 := (stay_of_below hS).cell c0; have q2 := (stay_of_below hS).cell hc2
                              go_simp
                              try with_reducible rfl
                            simp only [List.getElem_toArray, List.getElem_cons_succ, List.getElem_cons_zero, Act.put, List.setIfInBounds_toArray, List.set_cons_zero, List.set_cons_succ]
                            refine wpAnyH_take (i := 1) (v := ?_) rfl (by kernel_rfl) (by kernel_rfl) (by kernel_rfl) (fun _ _ _ h => h) (.inl ⟨by kernel_rfl, fun w' hS => ?_⟩) hS ?_
                            rotate_left
                            ·
                              have q1 := (stay_of_below hS).cell c0; have q2 := (stay_of_below hS).cell hc2
                              go_simp
                              try with_reducible rfl
                            simp only [List.getElem_toArray, List.getElem_cons_succ, List.getElem_cons_zero, Act.put, List.setIfInBounds_toArray, List.set_cons_zero, List.set_cons_succ]
                            refine wpAnyH_take (i := 2) (v := ?_) rfl (by kernel_rfl) (by kernel_rfl) (by kernel_rfl) (fun _ _ _ h => h) (.inl ⟨by kernel_rfl, fun w' hS => ?_⟩) hS ?_
                            rotate_left
                            ·
                              have q1 := (stay_of_below hS).cell c0; have q2 := (stay_of_below hS).cell hc2
                              go_simp
                              try with_reducible rfl
                            simp only [List.getElem_toArray, List.getElem_cons_succ, List.getElem_cons_zero, Act.put, List.setIfInBounds_toArray, List.set_cons_zero, List.set_cons_succ]
                            refine wpAnyH_take (i := 3) (v := ?_) rfl (by kernel_rfl) (by kernel_rfl) (by kernel_rfl) (fun _ _ _ h => h) (.inl ⟨by kernel_rfl, fun w' hS => ?_⟩) hS ?_
                            rotate_left
                            ·
                              have q1 := (stay_of_below hS).cell c0; have q2 := (stay_of_below hS).cell hc2
                              go_simp
                              try with_reducible rfl
                            simp only [List.getElem_toArray, List.getElem_cons_succ, List.getElem_cons_zero, Act.put, List.setIfInBounds_toArray, List.set_cons_zero, List.set_cons_succ]
                            refine wpAnyH_take (i := 4) (v := ?_) rfl (by kernel_rfl) (by kernel_rfl) (by kernel_rfl) (fun _ _ _ h => h) (.inl ⟨by kernel_rfl, fun w' hS => ?_⟩) hS ?_
                            rotate_left
                            ·
                              have q1 := (stay_of_below hS).cell c0; have q2 := (stay_of_below hS).cell hc2
                              go_simp
                              try with_reducible rfl
                            simp only [List.getElem_toArray, List.getElem_cons_succ, List.getElem_cons_zero, Act.put, List.setIfInBounds_toArray, List.set_cons_zero, List.set_cons_succ]
                            refine wpAnyH_take (i := 5) (v := ?_) rfl (by kernel_rfl) (by kernel_rfl) (by kernel_rfl) (fun _ _ _ h => h) (.inl ⟨by kernel_rfl, fun w' hS => ?_⟩) hS ?_
                            rotate_left
                            ·
                              have q1 := (stay_of_below hS).cell c0; have q2 := (stay_of_below hS).cell hc2
                              go_simp
                              try with_reducible rfl
                            simp only [List.getElem_toArray, List.getElem_cons_succ, List.getElem_cons_zero, Act.put, List.setIfInBounds_toArray, List.set_cons_zero, List.set_cons_succ]
                            refine wpAnyH_take (i := 6) (v := ?_) rfl (by kernel_rfl) (by kernel_rfl) (by kernel_rfl) (fun _ _ _ h => h) (.inl ⟨by kernel_rfl, fun w' hS => ?_⟩) hS ?_
                            rotate_left
                            ·
                              have q1 := (stay_of_below hS).cell c0; have q2 := (stay_of_below hS).cell hc2
                              go_simp
                              try with_reducible rfl
                            simp only [List.getElem_toArray, List.getElem_cons_succ, List.getElem_cons_zero, Act.put, List.setIfInBounds_toArray, List.set_cons_zero, List.set_cons_succ]
                            refine wpAnyH_take (i := 7) (v := ?_) rfl (by kernel_rfl) (by kernel_rfl) (by kernel_rfl) (fun _ _ _ h => h) (.inl ⟨by kernel_rfl, fun w' hS => ?_⟩) hS ?_
                            rotate_left
                            ·
                              have q1 := (stay_of_below hS).cell c0; have q2 := (stay_of_below hS).cell hc2
                              go_simp
                              try with_reducible rfl
                            simp only [List.getElem_toArray, List.getElem_cons_succ, List.getElem_cons_zero, Act.put, List.setIfInBounds_toArray, List.set_cons_zero, List.set_cons_succ]
                            refine wpAnyH_take (i := 8) (v := ?_) rfl (by kernel_rfl) (by kernel_rfl) (by kernel_rfl) (fun _ _ _ h => h) (.inl ⟨by kernel_rfl, fun w' hS => ?_⟩) hS ?_
                            rotate_left
                            ·
                              have q1 := (stay_of_below hS).cell c0; have q2 := (stay_of_below hS).cell hc2
                              go_simp
                              try with_reducible rfl
                            simp only [List.getElem_toArray, List.getElem_cons_succ, List.getElem_cons_zero, Act.put, List.setIfInBounds_toArray, List.set_cons_zero, List.set_cons_succ]
                            refine wpAnyH_ready (rs := [9]) (by kernel_rfl) (by simp) ?_
                            refine AllReadyH.cons rfl (fun K hK => ?_) AllReadyH.nil
                            clear hS
                            go_simp
                            refine (hi1.out).mono ?_
                            rintro e w7 ⟨rfl, rfl⟩
                            go_wp2_with fail
                            refine hK.out _ _ (hbd.out) (fun hS => ?_)
                            clear hK K
                            try simp only [List.getElem_toArray, List.getElem_cons_succ, List.getElem_cons_zero, Act.put, List.setIfInBounds_toArray, List.set_cons_zero, List.set_cons_succ]
                            refine wpAnyH_take (i := 10) (v := ?_) rfl (by kernel_rfl) (by kernel_rfl) (by kernel_rfl) (fun _ _ _ h => h) (.inl ⟨by kernel_rfl, fun w' hS => ?_⟩) hS ?_
                            rotate_left
                            ·
                              have q1 := (stay_of_below hS).cell c2; have g1 : (0 : Int) ≤ i1 := (by omega); have g2 : p < 0 := (by omega)
                              go_simp
                              try with_reducible rfl
                            simp only [List.getElem_toArray, List.getElem_cons_succ, List.getElem_cons_zero, Act.put, List.setIfInBounds_toArray, List.set_cons_zero, List.set_cons_succ]
                            refine wpAnyH_take (i := 11) (v := ?_) rfl (by kernel_rfl) (by kernel_rfl) (by kernel_rfl) (fun _ _ _ h => h) (.inl ⟨by kernel_rfl, fun w' hS => ?_⟩) hS ?_
                            rotate_left
                            ·
                              have q1 := (stay_of_below hS).cell c2; have g1 : (0 : Int) ≤ i1 := (by omega); have g2 : p < 0 := (by omega)
                              go_simp
                              try with_reducible rfl
                            simp only [List.getElem_toArray, List.getElem_cons_succ, List.getElem_cons_zero, Act.put, List.setIfInBounds_toArray, List.set_cons_zero, List.set_cons_succ]
                            refine wpAnyH_take (i := 12) (v := ?_) rfl (by kernel_rfl) (by kernel_rfl) (by kernel_rfl) (fun _ _ _ h => h) (.inl ⟨by kernel_rfl, fun w' hS => ?_⟩) hS ?_
                            rotate_left
                            ·
                              have q1 := (stay_of_below hS).cell c2; have g1 : (0 : Int) ≤ i1 := (by omega); have g2 : p < 0 := (by omega)
                              go_simp
                              try with_reducible rfl
                            simp only [List.getElem_toArray, List.getElem_cons_succ, List.getElem_cons_zero, Act.put, List.setIfInBounds_toArray, List.set_cons_zero, List.set_cons_succ]
                            refine wpAnyH_take (i := 13) (v := ?_) rfl (by kernel_rfl) (by kernel_rfl) (by kernel_rfl) (fun _ _ _ h => h) (.inl ⟨by kernel_rfl, fun w' hS => ?_⟩) hS ?_
                            rotate_left
                            ·
                              have q1 := (stay_of_below hS).cell c2; have g1 : (0 : Int) ≤ i1 := (by omega); have g2 : p < 0 := (by omega)
                              go_simp
                              try with_reducible rfl
                            simp only [List.getElem_toArray, List.getElem_cons_succ, List.getElem_cons_zero, Act.put, List.setIfInBounds_toArray, List.set_cons_zero, List.set_cons_succ]
                            refine wpAnyH_take (i := 14) (v := ?_) rfl (by kernel_rfl) (by kernel_rfl) (by kernel_rfl) (fun _ _ _ h => h) (.inl ⟨by kernel_rfl, fun w' hS => ?_⟩) hS ?_
                            rotate_left
                            ·
                              have q1 := (stay_of_below hS).cell c2; have g1 : (0 : Int) ≤ i1 := (by omega); have g2 : p < 0 := (by omega)
                              go_simp
                              try with_reducible rfl
                            simp only [List.getElem_toArray, List.getElem_cons_succ, List.getElem_cons_zero, Act.put, List.setIfInBounds_toArray, List.set_cons_zero, List.set_cons_succ]
                            refine wpAnyH_take (i := 15) (v := ?_) rfl (by kernel_rfl) (by kernel_rfl) (by kernel_rfl) (fun _ _ _ h => h) (.inl ⟨by kernel_rfl, fun w' hS => ?_⟩) hS ?_
                            rotate_left
                            ·
                              have q1 := (stay_of_below hS).cell c2; have g1 : (0 : Int) ≤ i1 := (by omega); have g2 : p < 0 := (by omega)
                              go_simp
                              try with_reducible rfl
                            simp only [List.getElem_toArray, List.getElem_cons_succ, List.getElem_cons_zero, Act.put, List.setIfInBounds_toArray, List.set_cons_zero, List.set_cons_succ]
                            refine wpAnyH_take (i := 16) (v := ?_) rfl (by kernel_rfl) (by kernel_rfl) (by kernel_rfl) (fun _ _ _ h => h) (.inl ⟨by kernel_rfl, fun w' hS => ?_⟩) hS ?_
                            rotate_left
                            ·
                              have q1 := (stay_of_below hS).cell c2; have g1 : (0 : Int) ≤ i1 := (by omega); have g2 : p < 0 := (by omega)
                              go_simp
                              try with_reducible rfl
                            simp only [List.getElem_toArray, List.getElem_cons_succ, List.getElem_cons_zero, Act.put, List.setIfInBounds_toArray, List.set_cons_zero, List.set_cons_succ]
                            refine wpAnyH_take (i := 17) (v := ?_) rfl (by kernel_rfl) (by kernel_rfl) (by kernel_rfl) (fun _ _ _ h => h) (.inl ⟨by kernel_rfl, fun w' hS => ?_⟩) hS ?_
                            rotate_left
                            ·
                              have q1 := (stay_of_below hS).cell c2; have g1 : (0 : Int) ≤ i1 := (by omega); have g2 : p < 0 := (by omega)
                              go_simp
                              try with_reducible rfl
                            simp only [List.getElem_toArray, List.getElem_cons_succ, List.getElem_cons_zero, Act.put, List.setIfInBounds_toArray, List.set_cons_zero, List.set_cons_succ]
                            refine wpAnyH_take (i := 18) (v := ?_) rfl (by kernel_rfl) (by kernel_rfl) (by kernel_rfl) (fun _ _ _ h => h) (.inl ⟨by kernel_rfl, fun w' hS => ?_⟩) hS ?_
                            rotate_left
                            ·
                              have q1 := (stay_of_below hS).cell c2; have g1 : (0 : Int) ≤ i1 := (by omega); have g2 : p < 0 := (by omega)
                              go_simp
                              try with_reducible rfl
                            simp only [List.getElem_toArray, List.getElem_cons_succ, List.getElem_cons_zero, Act.put, List.setIfInBounds_toArray, List.set_cons_zero, List.set_cons_succ]
                            refine wpAnyH_take (i := 19) (v := undef) rfl (by kernel_rfl) (by kernel_rfl) (by kernel_rfl) (fun _ _ _ h => h) (.inr ⟨by kernel_rfl, rfl⟩) hS ?_
                            simp only [List.getElem_toArray, List.getElem_cons_succ, List.getElem_cons_zero, Act.put, List.setIfInBounds_toArray, List.set_cons_zero, List.set_cons_succ]
                            refine wpAnyH_take (i := 20) (v := undef) rfl (by kernel_rfl) (by kernel_rfl) (by kernel_rfl) (fun _ _ _ h => h) (.inr ⟨by kernel_rfl, rfl⟩) hS ?_
                            simp only [List.getElem_toArray, List.getElem_cons_succ, List.getElem_cons_zero, Act.put, List.setIfInBounds_toArray, List.set_cons_zero, List.set_cons_succ]
                            refine wpAnyH_take (i := 21) (v := undef) rfl (by kernel_rfl) (by kernel_rfl) (by kernel_rfl) (fun _ _ _ h => h) (.inr ⟨by kernel_rfl, rfl⟩) hS ?_
                            simp only [List.getElem_toArray, List.getElem_cons_succ, List.getElem_cons_zero, Act.put, List.setIfInBounds_toArray, List.set_cons_zero, List.set_cons_succ]
                            refine wpAnyH_take (i := 22) (v := undef) rfl (by kernel_rfl) (by kernel_rfl) (by kernel_rfl) (fun _ _ _ h => h) (.inr ⟨by kernel_rfl, rfl⟩) hS ?_
                            simp only [List.getElem_toArray, List.getElem_cons_succ, List.getElem_cons_zero, Act.put, List.setIfInBounds_toArray, List.set_cons_zero, List.set_cons_succ]
                            refine wpAnyH_take (i := 23) (v := undef) rfl (by kernel_rfl) (by kernel_rfl) (by kernel_rfl) (fun _ _ _ h => h) (.inr ⟨by kernel_rfl, rfl⟩) hS ?_
                            simp only [List.getElem_toArray, List.getElem_cons_succ, List.getElem_cons_zero, Act.put, List.setIfInBounds_toArray, List.set_cons_zero, List.set_cons_succ]
                            refine wpAnyH_take (i := 24) (v := undef) rfl (by kernel_rfl) (by kernel_rfl) (by kernel_rfl) (fun _ _ _ h => h) (.inr ⟨by kernel_rfl, rfl⟩) hS ?_
                            simp only [List.getElem_toArray, List.getElem_cons_succ, List.getElem_cons_zero, Act.put, List.setIfInBounds_toArray, List.set_cons_zero, List.set_cons_succ]
                            refine wpAnyH_take (i := 25) (v := undef) rfl (by kernel_rfl) (by kernel_rfl) (by kernel_rfl) (fun _ _ _ h => h) (.inr ⟨by kernel_rfl, rfl⟩) hS ?_
                            simp only [List.getElem_toArray, List.getElem_cons_succ, List.getElem_cons_zero, Act.put, List.setIfInBounds_toArray, List.set_cons_zero, List.set_cons_succ]
                            refine wpAnyH_take (i := 26) (v := undef) rfl (by kernel_rfl) (by kernel_rfl) (by kernel_rfl) (fun _ _ _ h => h) (.inr ⟨by kernel_rfl, rfl⟩) hS ?_
                            simp only [List.getElem_toArray, List.getElem_cons_succ, List.getElem_cons_zero, Act.put, List.setIfInBounds_toArray, List.set_cons_zero, List.set_cons_succ]
                            refine wpAnyH_take (i := 27) (v := undef) rfl (by kernel_rfl) (by kernel_rfl) (by kernel_rfl) (fun _ _ _ h => h) (.inr ⟨by kernel_rfl, rfl⟩) hS ?_
                            simp only [List.getElem_toArray, List.getElem_cons_succ, List.getElem_cons_zero, Act.put, List.setIfInBounds_toArray, List.set_cons_zero, List.set_cons_succ]
                            refine wpAnyH_take (i := 28) (v := undef) rfl (by kernel_rfl) (by kernel_rfl) (by kernel_rfl) (fun _ _ _ h => h) (.inr ⟨by kernel_rfl, rfl⟩) hS ?_
                            simp only [List.getElem_toArray, List.getElem_cons_succ, List.getElem_cons_zero, Act.put, List.setIfInBounds_toArray, List.set_cons_zero, List.set_cons_succ]
                            refine wpAnyH_take (i := 29) (v := undef) rfl (by kernel_rfl) (by kernel_rfl) (by kernel_rfl) (fun _ _ _ h => h) (.inr ⟨by kernel_rfl, rfl⟩) hS ?_
                            simp only [List.getElem_toArray, List.getElem_cons_succ, List.getElem_cons_zero, Act.put, List.setIfInBounds_toArray, List.set_cons_zero, List.set_cons_succ]
                            refine wpAnyH_take (i := 30) (v := undef) rfl (by kernel_rfl) (by kernel_rfl) (by kernel_rfl) (fun _ _ _ h => h) (.inr ⟨by kernel_rfl, rfl⟩) hS ?_
                            simp only [List.getElem_toArray, List.getElem_cons_succ, List.getElem_cons_zero, Act.put, List.setIfInBounds_toArray, List.set_cons_zero, List.set_cons_succ]
                            refine wpAnyH_take (i := 31) (v := undef) rfl (by kernel_rfl) (by kernel_rfl) (by kernel_rfl) (fun _ _ _ h => h) (.inr ⟨by kernel_rfl, rfl⟩) hS ?_
                            simp only [List.getElem_toArray, List.getElem_cons_succ, List.getElem_cons_zero, Act.put, List.setIfInBounds_toArray, List.set_cons_zero, List.set_cons_succ]
                            refine wpAnyH_take (i := 32) (v := undef) rfl (by kernel_rfl) (by kernel_rfl) (by kernel_rfl) (fun _ _ _ h => h) (.inr ⟨by kernel_rfl, rfl⟩) hS ?_
                            simp only [List.getElem_toArray, List.getElem_cons_succ, List.getElem_cons_zero, Act.put, List.setIfInBounds_toArray, List.set_cons_zero, List.set_cons_succ]
                            refine wpAnyH_take (i := 33) (v := undef) rfl (by kernel_rfl) (by kernel_rfl) (by kernel_rfl) (fun _ _ _ h => h) (.inr ⟨by kernel_rfl, rfl⟩) hS ?_
                            simp only [List.getElem_toArray, List.getElem_cons_succ, List.getElem_cons_zero, Act.put, List.setIfInBounds_toArray, List.set_cons_zero, List.set_cons_succ]
                            refine wpAnyH_take (i := 34) (v := ?_) rfl (by kernel_rfl) (by kernel_rfl) (by kernel_rfl) (fun _ _ _ h => h) (.inl ⟨by kernel_rfl, fun w' hS => ?_⟩) hS ?_
                            rotate_left
                            ·
                              have q1 := (stay_of_below hS).cell c2; have g1 : (0 : Int) ≤ i1 := (by omega); have g2 : p < 0 := (by omega)
                              go_simp
                              try with_reducible rfl
                            simp only [List.getElem_toArray, List.getElem_cons_succ, List.getElem_cons_zero, Act.put, List.setIfInBounds_toArray, List.set_cons_zero, List.set_cons_succ]
                            refine wpAnyH_take (i := 35) (v := ?_) rfl (by kernel_rfl) (by kernel_rfl) (by kernel_rfl) (fun _ _ _ h => h) (.inl ⟨by kernel_rfl, fun w' hS => ?_⟩) hS ?_
                            rotate_left
                            ·
                              have q1 := (stay_of_below hS).cell c2; have g1 : (0 : Int) ≤ i1 := (by omega); have g2 : p < 0 := (by omega)
                              go_simp
                              try with_reducible rfl
                            simp only [List.getElem_toArray, List.getElem_cons_succ, List.getElem_cons_zero, Act.put, List.setIfInBounds_toArray, List.set_cons_zero, List.set_cons_succ]
                            refine wpAnyH_done (by kernel_rfl) ?_ _
                            clear hS
                            go_wp2
                            go_roundw
                            case rel => exact ⟨m + 1, hmm1.out, by go_num, hnx.out, hbd⟩
                            case measure => have := hmm1.out; simp [intOf]; omega
                          · have hpm : p.toNat < bs.length := by
                              unfold parOK at hpp
                              by_cases h0 : m = 0
                              · rw [if_pos h0] at hpp
                                have := of_decide_eq_true hpp
                                omega
                              · rw [if_neg h0] at hpp
                                have := of_decide_eq_true hpp
                                omega
                            obtain ⟨p, rfl⟩ := Int.eq_ofNat_of_zero_le (show 0 ≤ p by omega)
                            rw [Int.toNat_natCast] at hpm
                            have hat2 : Hid (rootAt bs x m = !decide (x ∈ bs[p].names)) := Lib.hid (by rw [hat.out, decide_eq_false hp0, Int.toNat_natCast, getD_bag hpm]; simp)
                            obtain ⟨b3, off3, vv3, ve3, hal3, e0, -, -, k6, -⟩ := hbc2.out p hpm
                            have hnl3 := (hbs _ (List.getElem_mem hpm)).1
                            obtain ⟨av3, cv3, rfl, hvc3⟩ := k6.form
                            have hi2 := fun V (h : Below w2.heap.size w2 V) => rindex_any V av3 cv3 bs[p].names x (by omega)
                              (fun j hj => by
                                obtain ⟨b, off, h1, h2, h3⟩ := hvc3 j hj
                                exact ⟨b, off, h1, Nat.lt_of_lt_of_le h2 h.size, (stay_of_below h).cell h3⟩)
                            replace hi2 := Lib.hid (hi2 wr.drew hbd.out)
                            have hneg2 := idxI_neg bs[p].names x
                            generalize idxI bs[p].names x = i2 at *
                            generalize hd2 : decide (x ∈ bs[p].names) = d2 at *
                            clear hd2 k6 hvc3 hat hpp
                            generalize bs[p].names.length = nl3 at *
                            have hal4 := hal
                            rw [hal3] at hal4
                            obtain ⟨rfl, rfl⟩ : b3 = b ∧ off3 = off := by cases hal4; exact ⟨rfl, rfl⟩
                            clear hal4 hal3
                            have hpi : (p : Int) < (bs.length : Int) := by omega
                            subst hal
                            clear hltm hbw
                            cases d2 with
                            | false =>
                              have hz2 : ¬ (0 : Int) ≤ i2 := by
                                have : i2 < 0 := by simpa using hneg2
                                omega
                              have hz3 : i2 < 0 := by omega
                              clear hneg2
                              have hnx : Hid ((.int .i64 ((rootsR bs x m : Nat) + 1 : Int) : Value) = .int .i64 (rootsR bs x (m + 1) : Nat)) := Lib.hid (by rw [hsucc.out, hat2.out]; simp)
                              clear hsucc hat2
                              go_wp2_with fail
                              refine wp_region_held_drew (S := fun V => Below w2.heap.size w2 V) (by kernel_rfl) hbd.out (fun hS => ?_)
                              generalize wr.drew = V0 at *
                              refine wpAnyH_take (i := 0) (v := ?_) rfl (by kernel_rfl) (by kernel_rfl) (by kernel_rfl) (fun _ _ _ h => h) (.inl ⟨by kernel_rfl, fun w' hS => ?_⟩) hS ?_
                              rotate_left
                              ·
                                have q1 := (stay_of_below hS).cell c0; have q2 := (stay_of_below hS).cell hc2
                                go_simp
                                try with_reducible rfl
                              simp only [List.getElem_toArray, List.getElem_cons_succ, List.getElem_cons_zero, Act.put, List.setIfInBounds_toArray, List.set_cons_zero, List.set_cons_succ]
                              refine wpAnyH_take (i := 1) (v := ?_) rfl (by kernel_rfl) (by kernel_rfl) (by kernel_rfl) (fun _ _ _ h => h) (.inl ⟨by kernel_rfl, fun w' hS => ?_⟩) hS ?_
                              rotate_left
                              ·
                                have q1 := (stay_of_below hS).cell c0; have q2 := (stay_of_below hS).cell hc2
                                go_simp
                                try with_reducible rfl
                              simp only [List.getElem_toArray, List.getElem_cons_succ, List.getElem_cons_zero, Act.put, List.setIfInBounds_toArray, List.set_cons_zero, List.set_cons_succ]
                              refine wpAnyH_take (i := 2) (v := ?_) rfl (by kernel_rfl) (by kernel_rfl) (by kernel_rfl) (fun _ _ _ h => h) (.inl ⟨by kernel_rfl, fun w' hS => ?_⟩) hS ?_
                              rotate_left
                              ·
                                have q1 := (stay_of_below hS).cell c0; have q2 := (stay_of_below hS).cell hc2
                                go_simp
                                try with_reducible rfl
                              simp only [List.getElem_toArray, List.getElem_cons_succ, List.getElem_cons_zero, Act.put, List.setIfInBounds_toArray, List.set_cons_zero, List.set_cons_succ]
                              refine wpAnyH_take (i := 3) (v := ?_) rfl (by kernel_rfl) (by kernel_rfl) (by kernel_rfl) (fun _ _ _ h => h) (.inl ⟨by kernel_rfl, fun w' hS => ?_⟩) hS ?_
                              rotate_left
                              ·
                                have q1 := (stay_of_below hS).cell c0; have q2 := (stay_of_below hS).cell hc2
                                go_simp
                                try with_reducible rfl
                              simp only [List.getElem_toArray, List.getElem_cons_succ, List.getElem_cons_zero, Act.put, List.setIfInBounds_toArray, List.set_cons_zero, List.set_cons_succ]
                              refine wpAnyH_take (i := 4) (v := ?_) rfl (by kernel_rfl) (by kernel_rfl) (by kernel_rfl) (fun _ _ _ h => h) (.inl ⟨by kernel_rfl, fun w' hS => ?_⟩) hS ?_
                              rotate_left
                              ·
                                have q1 := (stay_of_below hS).cell c0; have q2 := (stay_of_below hS).cell hc2
                                go_simp
                                try with_reducible rfl
                              simp only [List.getElem_toArray, List.getElem_cons_succ, List.getElem_cons_zero, Act.put, List.setIfInBounds_toArray, List.set_cons_zero, List.set_cons_succ]
                              refine wpAnyH_take (i := 5) (v := ?_) rfl (by kernel_rfl) (by kernel_rfl) (by kernel_rfl) (fun _ _ _ h => h) (.inl ⟨by kernel_rfl, fun w' hS => ?_⟩) hS ?_
                              rotate_left
                              ·
                                have q1 := (stay_of_below hS).cell c0; have q2 := (stay_of_below hS).cell hc2
                                go_simp
                                try with_reducible rfl
                              simp only [List.getElem_toArray, List.getElem_cons_succ, List.getElem_cons_zero, Act.put, List.setIfInBounds_toArray, List.set_cons_zero, List.set_cons_succ]
                              refine wpAnyH_take (i := 6) (v := ?_) rfl (by kernel_rfl) (by kernel_rfl) (by kernel_rfl) (fun _ _ _ h => h) (.inl ⟨by kernel_rfl, fun w' hS => ?_⟩) hS ?_
                              rotate_left
                              ·
                                have q1 := (stay_of_below hS).cell c0; have q2 := (stay_of_below hS).cell hc2
                                go_simp
                                try with_reducible rfl
                              simp only [List.getElem_toArray, List.getElem_cons_succ, List.getElem_cons_zero, Act.put, List.setIfInBounds_toArray, List.set_cons_zero, List.set_cons_succ]
                              refine wpAnyH_take (i := 7) (v := ?_) rfl (by kernel_rfl) (by kernel_rfl) (by kernel_rfl) (fun _ _ _ h => h) (.inl ⟨by kernel_rfl, fun w' hS => ?_⟩) hS ?_
                              rotate_left
                              ·
                                have q1 := (stay_of_below hS).cell c0; have q2 := (stay_of_below hS).cell hc2
                                go_simp
                                try with_reducible rfl
                              simp only [List.getElem_toArray, List.getElem_cons_succ, List.getElem_cons_zero, Act.put, List.setIfInBounds_toArray, List.set_cons_zero, List.set_cons_succ]
                              refine wpAnyH_take (i := 8) (v := ?_) rfl (by kernel_rfl) (by kernel_rfl) (by kernel_rfl) (fun _ _ _ h => h) (.inl ⟨by kernel_rfl, fun w' hS => ?_⟩) hS ?_
                              rotate_left
                              ·
                                have q1 := (stay_of_below hS).cell c0; have q2 := (stay_of_below hS).cell hc2
                                go_simp
                                try with_reducible rfl
                              simp only [List.getElem_toArray, List.getElem_cons_succ, List.getElem_cons_zero, Act.put, List.setIfInBounds_toArray, List.set_cons_zero, List.set_cons_succ]
                              refine wpAnyH_ready (rs := [9]) (by kernel_rfl) (by simp) ?_
                              refine AllReadyH.cons rfl (fun K hK => ?_) AllReadyH.nil
                              clear hS
                              go_simp
                              refine (hi1.out).mono ?_
                              rintro e w7 ⟨rfl, rfl⟩
                              go_wp2_with fail
                              refine hK.out _ _ (hbd.out) (fun hS => ?_)
                              clear hK K
                              try simp only [List.getElem_toArray, List.getElem_cons_succ, List.getElem_cons_zero, Act.put, List.setIfInBounds_toArray, List.set_cons_zero, List.set_cons_succ]
                              refine wpAnyH_take (i := 10) (v := ?_) rfl (by kernel_rfl) (by kernel_rfl) (by kernel_rfl) (fun _ _ _ h => h) (.inl ⟨by kernel_rfl, fun w' hS => ?_⟩) hS ?_
                              rotate_left
                              ·
                                have q1 := (stay_of_below hS).cell c2; have q2 := (stay_of_below hS).cell hc2; have q3 := (stay_of_below hS).cell e0; have g1 : (0 : Int) ≤ i1 := (by omega)
                                go_simp
                                try with_reducible rfl
                              simp only [List.getElem_toArray, List.getElem_cons_succ, List.getElem_cons_zero, Act.put, List.setIfInBounds_toArray, List.set_cons_zero, List.set_cons_succ]
                              refine wpAnyH_take (i := 11) (v := ?_) rfl (by kernel_rfl) (by kernel_rfl) (by kernel_rfl) (fun _ _ _ h => h) (.inl ⟨by kernel_rfl, fun w' hS => ?_⟩) hS ?_
                              rotate_left
                              ·
                                have q1 := (stay_of_below hS).cell c2; have q2 := (stay_of_below hS).cell hc2; have q3 := (stay_of_below hS).cell e0; have g1 : (0 : Int) ≤ i1 := (by omega)
                                go_simp
                                try with_reducible rfl
                              simp only [List.getElem_toArray, List.getElem_cons_succ, List.getElem_cons_zero, Act.put, List.setIfInBounds_toArray, List.set_cons_zero, List.set_cons_succ]
                              refine wpAnyH_take (i := 12) (v := ?_) rfl (by kernel_rfl) (by kernel_rfl) (by kernel_rfl) (fun _ _ _ h => h) (.inl ⟨by kernel_rfl, fun w' hS => ?_⟩) hS ?_
                              rotate_left
                              ·
                                have q1 := (stay_of_below hS).cell c2; have q2 := (stay_of_below hS).cell hc2; have q3 := (stay_of_below hS).cell e0; have g1 : (0 : Int) ≤ i1 := (by omega)
                                go_simp
                                try with_reducible rfl
                              simp only [List.getElem_toArray, List.getElem_cons_succ, List.getElem_cons_zero, Act.put, List.setIfInBounds_toArray, List.set_cons_zero, List.set_cons_succ]
                              refine wpAnyH_take (i := 13) (v := ?_) rfl (by kernel_rfl) (by kernel_rfl) (by kernel_rfl) (fun _ _ _ h => h) (.inl ⟨by kernel_rfl, fun w' hS => ?_⟩) hS ?_
                              rotate_left
                              ·
                                have q1 := (stay_of_below hS).cell c2; have q2 := (stay_of_below hS).cell hc2; have q3 := (stay_of_below hS).cell e0; have g1 : (0 : Int) ≤ i1 := (by omega)
                                go_simp
                                try with_reducible rfl
                              simp only [List.getElem_toArray, List.getElem_cons_succ, List.getElem_cons_zero, Act.put, List.setIfInBounds_toArray, List.set_cons_zero, List.set_cons_succ]
                              refine wpAnyH_take (i := 14) (v := ?_) rfl (by kernel_rfl) (by kernel_rfl) (by kernel_rfl) (fun _ _ _ h => h) (.inl ⟨by kernel_rfl, fun w' hS => ?_⟩) hS ?_
                              rotate_left
                              ·
                                have q1 := (stay_of_below hS).cell c2; have q2 := (stay_of_below hS).cell hc2; have q3 := (stay_of_below hS).cell e0; have g1 : (0 : Int) ≤ i1 := (by omega)
                                go_simp
                                try with_reducible rfl
                              simp only [List.getElem_toArray, List.getElem_cons_succ, List.getElem_cons_zero, Act.put, List.setIfInBounds_toArray, List.set_cons_zero, List.set_cons_succ]
                              refine wpAnyH_take (i := 15) (v := ?_) rfl (by kernel_rfl) (by kernel_rfl) (by kernel_rfl) (fun _ _ _ h => h) (.inl ⟨by kernel_rfl, fun w' hS => ?_⟩) hS ?_
                              rotate_left
                              ·
                                have q1 := (stay_of_below hS).cell c2; have q2 := (stay_of_below hS).cell hc2; have q3 := (stay_of_below hS).cell e0; have g1 : (0 : Int) ≤ i1 := (by omega)
                                go_simp
                                try with_reducible rfl
                              simp only [List.getElem_toArray, List.getElem_cons_succ, List.getElem_cons_zero, Act.put, List.setIfInBounds_toArray, List.set_cons_zero, List.set_cons_succ]
                              refine wpAnyH_take (i := 16) (v := ?_) rfl (by kernel_rfl) (by kernel_rfl) (by kernel_rfl) (fun _ _ _ h => h) (.inl ⟨by kernel_rfl, fun w' hS => ?_⟩) hS ?_
                              rotate_left
                              ·
                                have q1 := (stay_of_below hS).cell c2; have q2 := (stay_of_below hS).cell hc2; have q3 := (stay_of_below hS).cell e0; have g1 : (0 : Int) ≤ i1 := (by omega)
                                go_simp
                                try with_reducible rfl
                              simp only [List.getElem_toArray, List.getElem_cons_succ, List.getElem_cons_zero, Act.put, List.setIfInBounds_toArray, List.set_cons_zero, List.set_cons_succ]
                              refine wpAnyH_take (i := 17) (v := ?_) rfl (by kernel_rfl) (by kernel_rfl) (by kernel_rfl) (fun _ _ _ h => h) (.inl ⟨by kernel_rfl, fun w' hS => ?_⟩) hS ?_
                              rotate_left
                              ·
                                have q1 := (stay_of_below hS).cell c2; have q2 := (stay_of_below hS).cell hc2; have q3 := (stay_of_below hS).cell e0; have g1 : (0 : Int) ≤ i1 := (by omega)
                                go_simp
                                try with_reducible rfl
                              simp only [List.getElem_toArray, List.getElem_cons_succ, List.getElem_cons_zero, Act.put, List.setIfInBounds_toArray, List.set_cons_zero, List.set_cons_succ]
                              refine wpAnyH_take (i := 18) (v := ?_) rfl (by kernel_rfl) (by kernel_rfl) (by kernel_rfl) (fun _ _ _ h => h) (.inl ⟨by kernel_rfl, fun w' hS => ?_⟩) hS ?_
                              rotate_left
                              ·
                                have q1 := (stay_of_below hS).cell c2; have q2 := (stay_of_below hS).cell hc2; have q3 := (stay_of_below hS).cell e0; have g1 : (0 : Int) ≤ i1 := (by omega)
                                go_simp
                                try with_reducible rfl
                              simp only [List.getElem_toArray, List.getElem_cons_succ, List.getElem_cons_zero, Act.put, List.setIfInBounds_toArray, List.set_cons_zero, List.set_cons_succ]
                              refine wpAnyH_take (i := 19) (v := ?_) rfl (by kernel_rfl) (by kernel_rfl) (by kernel_rfl) (fun _ _ _ h => h) (.inl ⟨by kernel_rfl, fun w' hS => ?_⟩) hS ?_
                              rotate_left
                              ·
                                have q1 := (stay_of_below hS).cell c2; have q2 := (stay_of_below hS).cell hc2; have q3 := (stay_of_below hS).cell e0; have g1 : (0 : Int) ≤ i1 := (by omega)
                                go_simp
                                try with_reducible rfl
                              simp only [List.getElem_toArray, List.getElem_cons_succ, List.getElem_cons_zero, Act.put, List.setIfInBounds_toArray, List.set_cons_zero, List.set_cons_succ]
                              refine wpAnyH_take (i := 20) (v := ?_) rfl (by kernel_rfl) (by kernel_rfl) (by kernel_rfl) (fun _ _ _ h => h) (.inl ⟨by kernel_rfl, fun w' hS => ?_⟩) hS ?_
                              rotate_left
                              ·
                                have q1 := (stay_of_below hS).cell c2; have q2 := (stay_of_below hS).cell hc2; have q3 := (stay_of_below hS).cell e0; have g1 : (0 : Int) ≤ i1 := (by omega)
                                go_simp
                                try with_reducible rfl
                              simp only [List.getElem_toArray, List.getElem_cons_succ, List.getElem_cons_zero, Act.put, List.setIfInBounds_toArray, List.set_cons_zero, List.set_cons_succ]
                              refine wpAnyH_take (i := 21) (v := ?_) rfl (by kernel_rfl) (by kernel_rfl) (by kernel_rfl) (fun _ _ _ h => h) (.inl ⟨by kernel_rfl, fun w' hS => ?_⟩) hS ?_
                              rotate_left
                              ·
                                have q1 := (stay_of_below hS).cell c2; have q2 := (stay_of_below hS).cell hc2; have q3 := (stay_of_below hS).cell e0; have g1 : (0 : Int) ≤ i1 := (by omega)
                                go_simp
                                try with_reducible rfl
                              simp only [List.getElem_toArray, List.getElem_cons_succ, List.getElem_cons_zero, Act.put, List.setIfInBounds_toArray, List.set_cons_zero, List.set_cons_succ]
                              refine wpAnyH_take (i := 22) (v := ?_) rfl (by kernel_rfl) (by kernel_rfl) (by kernel_rfl) (fun _ _ _ h => h) (.inl ⟨by kernel_rfl, fun w' hS => ?_⟩) hS ?_
                              rotate_left
                              ·
                                have q1 := (stay_of_below hS).cell c2; have q2 := (stay_of_below hS).cell hc2; have q3 := (stay_of_below hS).cell e0; have g1 : (0 : Int) ≤ i1 := (by omega)
                                go_simp
                                try with_reducible rfl
                              simp only [List.getElem_toArray, List.getElem_cons_succ, List.getElem_cons_zero, Act.put, List.setIfInBounds_toArray, List.set_cons_zero, List.set_cons_succ]
                              refine wpAnyH_take (i := 23) (v := ?_) rfl (by kernel_rfl) (by kernel_rfl) (by kernel_rfl) (fun _ _ _ h => h) (.inl ⟨by kernel_rfl, fun w' hS => ?_⟩) hS ?_
                              rotate_left
                              ·
                                have q1 := (stay_of_below hS).cell c2; have q2 := (stay_of_below hS).cell hc2; have q3 := (stay_of_below hS).cell e0; have g1 : (0 : Int) ≤ i1 := (by omega)
                                go_simp
                                try with_reducible rfl
                              simp only [List.getElem_toArray, List.getElem_cons_succ, List.getElem_cons_zero, Act.put, List.setIfInBounds_toArray, List.set_cons_zero, List.set_cons_succ]
                              refine wpAnyH_take (i := 24) (v := ?_) rfl (by kernel_rfl) (by kernel_rfl) (by kernel_rfl) (fun _ _ _ h => h) (.inl ⟨by kernel_rfl, fun w' hS => ?_⟩) hS ?_
                              rotate_left
                              ·
                                have q1 := (stay_of_below hS).cell c2; have q2 := (stay_of_below hS).cell hc2; have q3 := (stay_of_below hS).cell e0; have g1 : (0 : Int) ≤ i1 := (by omega)
                                go_simp
                                try with_reducible rfl
                              simp only [List.getElem_toArray, List.getElem_cons_succ, List.getElem_cons_zero, Act.put, List.setIfInBounds_toArray, List.set_cons_zero, List.set_cons_succ]
                              refine wpAnyH_take (i := 25) (v := ?_) rfl (by kernel_rfl) (by kernel_rfl) (by kernel_rfl) (fun _ _ _ h => h) (.inl ⟨by kernel_rfl, fun w' hS => ?_⟩) hS ?_
                              rotate_left
                              ·
                                have q1 := (stay_of_below hS).cell c2; have q2 := (stay_of_below hS).cell hc2; have q3 := (stay_of_below hS).cell e0; have g1 : (0 : Int) ≤ i1 := (by omega)
                                go_simp
                                try with_reducible rfl
                              simp only [List.getElem_toArray, List.getElem_cons_succ, List.getElem_cons_zero, Act.put, List.setIfInBounds_toArray, List.set_cons_zero, List.set_cons_succ]
                              refine wpAnyH_take (i := 26) (v := ?_) rfl (by kernel_rfl) (by kernel_rfl) (by kernel_rfl) (fun _ _ _ h => h) (.inl ⟨by kernel_rfl, fun w' hS => ?_⟩) hS ?_
                              rotate_left
                              ·
                                have q1 := (stay_of_below hS).cell c2; have q2 := (stay_of_below hS).cell hc2; have q3 := (stay_of_below hS).cell e0; have g1 : (0 : Int) ≤ i1 := (by omega)
                                go_simp
                                try with_reducible rfl
                              simp only [List.getElem_toArray, List.getElem_cons_succ, List.getElem_cons_zero, Act.put, List.setIfInBounds_toArray, List.set_cons_zero, List.set_cons_succ]
                              refine wpAnyH_take (i := 27) (v := ?_) rfl (by kernel_rfl) (by kernel_rfl) (by kernel_rfl) (fun _ _ _ h => h) (.inl ⟨by kernel_rfl, fun w' hS => ?_⟩) hS ?_
                              rotate_left
                              ·
                                have q1 := (stay_of_below hS).cell c2; have q2 := (stay_of_below hS).cell hc2; have q3 := (stay_of_below hS).cell e0; have g1 : (0 : Int) ≤ i1 := (by omega)
                                go_simp
                                try with_reducible rfl
                              simp only [List.getElem_toArray, List.getElem_cons_succ, List.getElem_cons_zero, Act.put, List.setIfInBounds_toArray, List.set_cons_zero, List.set_cons_succ]
                              refine wpAnyH_take (i := 28) (v := ?_) rfl (by kernel_rfl) (by kernel_rfl) (by kernel_rfl) (fun _ _ _ h => h) (.inl ⟨by kernel_rfl, fun w' hS => ?_⟩) hS ?_
                              rotate_left
                              ·
                                have q1 := (stay_of_below hS).cell c2; have q2 := (stay_of_below hS).cell hc2; have q3 := (stay_of_below hS).cell e0; have g1 : (0 : Int) ≤ i1 := (by omega)
                                go_simp
                                try with_reducible rfl
                              simp only [List.getElem_toArray, List.getElem_cons_succ, List.getElem_cons_zero, Act.put, List.setIfInBounds_toArray, List.set_cons_zero, List.set_cons_succ]
                              refine wpAnyH_take (i := 29) (v := ?_) rfl (by kernel_rfl) (by kernel_rfl) (by kernel_rfl) (fun _ _ _ h => h) (.inl ⟨by kernel_rfl, fun w' hS => ?_⟩) hS ?_
                              rotate_left
                              ·
                                have q1 := (stay_of_below hS).cell c2; have q2 := (stay_of_below hS).cell hc2; have q3 := (stay_of_below hS).cell e0; have g1 : (0 : Int) ≤ i1 := (by omega)
                                go_simp
                                try with_reducible rfl
                              simp only [List.getElem_toArray, List.getElem_cons_succ, List.getElem_cons_zero, Act.put, List.setIfInBounds_toArray, List.set_cons_zero, List.set_cons_succ]
                              refine wpAnyH_take (i := 30) (v := ?_) rfl (by kernel_rfl) (by kernel_rfl) (by kernel_rfl) (fun _ _ _ h => h) (.inl ⟨by kernel_rfl, fun w' hS => ?_⟩) hS ?_
                              rotate_left
                              ·
                                have q1 := (stay_of_below hS).cell c2; have q2 := (stay_of_below hS).cell hc2; have q3 := (stay_of_below hS).cell e0; have g1 : (0 : Int) ≤ i1 := (by omega)
                                go_simp
                                try with_reducible rfl
                              simp only [List.getElem_toArray, List.getElem_cons_succ, List.getElem_cons_zero, Act.put, List.setIfInBounds_toArray, List.set_cons_zero, List.set_cons_succ]
                              refine wpAnyH_take (i := 31) (v := ?_) rfl (by kernel_rfl) (by kernel_rfl) (by kernel_rfl) (fun _ _ _ h => h) (.inl ⟨by kernel_rfl, fun w' hS => ?_⟩) hS ?_
                              rotate_left
                              ·
                                have q1 := (stay_of_below hS).cell c2; have q2 := (stay_of_below hS).cell hc2; have q3 := (stay_of_below hS).cell e0; have g1 : (0 : Int) ≤ i1 := (by omega)
                                go_simp
                                try with_reducible rfl
                              simp only [List.getElem_toArray, List.getElem_cons_succ, List.getElem_cons_zero, Act.put, List.setIfInBounds_toArray, List.set_cons_zero, List.set_cons_succ]
                              refine wpAnyH_ready (rs := [32]) (by kernel_rfl) (by simp) ?_
                              refine AllReadyH.cons rfl (fun K hK => ?_) AllReadyH.nil
                              clear hS
                              go_simp
                              refine (hi2.out).mono ?_
                              rintro e w8 ⟨rfl, rfl⟩
                              go_wp2_with fail
                              refine hK.out _ _ (hbd.out) (fun hS => ?_)
                              clear hK K
                              try simp only [List.getElem_toArray, List.getElem_cons_succ, List.getElem_cons_zero, Act.put, List.setIfInBounds_toArray, List.set_cons_zero, List.set_cons_succ]
                              refine wpAnyH_take (i := 33) (v := ?_) rfl (by kernel_rfl) (by kernel_rfl) (by kernel_rfl) (fun _ _ _ h => h) (.inl ⟨by kernel_rfl, fun w' hS => ?_⟩) hS ?_
                              rotate_left
                              ·
                                have g1 : i2 < 0 := hz3
                                go_simp
                                try with_reducible rfl
                              simp only [List.getElem_toArray, List.getElem_cons_succ, List.getElem_cons_zero, Act.put, List.setIfInBounds_toArray, List.set_cons_zero, List.set_cons_succ]
                              refine wpAnyH_take (i := 34) (v := ?_) rfl (by kernel_rfl) (by kernel_rfl) (by kernel_rfl) (fun _ _ _ h => h) (.inl ⟨by kernel_rfl, fun w' hS => ?_⟩) hS ?_
                              rotate_left
                              ·
                                have g1 : i2 < 0 := hz3
                                go_simp
                                try with_reducible rfl
                              simp only [List.getElem_toArray, List.getElem_cons_succ, List.getElem_cons_zero, Act.put, List.setIfInBounds_toArray, List.set_cons_zero, List.set_cons_succ]
                              refine wpAnyH_take (i := 35) (v := ?_) rfl (by kernel_rfl) (by kernel_rfl) (by kernel_rfl) (fun _ _ _ h => h) (.inl ⟨by kernel_rfl, fun w' hS => ?_⟩) hS ?_
                              rotate_left
                              ·
                                have g1 : i2 < 0 := hz3
                                go_simp
                                try with_reducible rfl
                              simp only [List.getElem_toArray, List.getElem_cons_succ, List.getElem_cons_zero, Act.put, List.setIfInBounds_toArray, List.set_cons_zero, List.set_cons_succ]
                              refine wpAnyH_done (by kernel_rfl) ?_ _
                              clear hS
                              go_wp2
                              go_roundw
                              case rel => exact ⟨m + 1, hmm1.out, by go_num, hnx.out, hbd⟩
                              case measure => have := hmm1.out; simp [intOf]; omega
                            | true =>
                              have hz2 : (0 : Int) ≤ i2 := by
                                have : ¬ i2 < 0 := by simpa using hneg2
                                omega
                              clear hneg2
                              have hnx : Hid ((.int .i64 (rootsR bs x m : Nat) : Value) = .int .i64 (rootsR bs x (m + 1) : Nat)) := Lib.hid (by rw [hsucc.out, hat2.out]; simp)
                              clear hsucc hat2
                              go_wp2_with fail
                              refine wp_region_held_drew (S := fun V => Below w2.heap.size w2 V) (by kernel_rfl) hbd.out (fun hS => ?_)
                              generalize wr.drew = V0 at *
                              refine wpAnyH_take (i := 0) (v := ?_) rfl (by kernel_rfl) (by kernel_rfl) (by kernel_rfl) (fun _ _ _ h => h) (.inl ⟨by kernel_rfl, fun w' hS => ?_⟩) hS ?_
                              rotate_left
                              ·
                                have q1 := (stay_of_below hS).cell c0; have q2 := (stay_of_below hS).cell hc2
                                go_simp
                                try with_reducible rfl
                              simp only [List.getElem_toArray, List.getElem_cons_succ, List.getElem_cons_zero, Act.put, List.setIfInBounds_toArray, List.set_cons_zero, List.set_cons_succ]
                              refine wpAnyH_take (i := 1) (v := ?_) rfl (by kernel_rfl) (by kernel_rfl) (by kernel_rfl) (fun _ _ _ h => h) (.inl ⟨by kernel_rfl, fun w' hS => ?_⟩) hS ?_
                              rotate_left
                              ·
                                have q1 := (stay_of_below hS).cell c0; have q2 := (stay_of_below hS).cell hc2
                                go_simp
                                try with_reducible rfl
                              simp only [List.getElem_toArray, List.getElem_cons_succ, List.getElem_cons_zero, Act.put, List.setIfInBounds_toArray, List.set_cons_zero, List.set_cons_succ]
                              refine wpAnyH_take (i := 2) (v := ?_) rfl (by kernel_rfl) (by kernel_rfl) (by kernel_rfl) (fun _ _ _ h => h) (.inl ⟨by kernel_rfl, fun w' hS => ?_⟩) hS ?_
                              rotate_left
                              ·
                                have q1 := (stay_of_below hS).cell c0; have q2 := (stay_of_below hS).cell hc2
                                go_simp
                                try with_reducible rfl
                              simp only [List.getElem_toArray, List.getElem_cons_succ, List.getElem_cons_zero, Act.put, List.setIfInBounds_toArray, List.set_cons_zero, List.set_cons_succ]
                              refine wpAnyH_take (i := 3) (v := ?_) rfl (by kernel_rfl) (by kernel_rfl) (by kernel_rfl) (fun _ _ _ h => h) (.inl ⟨by kernel_rfl, fun w' hS => ?_⟩) hS ?_
                              rotate_left
                              ·
                                have q1 := (stay_of_below hS).cell c0; have q2 := (stay_of_below hS).cell hc2
                                go_simp
                                try with_reducible rfl
                              simp only [List.getElem_toArray, List.getElem_cons_succ, List.getElem_cons_zero, Act.put, List.setIfInBounds_toArray, List.set_cons_zero, List.set_cons_succ]
                              refine wpAnyH_take (i := 4) (v := ?_) rfl (by kernel_rfl) (by kernel_rfl) (by kernel_rfl) (fun _ _ _ h => h) (.inl ⟨by kernel_rfl, fun w' hS => ?_⟩) hS ?_
                              rotate_left
                              ·
                                have q1 := (stay_of_below hS).cell c0; have q2 := (stay_of_below hS).cell hc2
                                go_simp
                                try with_reducible rfl
                              simp only [List.getElem_toArray, List.getElem_cons_succ, List.getElem_cons_zero, Act.put, List.setIfInBounds_toArray, List.set_cons_zero, List.set_cons_succ]
                              refine wpAnyH_take (i := 5) (v := ?_) rfl (by kernel_rfl) (by kernel_rfl) (by kernel_rfl) (fun _ _ _ h => h) (.inl ⟨by kernel_rfl, fun w' hS => ?_⟩) hS ?_
                              rotate_left
                              ·
                                have q1 := (stay_of_below hS).cell c0; have q2 := (stay_of_below hS).cell hc2
                                go_simp
                                try with_reducible rfl
                              simp only [List.getElem_toArray, List.getElem_cons_succ, List.getElem_cons_zero, Act.put, List.setIfInBounds_toArray, List.set_cons_zero, List.set_cons_succ]
                              refine wpAnyH_take (i := 6) (v := ?_) rfl (by kernel_rfl) (by kernel_rfl) (by kernel_rfl) (fun _ _ _ h => h) (.inl ⟨by kernel_rfl, fun w' hS => ?_⟩) hS ?_
                              rotate_left
                              ·
                                have q1 := (stay_of_below hS).cell c0; have q2 := (stay_of_below hS).cell hc2
                                go_simp
                                try with_reducible rfl
                              simp only [List.getElem_toArray, List.getElem_cons_succ, List.getElem_cons_zero, Act.put, List.setIfInBounds_toArray, List.set_cons_zero, List.set_cons_succ]
                              refine wpAnyH_take (i := 7) (v := ?_) rfl (by kernel_rfl) (by kernel_rfl) (by kernel_rfl) (fun _ _ _ h => h) (.inl ⟨by kernel_rfl, fun w' hS => ?_⟩) hS ?_
                              rotate_left
                              ·
                                have q1 := (stay_of_below hS).cell c0; have q2 := (stay_of_below hS).cell hc2
                                go_simp
                                try with_reducible rfl
                              simp only [List.getElem_toArray, List.getElem_cons_succ, List.getElem_cons_zero, Act.put, List.setIfInBounds_toArray, List.set_cons_zero, List.set_cons_succ]
                              refine wpAnyH_take (i := 8) (v := ?_) rfl (by kernel_rfl) (by kernel_rfl) (by kernel_rfl) (fun _ _ _ h => h) (.inl ⟨by kernel_rfl, fun w' hS => ?_⟩) hS ?_
                              rotate_left
                              ·
                                have q1 := (stay_of_below hS).cell c0; have q2 := (stay_of_below hS).cell hc2
                                go_simp
                                try with_reducible rfl
                              simp only [List.getElem_toArray, List.getElem_cons_succ, List.getElem_cons_zero, Act.put, List.setIfInBounds_toArray, List.set_cons_zero, List.set_cons_succ]
                              refine wpAnyH_ready (rs := [9]) (by kernel_rfl) (by simp) ?_
                              refine AllReadyH.cons rfl (fun K hK => ?_) AllReadyH.nil
                              clear hS
                              go_simp
                              refine (hi1.out).mono ?_
                              rintro e w7 ⟨rfl, rfl⟩
                              go_wp2_with fail
                              refine hK.out _ _ (hbd.out) (fun hS => ?_)
                              clear hK K
                              try simp only [List.getElem_toArray, List.getElem_cons_succ, List.getElem_cons_zero, Act.put, List.setIfInBounds_toArray, List.set_cons_zero, List.set_cons_succ]
                              refine wpAnyH_take (i := 10) (v := ?_) rfl (by kernel_rfl) (by kernel_rfl) (by kernel_rfl) (fun _ _ _ h => h) (.inl ⟨by kernel_rfl, fun w' hS => ?_⟩) hS ?_
                              rotate_left
                              ·
                                have q1 := (stay_of_below hS).cell c2; have q2 := (stay_of_below hS).cell hc2; have q3 := (stay_of_below hS).cell e0; have g1 : (0 : Int) ≤ i1 := (by omega)
                                go_simp
                                try with_reducible rfl
                              simp only [List.getElem_toArray, List.getElem_cons_succ, List.getElem_cons_zero, Act.put, List.setIfInBounds_toArray, List.set_cons_zero, List.set_cons_succ]
                              refine wpAnyH_take (i := 11) (v := ?_) rfl (by kernel_rfl) (by kernel_rfl) (by kernel_rfl) (fun _ _ _ h => h) (.inl ⟨by kernel_rfl, fun w' hS => ?_⟩) hS ?_
                              rotate_left
                              ·
                                have q1 := (stay_of_below hS).cell c2; have q2 := (stay_of_below hS).cell hc2; have q3 := (stay_of_below hS).cell e0; have g1 : (0 : Int) ≤ i1 := (by omega)
                                go_simp
                                try with_reducible rfl
                              simp only [List.getElem_toArray, List.getElem_cons_succ, List.getElem_cons_zero, Act.put, List.setIfInBounds_toArray, List.set_cons_zero, List.set_cons_succ]
                              refine wpAnyH_take (i := 12) (v := ?_) rfl (by kernel_rfl) (by kernel_rfl) (by kernel_rfl) (fun _ _ _ h => h) (.inl ⟨by kernel_rfl, fun w' hS => ?_⟩) hS ?_
                              rotate_left
                              ·
                                have q1 := (stay_of_below hS).cell c2; have q2 := (stay_of_below hS).cell hc2; have q3 := (stay_of_below hS).cell e0; have g1 : (0 : Int) ≤ i1 := (by omega)
                                go_simp
                                try with_reducible rfl
                              simp only [List.getElem_toArray, List.getElem_cons_succ, List.getElem_cons_zero, Act.put, List.setIfInBounds_toArray, List.set_cons_zero, List.set_cons_succ]
                              refine wpAnyH_take (i := 13) (v := ?_) rfl (by kernel_rfl) (by kernel_rfl) (by kernel_rfl) (fun _ _ _ h => h) (.inl ⟨by kernel_rfl, fun w' hS => ?_⟩) hS ?_
                              rotate_left
                              ·
                                have q1 := (stay_of_below hS).cell c2; have q2 := (stay_of_below hS).cell hc2; have q3 := (stay_of_below hS).cell e0; have g1 : (0 : Int) ≤ i1 := (by omega)
                                go_simp
                                try with_reducible rfl
                              simp only [List.getElem_toArray, List.getElem_cons_succ, List.getElem_cons_zero, Act.put, List.setIfInBounds_toArray, List.set_cons_zero, List.set_cons_succ]
                              refine wpAnyH_take (i := 14) (v := ?_) rfl (by kernel_rfl) (by kernel_rfl) (by kernel_rfl) (fun _ _ _ h => h) (.inl ⟨by kernel_rfl, fun w' hS => ?_⟩) hS ?_
                              rotate_left
                              ·
                                have q1 := (stay_of_below hS).cell c2; have q2 := (stay_of_below hS).cell hc2; have q3 := (stay_of_below hS).cell e0; have g1 : (0 : Int) ≤ i1 := (by omega)
                                go_simp
                                try with_reducible rfl
                              simp only [List.getElem_toArray, List.getElem_cons_succ, List.getElem_cons_zero, Act.put, List.setIfInBounds_toArray, List.set_cons_zero, List.set_cons_succ]
                              refine wpAnyH_take (i := 15) (v := ?_) rfl (by kernel_rfl) (by kernel_rfl) (by kernel_rfl) (fun _ _ _ h => h) (.inl ⟨by kernel_rfl, fun w' hS => ?_⟩) hS ?_
                              rotate_left
                              ·
                                have q1 := (stay_of_below hS).cell c2; have q2 := (stay_of_below hS).cell hc2; have q3 := (stay_of_below hS).cell e0; have g1 : (0 : Int) ≤ i1 := (by omega)
                                go_simp
                                try with_reducible rfl
                              simp only [List.getElem_toArray, List.getElem_cons_succ, List.getElem_cons_zero, Act.put, List.setIfInBounds_toArray, List.set_cons_zero, List.set_cons_succ]
                              refine wpAnyH_take (i := 16) (v := ?_) rfl (by kernel_rfl) (by kernel_rfl) (by kernel_rfl) (fun _ _ _ h => h) (.inl ⟨by kernel_rfl, fun w' hS => ?_⟩) hS ?_
                              rotate_left
                              ·
                                have q1 := (stay_of_below hS).cell c2; have q2 := (stay_of_below hS).cell hc2; have q3 := (stay_of_below hS).cell e0; have g1 : (0 : Int) ≤ i1 := (by omega)
                                go_simp
                                try with_reducible rfl
                              simp only [List.getElem_toArray, List.getElem_cons_succ, List.getElem_cons_zero, Act.put, List.setIfInBounds_toArray, List.set_cons_zero, List.set_cons_succ]
                              refine wpAnyH_take (i := 17) (v := ?_) rfl (by kernel_rfl) (by kernel_rfl) (by kernel_rfl) (fun _ _ _ h => h) (.inl ⟨by kernel_rfl, fun w' hS => ?_⟩) hS ?_
                              rotate_left
                              ·
                                have q1 := (stay_of_below hS).cell c2; have q2 := (stay_of_below hS).cell hc2; have q3 := (stay_of_below hS).cell e0; have g1 : (0 : Int) ≤ i1 := (by omega)
                                go_simp
                                try with_reducible rfl
                              simp only [List.getElem_toArray, List.getElem_cons_succ, List.getElem_cons_zero, Act.put, List.setIfInBounds_toArray, List.set_cons_zero, List.set_cons_succ]
                              refine wpAnyH_take (i := 18) (v := ?_) rfl (by kernel_rfl) (by kernel_rfl) (by kernel_rfl) (fun _ _ _ h => h) (.inl ⟨by kernel_rfl, fun w' hS => ?_⟩) hS ?_
                              rotate_left
                              ·
                                have q1 := (stay_of_below hS).cell c2; have q2 := (stay_of_below hS).cell hc2; have q3 := (stay_of_below hS).cell e0; have g1 : (0 : Int) ≤ i1 := (by omega)
                                go_simp
                                try with_reducible rfl
                              simp only [List.getElem_toArray, List.getElem_cons_succ, List.getElem_cons_zero, Act.put, List.setIfInBounds_toArray, List.set_cons_zero, List.set_cons_succ]
                              refine wpAnyH_take (i := 19) (v := ?_) rfl (by kernel_rfl) (by kernel_rfl) (by kernel_rfl) (fun _ _ _ h => h) (.inl ⟨by kernel_rfl, fun w' hS => ?_⟩) hS ?_
                              rotate_left
                              ·
                                have q1 := (stay_of_below hS).cell c2; have q2 := (stay_of_below hS).cell hc2; have q3 := (stay_of_below hS).cell e0; have g1 : (0 : Int) ≤ i1 := (by omega)
                                go_simp
                                try with_reducible rfl
                              simp only [List.getElem_toArray, List.getElem_cons_succ, List.getElem_cons_zero, Act.put, List.setIfInBounds_toArray, List.set_cons_zero, List.set_cons_succ]
                              refine wpAnyH_take (i := 20) (v := ?_) rfl (by kernel_rfl) (by kernel_rfl) (by kernel_rfl) (fun _ _ _ h => h) (.inl ⟨by kernel_rfl, fun w' hS => ?_⟩) hS ?_
                              rotate_left
                              ·
                                have q1 := (stay_of_below hS).cell c2; have q2 := (stay_of_below hS).cell hc2; have q3 := (stay_of_below hS).cell e0; have g1 : (0 : Int) ≤ i1 := (by omega)
                                go_simp
                                try with_reducible rfl
                              simp only [List.getElem_toArray, List.getElem_cons_succ, List.getElem_cons_zero, Act.put, List.setIfInBounds_toArray, List.set_cons_zero, List.set_cons_succ]
                              refine wpAnyH_take (i := 21) (v := ?_) rfl (by kernel_rfl) (by kernel_rfl) (by kernel_rfl) (fun _ _ _ h => h) (.inl ⟨by kernel_rfl, fun w' hS => ?_⟩) hS ?_
                              rotate_left
                              ·
                                have q1 := (stay_of_below hS).cell c2; have q2 := (stay_of_below hS).cell hc2; have q3 := (stay_of_below hS).cell e0; have g1 : (0 : Int) ≤ i1 := (by omega)
                                go_simp
                                try with_reducible rfl
                              simp only [List.getElem_toArray, List.getElem_cons_succ, List.getElem_cons_zero, Act.put, List.setIfInBounds_toArray, List.set_cons_zero, List.set_cons_succ]
                              refine wpAnyH_take (i := 22) (v := ?_) rfl (by kernel_rfl) (by kernel_rfl) (by kernel_rfl) (fun _ _ _ h => h) (.inl ⟨by kernel_rfl, fun w' hS => ?_⟩) hS ?_
                              rotate_left
                              ·
                                have q1 := (stay_of_below hS).cell c2; have q2 := (stay_of_below hS).cell hc2; have q3 := (stay_of_below hS).cell e0; have g1 : (0 : Int) ≤ i1 := (by omega)
                                go_simp
                                try with_reducible rfl
                              simp only [List.getElem_toArray, List.getElem_cons_succ, List.getElem_cons_zero, Act.put, List.setIfInBounds_toArray, List.set_cons_zero, List.set_cons_succ]
                              refine wpAnyH_take (i := 23) (v := ?_) rfl (by kernel_rfl) (by kernel_rfl) (by kernel_rfl) (fun _ _ _ h => h) (.inl ⟨by kernel_rfl, fun w' hS => ?_⟩) hS ?_
                              rotate_left
                              ·
                                have q1 := (stay_of_below hS).cell c2; have q2 := (stay_of_below hS).cell hc2; have q3 := (stay_of_below hS).cell e0; have g1 : (0 : Int) ≤ i1 := (by omega)
                                go_simp
                                try with_reducible rfl
                              simp only [List.getElem_toArray, List.getElem_cons_succ, List.getElem_cons_zero, Act.put, List.setIfInBounds_toArray, List.set_cons_zero, List.set_cons_succ]
                              refine wpAnyH_take (i := 24) (v := ?_) rfl (by kernel_rfl) (by kernel_rfl) (by kernel_rfl) (fun _ _ _ h => h) (.inl ⟨by kernel_rfl, fun w' hS => ?_⟩) hS ?_
                              rotate_left
                              ·
                                have q1 := (stay_of_below hS).cell c2; have q2 := (stay_of_below hS).cell hc2; have q3 := (stay_of_below hS).cell e0; have g1 : (0 : Int) ≤ i1 := (by omega)
                                go_simp
                                try with_reducible rfl
                              simp only [List.getElem_toArray, List.getElem_cons_succ, List.getElem_cons_zero, Act.put, List.setIfInBounds_toArray, List.set_cons_zero, List.set_cons_succ]
                              refine wpAnyH_take (i := 25) (v := ?_) rfl (by kernel_rfl) (by kernel_rfl) (by kernel_rfl) (fun _ _ _ h => h) (.inl ⟨by kernel_rfl, fun w' hS => ?_⟩) hS ?_
                              rotate_left
                              ·
                                have q1 := (stay_of_below hS).cell c2; have q2 := (stay_of_below hS).cell hc2; have q3 := (stay_of_below hS).cell e0; have g1 : (0 : Int) ≤ i1 := (by omega)
                                go_simp
                                try with_reducible rfl
                              simp only [List.getElem_toArray, List.getElem_cons_succ, List.getElem_cons_zero, Act.put, List.setIfInBounds_toArray, List.set_cons_zero, List.set_cons_succ]
                              refine wpAnyH_take (i := 26) (v := ?_) rfl (by kernel_rfl) (by kernel_rfl) (by kernel_rfl) (fun _ _ _ h => h) (.inl ⟨by kernel_rfl, fun w' hS => ?_⟩) hS ?_
                              rotate_left
                              ·
                                have q1 := (stay_of_below hS).cell c2; have q2 := (stay_of_below hS).cell hc2; have q3 := (stay_of_below hS).cell e0; have g1 : (0 : Int) ≤ i1 := (by omega)
                                go_simp
                                try with_reducible rfl
                              simp only [List.getElem_toArray, List.getElem_cons_succ, List.getElem_cons_zero, Act.put, List.setIfInBounds_toArray, List.set_cons_zero, List.set_cons_succ]
                              refine wpAnyH_take (i := 27) (v := ?_) rfl (by kernel_rfl) (by kernel_rfl) (by kernel_rfl) (fun _ _ _ h => h) (.inl ⟨by kernel_rfl, fun w' hS => ?_⟩) hS ?_
                              rotate_left
                              ·
                                have q1 := (stay_of_below hS).cell c2; have q2 := (stay_of_below hS).cell hc2; have q3 := (stay_of_below hS).cell e0; have g1 : (0 : Int) ≤ i1 := (by omega)
                                go_simp
                                try with_reducible rfl
                              simp only [List.getElem_toArray, List.getElem_cons_succ, List.getElem_cons_zero, Act.put, List.setIfInBounds_toArray, List.set_cons_zero, List.set_cons_succ]
                              refine wpAnyH_take (i := 28) (v := ?_) rfl (by kernel_rfl) (by kernel_rfl) (by kernel_rfl) (fun _ _ _ h => h) (.inl ⟨by kernel_rfl, fun w' hS => ?_⟩) hS ?_
                              rotate_left
                              ·
                                have q1 := (stay_of_below hS).cell c2; have q2 := (stay_of_below hS).cell hc2; have q3 := (stay_of_below hS).cell e0; have g1 : (0 : Int) ≤ i1 := (by omega)
                                go_simp
                                try with_reducible rfl
                              simp only [List.getElem_toArray, List.getElem_cons_succ, List.getElem_cons_zero, Act.put, List.setIfInBounds_toArray, List.set_cons_zero, List.set_cons_succ]
                              refine wpAnyH_take (i := 29) (v := ?_) rfl (by kernel_rfl) (by kernel_rfl) (by kernel_rfl) (fun _ _ _ h => h) (.inl ⟨by kernel_rfl, fun w' hS => ?_⟩) hS ?_
                              rotate_left
                              ·
                                have q1 := (stay_of_below hS).cell c2; have q2 := (stay_of_below hS).cell hc2; have q3 := (stay_of_below hS).cell e0; have g1 : (0 : Int) ≤ i1 := (by omega)
                                go_simp
                                try with_reducible rfl
                              simp only [List.getElem_toArray, List.getElem_cons_succ, List.getElem_cons_zero, Act.put, List.setIfInBounds_toArray, List.set_cons_zero, List.set_cons_succ]
                              refine wpAnyH_take (i := 30) (v := ?_) rfl (by kernel_rfl) (by kernel_rfl) (by kernel_rfl) (fun _ _ _ h => h) (.inl ⟨by kernel_rfl, fun w' hS => ?_⟩) hS ?_
                              rotate_left
                              ·
                                have q1 := (stay_of_below hS).cell c2; have q2 := (stay_of_below hS).cell hc2; have q3 := (stay_of_below hS).cell e0; have g1 : (0 : Int) ≤ i1 := (by omega)
                                go_simp
                                try with_reducible rfl
                              simp only [List.getElem_toArray, List.getElem_cons_succ, List.getElem_cons_zero, Act.put, List.setIfInBounds_toArray, List.set_cons_zero, List.set_cons_succ]
                              refine wpAnyH_take (i := 31) (v := ?_) rfl (by kernel_rfl) (by kernel_rfl) (by kernel_rfl) (fun _ _ _ h => h) (.inl ⟨by kernel_rfl, fun w' hS => ?_⟩) hS ?_
                              rotate_left
                              ·
                                have q1 := (stay_of_below hS).cell c2; have q2 := (stay_of_below hS).cell hc2; have q3 := (stay_of_below hS).cell e0; have g1 : (0 : Int) ≤ i1 := (by omega)
                                go_simp
                                try with_reducible rfl
                              simp only [List.getElem_toArray, List.getElem_cons_succ, List.getElem_cons_zero, Act.put, List.setIfInBounds_toArray, List.set_cons_zero, List.set_cons_succ]
                              refine wpAnyH_ready (rs := [32]) (by kernel_rfl) (by simp) ?_
                              refine AllReadyH.cons rfl (fun K hK => ?_) AllReadyH.nil
                              clear hS
                              go_simp
                              refine (hi2.out).mono ?_
                              rintro e w8 ⟨rfl, rfl⟩
                              go_wp2_with fail
                              refine hK.out _ _ (hbd.out) (fun hS => ?_)
                              clear hK K
                              try simp only [List.getElem_toArray, List.getElem_cons_succ, List.getElem_cons_zero, Act.put, List.setIfInBounds_toArray, List.set_cons_zero, List.set_cons_succ]
                              refine wpAnyH_take (i := 33) (v := ?_) rfl (by kernel_rfl) (by kernel_rfl) (by kernel_rfl) (fun _ _ _ h => h) (.inl ⟨by kernel_rfl, fun w' hS => ?_⟩) hS ?_
                              rotate_left
                              ·
                                have g1 : 0 ≤ i2 := hz2
                                go_simp
                                try with_reducible rfl
                              simp only [List.getElem_toArray, List.getElem_cons_succ, List.getElem_cons_zero, Act.put, List.setIfInBounds_toArray, List.set_cons_zero, List.set_cons_succ]
                              refine wpAnyH_take (i := 34) (v := ?_) rfl (by kernel_rfl) (by kernel_rfl) (by kernel_rfl) (fun _ _ _ h => h) (.inl ⟨by kernel_rfl, fun w' hS => ?_⟩) hS ?_
                              rotate_left
                              ·
                                have g1 : 0 ≤ i2 := hz2
                                go_simp
                                try with_reducible rfl
                              simp only [List.getElem_toArray, List.getElem_cons_succ, List.getElem_cons_zero, Act.put, List.setIfInBounds_toArray, List.set_cons_zero, List.set_cons_succ]
                              refine wpAnyH_take (i := 35) (v := ?_) rfl (by kernel_rfl) (by kernel_rfl) (by kernel_rfl) (fun _ _ _ h => h) (.inl ⟨by kernel_rfl, fun w' hS => ?_⟩) hS ?_
                              rotate_left
                              ·
                                have g1 : 0 ≤ i2 := hz2
                                go_simp
                                try with_reducible rfl
                              simp only [List.getElem_toArray, List.getElem_cons_succ, List.getElem_cons_zero, Act.put, List.setIfInBounds_toArray, List.set_cons_zero, List.set_cons_succ]
                              refine wpAnyH_done (by kernel_rfl) ?_ _
                              clear hS
                              go_wp2
                              go_roundw
                              case rel => exact ⟨m + 1, hmm1.out, by go_num, hnx.out, hbd⟩
                              case measure => have := hmm1.out; simp [intOf]; omega
                      · have hmi : ¬ (m : Int) < (bs.length : Int) := by omega
                        obtain rfl : m = bs.length := by omega
                        clear hltm
                        by_cases h1 : rootsR bs x bs.length ≤ 1
                        · have hin2 := Lib.hid (hall2.out h1)
                          have h1i : ¬ (1 : Int) < (rootsR bs x bs.length : Nat) := by omega
                          clear hno2 hall2
                          generalize rootsR bs x bs.length = rr at *
                          go_wp2
                          go_roundw
                          case rel => exact ⟨n + 1, hn1.out, by go_num, hbw, hin2⟩
                          case measure => have := hn1.out; simp [intOf]; omega
                        · have hqf := Lib.hid (hno2.out h1)
                          have h1i : (1 : Int) < (rootsR bs x bs.length : Nat) := by omega
                          have hfin := Lib.hid (hb2.out.trans (hbw.out.mono hb2.out.size))
                          clear hno2 hall2
                          generalize rootsR bs x bs.length = rr at *
                          go_wp2
                          go_ret
                          exact ⟨ret_bool hqf.out.symm, hfin.out⟩
                  · have hni : ¬ (n : Int) < (ns.length : Int) := by omega
                    obtain rfl : n = ns.length := by omega
                    have hCt : Hid (C = true) := Lib.hid (by
                      rw [← hC.out, List.all_eq_true]
                      intro e he
                      obtain ⟨j, hj, rfl⟩ := List.getElem_of_mem he
                      exact decide_eq_true (hin.out j hj hj))
                    have hqt := Lib.hid (hqT.out hAt.out hBt.out hCt.out)
                    have hfin := Lib.hid (hb2.out.trans (hbw.out.mono hb2.out.size))
                    clear hin hlt
                    go_wp2
                    go_ret
                    exact ⟨ret_bool hqt.out.symm, hfin.out⟩
end Go.Proofs.Ytnocncmjdhlmkaa.hyp
