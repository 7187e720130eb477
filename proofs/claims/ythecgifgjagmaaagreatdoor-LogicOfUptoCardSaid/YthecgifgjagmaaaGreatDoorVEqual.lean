/- Contracts of Equal, Less: the truth of being equal, of being below. -/
import Derived.Test.YthecgifgjagmaaaGreatDoorVEq
namespace Go.Proofs.YthecgifgjagmaaaGreatDoor.val
open Go.ChangeShapes Go.WideShapes Go.ChangeAt Go.RowKit kit dec
set_option linter.unusedVariables false
set_option linter.unusedSimpArgs false
set_option maxRecDepth 100000 in
set_option maxHeartbeats 1000000 in
theorem equalX_call (N : Nat) (lang : Int) (hN : N ≤ 9223372036854775807) (w : World) (hE : Env w) (k : Int) (b : Bool) (n : Int) (hn : In64 n) (t x : ByteArray) (s : Value) (l : List V) (k2 : Int) (bb : Bool) (n2 : Int) (hn2 : In64 n2) (t2 x2 : ByteArray) (s2 : Value) (l2 : List V)
    (ha : LA w N s l) (ht : t.size ≤ N) (hx : x.size ≤ N) (ha2 : LA w N s2 l2) (ht2 : t2.size ≤ N) (hx2 : x2.size ≤ N) :
    Calls Tryz.prog 16 #[.int .i64 lang, agg6 k b n t x s, agg6 k2 bb n2 t2 x2 s2] w fun e w' => e = .returned (.int .i64 (equalV (decide (lang = 1)) (.mk k b n t x l) (.mk k2 bb n2 t2 x2 l2))) ∧ Below w.heap.size w w' := by
  have h2 := B2.made w (c6 k b n t x s) (c6 k2 bb n2 t2 x2 s2)
  have hc1 : ∀ W, Below w.heap.size w W → Calls Tryz.prog 24 #[agg6 k b n t x s] W fun e w' => e = .returned (.bool (mayV (.mk k b n t x l))) ∧ Below W.heap.size W w' := fun W hb => check_any N hN W (hE.below hb) k b n t x s l (ha.stay hb) ht hx
  have hc2 : ∀ W, Below w.heap.size w W → Calls Tryz.prog 24 #[agg6 k2 bb n2 t2 x2 s2] W fun e w' => e = .returned (.bool (mayV (.mk k2 bb n2 t2 x2 l2))) ∧ Below W.heap.size W w' := fun W hb => check_any N hN W (hE.below hb) k2 bb n2 t2 x2 s2 l2 (ha2.stay hb) ht2 hx2
  have heq : ∀ W, Below w.heap.size w W → Calls Tryz.prog 43 #[.int .i64 lang, agg6 k b n t x s, agg6 k2 bb n2 t2 x2 s2] W fun e w' => e = .returned (.int .i64 (eqlV (decide (lang = 1)) (.mk k b n t x l) (.mk k2 bb n2 t2 x2 l2))) ∧ Below W.heap.size W w' := fun W hb => equal_allX N hN lang (SizeOf.sizeOf l + 1) W (hE.below hb) k b n hn t x s l k2 bb n2 hn2 t2 x2 s2 l2 (Nat.lt_succ_self _) (ha.stay hb) (ha2.stay hb)
  unfold equalV
  generalize eqlV (decide (lang = 1)) (.mk k b n t x l) (.mk k2 bb n2 t2 x2 l2) = R at *
  clear ha ha2 hE
  generalize mayV (.mk k b n t x l) = p at *
  generalize mayV (.mk k2 bb n2 t2 x2 l2) = p2 at *
  obtain ⟨Q, hQ⟩ : ∃ Q, (if (p && p2) = true then R else 2) = Q := ⟨_, rfl⟩
  rw [hQ]
  replace hQ := Lib.hid hQ
  unfold agg6 at hc1 hc2 heq ⊢
  unfold c6 at h2
  replace hc1 := Lib.hid hc1
  replace hc2 := Lib.hid hc2
  replace heq := Lib.hid heq
  go_enter Tryz.func16, Tryz.ntmps16
  go_wp2_with fail
  refine (hc1.out _ h2.below).mono ?_
  rintro e w3 ⟨rfl, hb3⟩
  have h3 := h2.on hb3
  clear h2 hb3
  have x0 := h3.b0.cell 0 rfl
  have x1 := h3.b0.cell 1 rfl
  have x2' := h3.b0.cell 2 rfl
  have x3 := h3.b0.cell 3 rfl
  have x4 := h3.b0.cell 4 rfl
  have x5 := h3.b0.cell 5 rfl
  have y0 := h3.b1.cell 0 rfl
  have y1 := h3.b1.cell 1 rfl
  have y2 := h3.b1.cell 2 rfl
  have y3 := h3.b1.cell 3 rfl
  have y4 := h3.b1.cell 4 rfl
  have y5 := h3.b1.cell 5 rfl
  replace h3 := Lib.hid h3
  cases p
  · go_wp2
    go_ret
    exact ⟨ret_int (by rw [← hQ.out]; rfl), h3.out.below⟩
  · go_wp2_with fail
    refine (hc2.out _ h3.out.below).mono ?_
    rintro e w4 ⟨rfl, hb4⟩
    have h4 := h3.out.on hb4
    clear h3 hb4 x0 x1 x2' x3 x4 x5 y0 y1 y2 y3 y4 y5
    have x0 := h4.b0.cell 0 rfl
    have x1 := h4.b0.cell 1 rfl
    have x2' := h4.b0.cell 2 rfl
    have x3 := h4.b0.cell 3 rfl
    have x4 := h4.b0.cell 4 rfl
    have x5 := h4.b0.cell 5 rfl
    have y0 := h4.b1.cell 0 rfl
    have y1 := h4.b1.cell 1 rfl
    have y2 := h4.b1.cell 2 rfl
    have y3 := h4.b1.cell 3 rfl
    have y4 := h4.b1.cell 4 rfl
    have y5 := h4.b1.cell 5 rfl
    replace h4 := Lib.hid h4
    cases p2
    · go_wp2
      go_ret
      exact ⟨ret_int (by rw [← hQ.out]; rfl), h4.out.below⟩
    · go_wp2_with fail
      refine (heq.out _ h4.out.below).mono ?_
      rintro e w5 ⟨rfl, hb5⟩
      have hb6 := Lib.hid (h4.out.below.trans (hb5.mono h4.out.below.size))
      clear hb5
      go_wp2
      go_ret
      exact ⟨ret_int (by rw [← hQ.out]; rfl), hb6.out⟩

theorem less_facts (k : Int) (b : Bool) (n : Int) (t x : ByteArray) (l : List V) (k2 : Int) (b2 : Bool) (n2 : Int) (t2 x2 : ByteArray) (l2 : List V) :
    ((isNum k && isNum k2) = true → b2i (decide (cmpI (numV k n t) (numV k2 n2 t2) < 0)) = lessW (.mk k b n t x l) (.mk k2 b2 n2 t2 x2 l2)) ∧
    ((isNum k && isNum k2) = false → (k = 4 → k2 = 4 → b2i (Op.bytesLess t.toList t2.toList) = lessW (.mk k b n t x l) (.mk k2 b2 n2 t2 x2 l2)) ∧ (k = 1 → k2 = 1 → b2i (!b && b2) = lessW (.mk k b n t x l) (.mk k2 b2 n2 t2 x2 l2)) ∧
      (¬ (k = 4 ∧ k2 = 4) → ¬ (k = 1 ∧ k2 = 1) → 2 = lessW (.mk k b n t x l) (.mk k2 b2 n2 t2 x2 l2))) := by
  unfold lessW
  dsimp only
  refine ⟨fun h => ?_, fun h => ⟨fun h1 h2 => ?_, fun h1 h2 => ?_, fun h1 h2 => ?_⟩⟩
  · rw [if_pos h]
    congr 1
    rw [decide_eq_decide, cmpI_lt]
  · rw [if_neg (by rw [h]; decide), if_pos ⟨h1, h2⟩]
  · rw [if_neg (by rw [h]; decide), if_neg (by omega), if_pos ⟨h1, h2⟩]
  · rw [if_neg (by rw [h]; decide), if_neg h1, if_neg h2]
set_option maxRecDepth 100000 in
set_option maxHeartbeats 2000000 in
theorem less_call (N : Nat) (lang : Int) (hN : N ≤ 9223372036854775807) (w : World) (hE : Env w) (k : Int) (b : Bool) (n : Int) (hn : In64 n) (t x : ByteArray) (s : Value) (l : List V) (k2 : Int) (bb : Bool) (n2 : Int) (hn2 : In64 n2) (t2 x2 : ByteArray) (s2 : Value) (l2 : List V)
    (ha : LA w N s l) (ht : t.size ≤ N) (hx : x.size ≤ N) (ha2 : LA w N s2 l2) (ht2 : t2.size ≤ N) (hx2 : x2.size ≤ N) :
    Calls Tryz.prog 23 #[.int .i64 lang, agg6 k b n t x s, agg6 k2 bb n2 t2 x2 s2] w fun e w' => e = .returned (.int .i64 (lessV (.mk k b n t x l) (.mk k2 bb n2 t2 x2 l2))) ∧ Below w.heap.size w w' := by
  have h2 := B2.made w (c6 k b n t x s) (c6 k2 bb n2 t2 x2 s2)
  have hc1 : ∀ W, Below w.heap.size w W → Calls Tryz.prog 24 #[agg6 k b n t x s] W fun e w' => e = .returned (.bool (mayV (.mk k b n t x l))) ∧ Below W.heap.size W w' := fun W hb => check_any N hN W (hE.below hb) k b n t x s l (ha.stay hb) ht hx
  have hc2 : ∀ W, Below w.heap.size w W → Calls Tryz.prog 24 #[agg6 k2 bb n2 t2 x2 s2] W fun e w' => e = .returned (.bool (mayV (.mk k2 bb n2 t2 x2 l2))) ∧ Below W.heap.size W w' := fun W hb => check_any N hN W (hE.below hb) k2 bb n2 t2 x2 s2 l2 (ha2.stay hb) ht2 hx2
  have hcmp : ∀ W, Below w.heap.size w W → Calls Tryz.prog 53 #[agg6 k b n t x s, agg6 k2 bb n2 t2 x2 s2] W fun e w' => e = .returned (.int .i64 (cmpI (numV k n t) (numV k2 n2 t2))) ∧ Below W.heap.size W w' := fun W hb => compare_call k b n hn t x s k2 bb n2 hn2 t2 x2 s2 W (hE.below hb)
  have hnum : ∀ W, Calls Tryz.prog 51 #[agg6 k b n t x s] W fun e w' => e = .returned (.bool (decide (k = 2 ∨ k = 3))) ∧ Below W.heap.size W w' := fun W => number_any k b n t x s W
  have hnum2 : ∀ W, Calls Tryz.prog 51 #[agg6 k2 bb n2 t2 x2 s2] W fun e w' => e = .returned (.bool (decide (k2 = 2 ∨ k2 = 3))) ∧ Below W.heap.size W w' := fun W => number_any k2 bb n2 t2 x2 s2 W
  obtain ⟨hRy, hRn⟩ := less_facts k b n t x l k2 bb n2 t2 x2 l2
  unfold lessV
  generalize lessW (.mk k b n t x l) (.mk k2 bb n2 t2 x2 l2) = R at *
  clear ha ha2 hE
  generalize mayV (.mk k b n t x l) = p at *
  generalize mayV (.mk k2 bb n2 t2 x2 l2) = p2 at *
  obtain ⟨Q, hQ⟩ : ∃ Q, (if (p && p2) = true then R else 2) = Q := ⟨_, rfl⟩
  rw [hQ]
  replace hQ := Lib.hid hQ
  unfold isNum at hRy hRn
  obtain ⟨m1, hm1⟩ : ∃ p, decide (k = 2 ∨ k = 3) = p := ⟨_, rfl⟩
  obtain ⟨m2, hm2⟩ : ∃ p, decide (k2 = 2 ∨ k2 = 3) = p := ⟨_, rfl⟩
  rw [hm1] at hnum
  rw [hm2] at hnum2
  rw [hm1, hm2] at hRy hRn
  clear hm1 hm2
  generalize cmpI (numV k n t) (numV k2 n2 t2) = Z at *
  unfold agg6 at hc1 hc2 hcmp hnum hnum2 ⊢
  unfold c6 at h2
  replace hc1 := Lib.hid hc1
  replace hc2 := Lib.hid hc2
  replace hcmp := Lib.hid hcmp
  replace hnum := Lib.hid hnum
  replace hnum2 := Lib.hid hnum2
  replace hRy := Lib.hid hRy
  replace hRn := Lib.hid hRn
  go_enter Tryz.func23, Tryz.ntmps23
  go_wp2_with fail
  refine (hc1.out _ h2.below).mono ?_
  rintro e w3 ⟨rfl, hb3⟩
  have h3 := h2.on hb3
  clear h2 hb3
  have x0 := h3.b0.cell 0 rfl
  have x1 := h3.b0.cell 1 rfl
  have x2' := h3.b0.cell 2 rfl
  have x3 := h3.b0.cell 3 rfl
  have x4 := h3.b0.cell 4 rfl
  have x5 := h3.b0.cell 5 rfl
  have y0 := h3.b1.cell 0 rfl
  have y1 := h3.b1.cell 1 rfl
  have y2 := h3.b1.cell 2 rfl
  have y3 := h3.b1.cell 3 rfl
  have y4 := h3.b1.cell 4 rfl
  have y5 := h3.b1.cell 5 rfl
  replace h3 := Lib.hid h3
  cases p
  · go_wp2
    go_ret
    exact ⟨ret_int (by rw [← hQ.out]; rfl), h3.out.below⟩
  · go_wp2_with fail
    refine (hc2.out _ h3.out.below).mono ?_
    rintro e w4 ⟨rfl, hb4⟩
    have h4 := h3.out.on hb4
    clear h3 hb4 x0 x1 x2' x3 x4 x5 y0 y1 y2 y3 y4 y5
    have x0 := h4.b0.cell 0 rfl
    have x1 := h4.b0.cell 1 rfl
    have x2' := h4.b0.cell 2 rfl
    have x3 := h4.b0.cell 3 rfl
    have x4 := h4.b0.cell 4 rfl
    have x5 := h4.b0.cell 5 rfl
    have y0 := h4.b1.cell 0 rfl
    have y1 := h4.b1.cell 1 rfl
    have y2 := h4.b1.cell 2 rfl
    have y3 := h4.b1.cell 3 rfl
    have y4 := h4.b1.cell 4 rfl
    have y5 := h4.b1.cell 5 rfl
    replace h4 := Lib.hid h4
    cases p2
    · go_wp2
      go_ret
      exact ⟨ret_int (by rw [← hQ.out]; rfl), h4.out.below⟩
    · have hQ2 : Hid (R = Q) := Lib.hid (by have := hQ.out; simpa using this)
      clear hQ
      go_wp2_with fail
      refine (hnum.out _).mono ?_
      rintro e w5 ⟨rfl, hb5⟩
      have h5 := h4.out.on hb5
      clear h4 hb5 x0 x1 x2' x3 x4 x5 y0 y1 y2 y3 y4 y5
      have x0 := h5.b0.cell 0 rfl
      have x1 := h5.b0.cell 1 rfl
      have x2' := h5.b0.cell 2 rfl
      have x3 := h5.b0.cell 3 rfl
      have x4 := h5.b0.cell 4 rfl
      have x5 := h5.b0.cell 5 rfl
      have y0 := h5.b1.cell 0 rfl
      have y1 := h5.b1.cell 1 rfl
      have y2 := h5.b1.cell 2 rfl
      have y3 := h5.b1.cell 3 rfl
      have y4 := h5.b1.cell 4 rfl
      have y5 := h5.b1.cell 5 rfl
      replace h5 := Lib.hid h5
      cases m1
      · replace hRn := Lib.hid (hRn.out rfl)
        -- neither both numbers: texts, bools, nothing
        by_cases ht4 : k = 4 ∧ k2 = 4
        · obtain ⟨rfl, rfl⟩ := ht4
          have hR := Lib.hid ((hRn.out).1 rfl rfl)
          clear hRn
          go_wp2_with (go_at_call 52; refine (truth_b _ _).mono ?_; rintro e w9 ⟨rfl, hw9⟩; rw [hw9]; clear hw9)
          go_ret
          exact ⟨ret_int (by rw [hR.out]; exact hQ2.out), h5.out.below⟩
        by_cases ht1 : k = 1 ∧ k2 = 1
        · obtain ⟨rfl, rfl⟩ := ht1
          have hR := Lib.hid ((hRn.out).2.1 rfl rfl)
          clear hRn ht4
          cases b
          all_goals
            go_wp2_with (go_at_call 52; refine (truth_b _ _).mono ?_; rintro e w9 ⟨rfl, hw9⟩; rw [hw9]; clear hw9)
            go_ret
            exact ⟨ret_int (by rw [← hQ2.out, ← hR.out]; simp), h5.out.below⟩
        have hR := Lib.hid ((hRn.out).2.2 ht4 ht1)
        clear hRn
        obtain ⟨q4, hq4⟩ : ∃ q : Bool, (k == 4) = q := ⟨_, rfl⟩
        obtain ⟨q42, hq42⟩ : ∃ q : Bool, (k2 == 4) = q := ⟨_, rfl⟩
        obtain ⟨q1, hq1⟩ : ∃ q : Bool, (k == 1) = q := ⟨_, rfl⟩
        obtain ⟨q12, hq12⟩ : ∃ q : Bool, (k2 == 1) = q := ⟨_, rfl⟩
        have h44 : (q4 && q42) = false := by
          rw [← hq4, ← hq42]
          apply Bool.eq_false_iff.2
          intro h
          rw [Bool.and_eq_true, beq_iff_eq, beq_iff_eq] at h
          exact ht4 h
        have h11 : (q1 && q12) = false := by
          rw [← hq1, ← hq12]
          apply Bool.eq_false_iff.2
          intro h
          rw [Bool.and_eq_true, beq_iff_eq, beq_iff_eq] at h
          exact ht1 h
        clear ht4 ht1
        cases q4
        · clear h44
          cases q1
          · clear h11
            go_wp2
            go_ret
            exact ⟨ret_int (by rw [← hQ2.out, ← hR.out]), h5.out.below⟩
          · obtain rfl : q12 = false := by simpa using h11
            go_wp2
            go_ret
            exact ⟨ret_int (by rw [← hQ2.out, ← hR.out]), h5.out.below⟩
        · obtain rfl : q42 = false := by simpa using h44
          cases q1
          · clear h11
            go_wp2
            go_ret
            exact ⟨ret_int (by rw [← hQ2.out, ← hR.out]), h5.out.below⟩
          · obtain rfl : q12 = false := by simpa using h11
            go_wp2
            go_ret
            exact ⟨ret_int (by rw [← hQ2.out, ← hR.out]), h5.out.below⟩
      · go_wp2_with fail
        refine (hnum2.out _).mono ?_
        rintro e w6 ⟨rfl, hb6⟩
        have h6 := h5.out.on hb6
        clear h5 hb6 x0 x1 x2' x3 x4 x5 y0 y1 y2 y3 y4 y5
        have x0 := h6.b0.cell 0 rfl
        have x1 := h6.b0.cell 1 rfl
        have x2' := h6.b0.cell 2 rfl
        have x3 := h6.b0.cell 3 rfl
        have x4 := h6.b0.cell 4 rfl
        have x5 := h6.b0.cell 5 rfl
        have y0 := h6.b1.cell 0 rfl
        have y1 := h6.b1.cell 1 rfl
        have y2 := h6.b1.cell 2 rfl
        have y3 := h6.b1.cell 3 rfl
        have y4 := h6.b1.cell 4 rfl
        have y5 := h6.b1.cell 5 rfl
        replace h6 := Lib.hid h6
        cases m2
        · replace hRn := Lib.hid (hRn.out rfl)
          -- neither both numbers: texts, bools, nothing
          by_cases ht4 : k = 4 ∧ k2 = 4
          · obtain ⟨rfl, rfl⟩ := ht4
            have hR := Lib.hid ((hRn.out).1 rfl rfl)
            clear hRn
            go_wp2_with (go_at_call 52; refine (truth_b _ _).mono ?_; rintro e w9 ⟨rfl, hw9⟩; rw [hw9]; clear hw9)
            go_ret
            exact ⟨ret_int (by rw [hR.out]; exact hQ2.out), h6.out.below⟩
          by_cases ht1 : k = 1 ∧ k2 = 1
          · obtain ⟨rfl, rfl⟩ := ht1
            have hR := Lib.hid ((hRn.out).2.1 rfl rfl)
            clear hRn ht4
            cases b
            all_goals
              go_wp2_with (go_at_call 52; refine (truth_b _ _).mono ?_; rintro e w9 ⟨rfl, hw9⟩; rw [hw9]; clear hw9)
              go_ret
              exact ⟨ret_int (by rw [← hQ2.out, ← hR.out]; simp), h6.out.below⟩
          have hR := Lib.hid ((hRn.out).2.2 ht4 ht1)
          clear hRn
          obtain ⟨q4, hq4⟩ : ∃ q : Bool, (k == 4) = q := ⟨_, rfl⟩
          obtain ⟨q42, hq42⟩ : ∃ q : Bool, (k2 == 4) = q := ⟨_, rfl⟩
          obtain ⟨q1, hq1⟩ : ∃ q : Bool, (k == 1) = q := ⟨_, rfl⟩
          obtain ⟨q12, hq12⟩ : ∃ q : Bool, (k2 == 1) = q := ⟨_, rfl⟩
          have h44 : (q4 && q42) = false := by
            rw [← hq4, ← hq42]
            apply Bool.eq_false_iff.2
            intro h
            rw [Bool.and_eq_true, beq_iff_eq, beq_iff_eq] at h
            exact ht4 h
          have h11 : (q1 && q12) = false := by
            rw [← hq1, ← hq12]
            apply Bool.eq_false_iff.2
            intro h
            rw [Bool.and_eq_true, beq_iff_eq, beq_iff_eq] at h
            exact ht1 h
          clear ht4 ht1
          cases q4
          · clear h44
            cases q1
            · clear h11
              go_wp2
              go_ret
              exact ⟨ret_int (by rw [← hQ2.out, ← hR.out]), h6.out.below⟩
            · obtain rfl : q12 = false := by simpa using h11
              go_wp2
              go_ret
              exact ⟨ret_int (by rw [← hQ2.out, ← hR.out]), h6.out.below⟩
          · obtain rfl : q42 = false := by simpa using h44
            cases q1
            · clear h11
              go_wp2
              go_ret
              exact ⟨ret_int (by rw [← hQ2.out, ← hR.out]), h6.out.below⟩
            · obtain rfl : q12 = false := by simpa using h11
              go_wp2
              go_ret
              exact ⟨ret_int (by rw [← hQ2.out, ← hR.out]), h6.out.below⟩
        · have hR := Lib.hid (hRy.out rfl)
          clear hRn hRy
          go_wp2_with fail
          refine (hcmp.out _ h6.out.below).mono ?_
          rintro e w7 ⟨rfl, hb7⟩
          have hbe := Lib.hid (h6.out.on hb7).below
          clear h6 hb7
          go_wp2_with (go_at_call 52; refine (truth_b _ _).mono ?_; rintro e w9 ⟨rfl, hw9⟩; rw [hw9]; clear hw9)
          go_ret
          exact ⟨ret_int (by rw [← hQ2.out, ← hR.out]), hbe.out⟩
end Go.Proofs.YthecgifgjagmaaaGreatDoor.val
