/- Contract of value.ints: what an operation makes of two whole numbers. -/
import Derived.Test.YtjncjcellpbhcaaGreatDoorVArithA
namespace Go.Proofs.YtjncjcellpbhcaaGreatDoor.val
open Go.ChangeShapes Go.WideShapes Go.ChangeAt Go.RowKit kit dec
set_option linter.unusedVariables false
set_option linter.unusedSimpArgs false
theorem inV_yes {n : Int} (h : -9223372036854775808 ≤ n ∧ n ≤ 9223372036854775807) : inV n = (.mk 2 false n ByteArray.empty ByteArray.empty [], 0) := by unfold inV; rw [if_pos h]
theorem inV_no {n : Int} (h : ¬ (-9223372036854775808 ≤ n ∧ n ≤ 9223372036854775807)) : inV n = (zV, 2) := by unfold inV; rw [if_neg h]
set_option maxRecDepth 100000 in
set_option maxHeartbeats 4000000 in
theorem ints_call (lang op a b : Int) (w : World) (hE : Env w) (ha : In64 a) (hb : In64 b) : Calls Tryz.prog 29 #[.int .i64 lang, .int .i64 op, .int .i64 a, .int .i64 b] w fun e w' => e = .returned (tupR (intsV (decide (lang = 1)) op a b)) ∧ Below w.heap.size w w' := by
  have hbl : ∀ cs : Array Value, Below w.heap.size w (w.alloc (.cells cs 26)) := fun cs => (Below.refl _ _).alloc (Nat.le_refl _) _
  replace hbl := Lib.hid hbl
  by_cases h17 : op = 17
  · subst h17
    have hR : intsV (decide (lang = 1)) 17 a b = inV (a + b) := by unfold intsV; simp
    rw [hR]; clear hR
    obtain ⟨m, hm, h1, h2⟩ := add_fits a b ha hb
    by_cases h : -9223372036854775808 ≤ a + b ∧ a + b ≤ 9223372036854775807
    · rw [inV_yes h]
      obtain ⟨rfl, hq⟩ := h1 h
      rw [IntWalk.i64_left] at hm
      clear h h1 h2 ha hb hE
      go_enter Tryz.func29, Tryz.ntmps29
      go_wp2
      refine bodyPost_ret (v := tupR (V.mk 2 false (a + b) ByteArray.empty ByteArray.empty [], 0)) (res2 rfl _ _ w.heap.size 26 _ (0, 0) _ _ rfl rfl (Blk.new w _ _).eq Tryz.underlying26 rfl infoV6) rfl ⟨rfl, hbl.out _⟩
    · rw [inV_no h]
      have hq := h2 h
      rw [IntWalk.i64_left] at hm
      clear h h1 h2 ha hb hE
      go_enter Tryz.func29, Tryz.ntmps29
      go_wp2
      refine bodyPost_ret (v := tupR (zV, 2)) (res2 rfl _ _ w.heap.size 26 _ (0, 0) _ _ rfl rfl (Blk.new w _ _).eq Tryz.underlying26 rfl infoV6) rfl ⟨rfl, hbl.out _⟩
  by_cases h18 : op = 18
  · subst h18
    have hR : intsV (decide (lang = 1)) 18 a b = inV (a - b) := by unfold intsV; simp
    rw [hR]; clear hR
    obtain ⟨m, hm, h1, h2⟩ := sub_fits a b ha hb
    by_cases h : -9223372036854775808 ≤ a - b ∧ a - b ≤ 9223372036854775807
    · rw [inV_yes h]
      obtain ⟨rfl, hq⟩ := h1 h
      rw [IntWalk.i64_left] at hm
      clear h h1 h2 ha hb hE h17
      go_enter Tryz.func29, Tryz.ntmps29
      go_wp2
      refine bodyPost_ret (v := tupR (V.mk 2 false (a - b) ByteArray.empty ByteArray.empty [], 0)) (res2 rfl _ _ w.heap.size 26 _ (0, 0) _ _ rfl rfl (Blk.new w _ _).eq Tryz.underlying26 rfl infoV6) rfl ⟨rfl, hbl.out _⟩
    · rw [inV_no h]
      have hq := h2 h
      rw [IntWalk.i64_left] at hm
      clear h h1 h2 ha hb hE h17
      go_enter Tryz.func29, Tryz.ntmps29
      go_wp2
      refine bodyPost_ret (v := tupR (zV, 2)) (res2 rfl _ _ w.heap.size 26 _ (0, 0) _ _ rfl rfl (Blk.new w _ _).eq Tryz.underlying26 rfl infoV6) rfl ⟨rfl, hbl.out _⟩
  by_cases h19 : op = 19
  · subst h19
    have hR : intsV (decide (lang = 1)) 19 a b = inV (a * b) := by unfold intsV; simp
    rw [hR]; clear hR
    by_cases h0 : a = 0
    · subst h0
      rw [Int.zero_mul, inV_yes (by decide)]
      clear ha hb hE h17 h18
      go_enter Tryz.func29, Tryz.ntmps29
      go_wp2
      refine bodyPost_ret (v := tupR (V.mk 2 false (0) ByteArray.empty ByteArray.empty [], 0)) (res2 rfl _ _ w.heap.size 26 _ (0, 0) _ _ rfl rfl (Blk.new w _ _).eq Tryz.underlying26 rfl infoV6) rfl ⟨rfl, hbl.out _⟩
    have q0 : (a == 0) = false := beq_eq_false_iff_ne.2 h0
    by_cases h : -9223372036854775808 ≤ a * b ∧ a * b ≤ 9223372036854775807
    · rw [inV_yes h]
      obtain ⟨e1, e2, e3⟩ := mul_in a b h0 h hb
      have e4 : wrap64 b = b := by rw [← IntWalk.i64_left]; exact IntWalk.i64_in _ hb
      have e5 : (a * b).tdiv a = b := Int.mul_tdiv_cancel_left b h0
      rw [IntWalk.i64_left] at e1 e2
      clear h ha hb hE h17 h18
      by_cases hm1 : a = -1
      · subst hm1
        have qb : (b == -9223372036854775808) = false := beq_eq_false_iff_ne.2 fun e => e3 ⟨rfl, e⟩
        rw [Int.neg_one_mul] at e1 e2 e5 ⊢
        clear e3
        go_enter Tryz.func29, Tryz.ntmps29
        go_wp2
        refine bodyPost_ret (v := tupR (V.mk 2 false (-b) ByteArray.empty ByteArray.empty [], 0)) (res2 rfl _ _ w.heap.size 26 _ (0, 0) _ _ rfl rfl (Blk.new w _ _).eq Tryz.underlying26 rfl infoV6) rfl ⟨rfl, hbl.out _⟩
      · have qa : (a == -1) = false := beq_eq_false_iff_ne.2 hm1
        clear e3 hm1
        go_enter Tryz.func29, Tryz.ntmps29
        go_wp2
        refine bodyPost_ret (v := tupR (V.mk 2 false (a * b) ByteArray.empty ByteArray.empty [], 0)) (res2 rfl _ _ w.heap.size 26 _ (0, 0) _ _ rfl rfl (Blk.new w _ _).eq Tryz.underlying26 rfl infoV6) rfl ⟨rfl, hbl.out _⟩
    · rw [inV_no h]
      by_cases h1 : a = -1 ∧ b = -9223372036854775808
      · obtain ⟨rfl, rfl⟩ := h1
        have e1 : wrap64 9223372036854775808 = -9223372036854775808 := by unfold wrap64; omega
        clear h ha hb hE h17 h18 h0
        go_enter Tryz.func29, Tryz.ntmps29
        go_wp2
        refine bodyPost_ret (v := tupR (zV, 2)) (res2 rfl _ _ w.heap.size 26 _ (0, 0) _ _ rfl rfl (Blk.new w _ _).eq Tryz.underlying26 rfl infoV6) rfl ⟨rfl, hbl.out _⟩
      · have e1 := mul_out a b ha hb h0 h h1
        obtain ⟨n, hn⟩ : ∃ n, IntKind.i64.wrap (a * b) = n := ⟨_, rfl⟩
        rw [hn] at e1
        obtain ⟨q, hq⟩ : ∃ q, IntKind.i64.wrap (n.tdiv a) = q := ⟨_, rfl⟩
        rw [hq] at e1
        have q1 : (q == b) = false := beq_eq_false_iff_ne.2 e1
        rw [IntWalk.i64_left] at hn hq
        clear h e1 h1 ha hb hE h17 h18
        go_enter Tryz.func29, Tryz.ntmps29
        go_wp2
        refine bodyPost_ret (v := tupR (zV, 2)) (res2 rfl _ _ w.heap.size 26 _ (0, 0) _ _ rfl rfl (Blk.new w _ _).eq Tryz.underlying26 rfl infoV6) rfl ⟨rfl, hbl.out _⟩
  by_cases h0 : b = 0
  · subst h0
    have hR : intsV (decide (lang = 1)) op a 0 = (zV, 3) := by unfold intsV; simp [*]
    rw [hR]; clear hR
    clear ha hb hE
    go_enter Tryz.func29, Tryz.ntmps29
    go_wp2
    refine bodyPost_ret (v := tupR (zV, 3)) (res2 rfl _ _ w.heap.size 26 _ (0, 0) _ _ rfl rfl (Blk.new w _ _).eq Tryz.underlying26 rfl infoV6) rfl ⟨rfl, hbl.out _⟩
  have q0 : (b == 0) = false := beq_eq_false_iff_ne.2 h0
  by_cases h21 : op = 21
  · subst h21
    have hR : intsV (decide (lang = 1)) 21 a b = inV (a.tmod b) := by unfold intsV; simp [*]
    have h := tmod_in a b ha h0
    rw [hR, inV_yes h]; clear hR
    clear h ha hb hE
    go_enter Tryz.func29, Tryz.ntmps29
    go_wp2
    refine bodyPost_ret (v := tupR (V.mk 2 false (a.tmod b) ByteArray.empty ByteArray.empty [], 0)) (res2 rfl _ _ w.heap.size 26 _ (0, 0) _ _ rfl rfl (Blk.new w _ _).eq Tryz.underlying26 rfl infoV6) rfl ⟨rfl, hbl.out _⟩
  by_cases hs : op = 20 ∧ lang = 1
  · obtain ⟨rfl, rfl⟩ := hs
    have hR : intsV (decide ((1 : Int) = 1)) 20 a b = wholeV (decP 20 (canon (a * E20)) (canon (b * E20))) := by unfold intsV decP; simp [*]
    rw [hR]; clear hR
    have hkd := wholeV_kids (decP 20 (canon (a * E20)) (canon (b * E20)))
    have hq := Blk.new w #[.int .i64 0, .bool false, .int .i64 0, .string ByteArray.empty, .string ByteArray.empty, .slice none 0 0] 26
    have hb0 := hbl.out #[.int .i64 0, .bool false, .int .i64 0, .string ByteArray.empty, .string ByteArray.empty, .slice none 0 0]
    have hx := fun W (h : Below w.heap.size w W) => ofInt_call a W (hE.below h) ha.1 ha.2
    have hy := fun W (h : Below w.heap.size w W) => ofInt_call b W (hE.below h) hb.1 hb.2
    have hd := fun W (h : Below w.heap.size w W) => decimals_call 20 (tx (canon (a * E20))) (tx (canon (b * E20))) W (hE.below h)
    simp only [tx_list] at hd
    rw [wholeR_V] at hd
    generalize wholeV (decP 20 (canon (a * E20)) (canon (b * E20))) = R at *
    generalize tx (canon (a * E20)) = X at *
    generalize tx (canon (b * E20)) = Y at *
    obtain ⟨⟨kr, br, nr, tr, xr, lr⟩, er⟩ := R
    obtain rfl : lr = [] := hkd
    unfold tupR val6 agg6 at hd
    replace hx := Lib.hid hx
    replace hy := Lib.hid hy
    replace hd := Lib.hid hd
    replace hb0 := Lib.hid hb0
    replace hq := Lib.hid hq
    clear hE ha hb hbl h17 h18 h19 h21 h0
    go_enter Tryz.func29, Tryz.ntmps29
    go_wp2_with fail
    refine (hx.out _ hb0.out).mono ?_
    rintro e w1 ⟨rfl, hb⟩
    have hq' := Lib.hid (hq.out.keep (Keep.ofBelow hb) (by simp))
    have hb0' := Lib.hid (hb0.out.trans (hb.mono hb0.out.size))
    clear hq hb0 hb
    have hq := hq'
    have hb0 := hb0'
    clear hq' hb0'
    go_wp2_with fail
    refine (hy.out _ hb0.out).mono ?_
    rintro e w2 ⟨rfl, hb⟩
    have hq' := Lib.hid (hq.out.keep (Keep.ofBelow hb) (by simp))
    have hb0' := Lib.hid (hb0.out.trans (hb.mono hb0.out.size))
    clear hq hb0 hb
    have hq := hq'
    have hb0 := hb0'
    clear hq' hb0'
    go_wp2_with fail
    refine (hd.out _ hb0.out).mono ?_
    rintro e w3 ⟨rfl, hb⟩
    have hq' := Lib.hid (hq.out.keep (Keep.ofBelow hb) (by simp))
    have hb0' := Lib.hid (hb0.out.trans (hb.mono hb0.out.size))
    clear hq hb0 hb
    have hq := hq'
    have hb0 := hb0'
    clear hq' hb0'
    have x0 := hq.out.cell 0 rfl
    have x1 := hq.out.cell 1 rfl
    have x2 := hq.out.cell 2 rfl
    have x3 := hq.out.cell 3 rfl
    have x4 := hq.out.cell 4 rfl
    have x5 := hq.out.cell 5 rfl
    have f0 := hq.out.free
    go_wp2
    have hf := Blk.set6 hq.out (.int .i64 kr) (.bool br) (.int .i64 nr) (.string tr) (.string xr) (.slice none 0 0)
    exact bodyPost_ret (v := tupR (.mk kr br nr tr xr [], er)) (res2 rfl _ _ w.heap.size 26 _ (0, 0) _ _ rfl rfl hf.eq Tryz.underlying26 rfl infoV6) rfl ⟨rfl, Below.set6 hb0.out (Nat.le_refl _) _ _ _ _ _ _⟩
  have hR : intsV (decide (lang = 1)) op a b = inV (a.tdiv b) := by
    unfold intsV
    rw [if_neg h17, if_neg h18, if_neg h19, if_neg h0, if_neg h21, if_neg (fun e => hs ⟨e.1, of_decide_eq_true e.2⟩)]
  rw [hR]; clear hR
  have q17 : (op == 17) = false := beq_eq_false_iff_ne.2 h17
  have q18 : (op == 18) = false := beq_eq_false_iff_ne.2 h18
  have q19 : (op == 19) = false := beq_eq_false_iff_ne.2 h19
  have q21 : (op == 21) = false := beq_eq_false_iff_ne.2 h21
  have fin : ∀ q l : Bool, (op == 20) = q → (lang == 1) = l → (q && l) = false → Calls Tryz.prog 29 #[.int .i64 lang, .int .i64 op, .int .i64 a, .int .i64 b] w fun e w' => e = .returned (tupR (inV (a.tdiv b))) ∧ Below w.heap.size w w' := by
    intro q l hq hl hql
    clear hs h17 h18 h19 h21 hE
    by_cases hm1 : b = -1
    · subst hm1
      have e5 : a.tdiv (-1) = -a := by rw [Int.tdiv_neg, Int.tdiv_one]
      by_cases hmin : a = -9223372036854775808
      · subst hmin
        rw [inV_no tdiv_out]
        clear ha hb e5
        cases q
        · go_enter Tryz.func29, Tryz.ntmps29
          go_wp2
          refine bodyPost_ret (v := tupR (zV, 2)) (res2 rfl _ _ w.heap.size 26 _ (0, 0) _ _ rfl rfl (Blk.new w _ _).eq Tryz.underlying26 rfl infoV6) rfl ⟨rfl, hbl.out _⟩
        · obtain rfl : l = false := by simpa using hql
          go_enter Tryz.func29, Tryz.ntmps29
          go_wp2
          refine bodyPost_ret (v := tupR (zV, 2)) (res2 rfl _ _ w.heap.size 26 _ (0, 0) _ _ rfl rfl (Blk.new w _ _).eq Tryz.underlying26 rfl infoV6) rfl ⟨rfl, hbl.out _⟩
      · have qa : (a != -9223372036854775808) = true := bne_iff_ne.2 hmin
        have h := tdiv_in a (-1) ha h0 (fun e => hmin e.2)
        rw [inV_yes h]
        rw [e5] at h ⊢
        have e1 := IntWalk.i64_in _ h
        rw [IntWalk.i64_left] at e1
        clear h ha hb hmin
        cases q
        · go_enter Tryz.func29, Tryz.ntmps29
          go_wp2
          refine bodyPost_ret (v := tupR (V.mk 2 false (-a) ByteArray.empty ByteArray.empty [], 0)) (res2 rfl _ _ w.heap.size 26 _ (0, 0) _ _ rfl rfl (Blk.new w _ _).eq Tryz.underlying26 rfl infoV6) rfl ⟨rfl, hbl.out _⟩
        · obtain rfl : l = false := by simpa using hql
          go_enter Tryz.func29, Tryz.ntmps29
          go_wp2
          refine bodyPost_ret (v := tupR (V.mk 2 false (-a) ByteArray.empty ByteArray.empty [], 0)) (res2 rfl _ _ w.heap.size 26 _ (0, 0) _ _ rfl rfl (Blk.new w _ _).eq Tryz.underlying26 rfl infoV6) rfl ⟨rfl, hbl.out _⟩
    · have qb : (b != -1) = true := bne_iff_ne.2 hm1
      have h := tdiv_in a b ha h0 (fun e => hm1 e.1)
      rw [inV_yes h]
      have e1 := IntWalk.i64_in _ h
      rw [IntWalk.i64_left] at e1
      clear h ha hb hm1
      cases q
      · go_enter Tryz.func29, Tryz.ntmps29
        go_wp2
        refine bodyPost_ret (v := tupR (V.mk 2 false (a.tdiv b) ByteArray.empty ByteArray.empty [], 0)) (res2 rfl _ _ w.heap.size 26 _ (0, 0) _ _ rfl rfl (Blk.new w _ _).eq Tryz.underlying26 rfl infoV6) rfl ⟨rfl, hbl.out _⟩
      · obtain rfl : l = false := by simpa using hql
        go_enter Tryz.func29, Tryz.ntmps29
        go_wp2
        refine bodyPost_ret (v := tupR (V.mk 2 false (a.tdiv b) ByteArray.empty ByteArray.empty [], 0)) (res2 rfl _ _ w.heap.size 26 _ (0, 0) _ _ rfl rfl (Blk.new w _ _).eq Tryz.underlying26 rfl infoV6) rfl ⟨rfl, hbl.out _⟩
  refine fin _ _ rfl rfl ?_
  apply Bool.eq_false_iff.2
  intro hc
  rw [Bool.and_eq_true, beq_iff_eq, beq_iff_eq] at hc
  exact hs hc
end Go.Proofs.YtjncjcellpbhcaaGreatDoor.val
