/- Contract of the reference's add. -/
import Derived.Test.YthecgifgjagmaaaGreatDoorRefA
namespace Go.Proofs.YthecgifgjagmaaaGreatDoor.dec
open Go.ChangeShapes Go.WideShapes Go.ChangeAt Go.RowKit kit
set_option linter.unusedVariables false
set_option linter.unusedSimpArgs false
theorem infoInt : (Tryz.prog.info? 3).map (fun i => (i.zero, i.size, i.bytes)) = some (some (.int .i64 0), 1, 8) := by kernel_rfl
/-- The sum of a column. -/
def colS (A B : List Nat) (k c : Nat) : Nat := A.getD k 0 + B.getD k 0 + c
theorem dgs_snoc {L : List Nat} (h : dgs L) {d : Nat} (hd : d < 10) : dgs (L ++ [d]) := by
  intro x hx
  rw [List.mem_append, List.mem_singleton] at hx
  rcases hx with hx | rfl
  · exact h x hx
  · exact hd
theorem vL_snoc (L : List Nat) (d : Nat) : vL (L ++ [d]) = vL L + 10 ^ L.length * d := by rw [vL_append]; simp [vL]
theorem mod_step (A : List Nat) (hA : dgs A) (k : Nat) : vL A % 10 ^ (k + 1) = vL A % 10 ^ k + 10 ^ k * A.getD k 0 := by
  rw [Nat.pow_succ, Nat.mod_mul, vL_get hA]
/-- One column more of a sum. -/
theorem add_col {A B L : List Nat} (hA : dgs A) (hB : dgs B) (k c : Nat) (hl : L.length = k) (h : vL L + 10 ^ k * c = vL A % 10 ^ k + vL B % 10 ^ k) :
    vL (L ++ [colS A B k c % 10]) + 10 ^ (k + 1) * (colS A B k c / 10) = vL A % 10 ^ (k + 1) + vL B % 10 ^ (k + 1) := by
  rw [vL_snoc, hl, mod_step A hA, mod_step B hB]
  have e : 10 ^ (k + 1) * (colS A B k c / 10) = 10 ^ k * (10 * (colS A B k c / 10)) := by rw [Nat.pow_succ, Nat.mul_assoc]
  have e2 : 10 ^ k * (colS A B k c % 10) + 10 ^ k * (10 * (colS A B k c / 10)) = 10 ^ k * colS A B k c := by rw [← Nat.mul_add, Nat.mod_add_div]
  have e3 : 10 ^ k * colS A B k c = 10 ^ k * A.getD k 0 + 10 ^ k * B.getD k 0 + 10 ^ k * c := by rw [colS, Nat.mul_add, Nat.mul_add]
  omega
theorem add_end {A B L : List Nat} (hA : dgs A) (hB : dgs B) (k c : Nat) (hk : A.length ≤ k) (hk2 : B.length ≤ k) (hc : c = 0) (h : vL L + 10 ^ k * c = vL A % 10 ^ k + vL B % 10 ^ k) : vL L = vL A + vL B := by
  have a := vL_lt hA
  have b := vL_lt hB
  have p1 : 10 ^ A.length ≤ 10 ^ k := Nat.pow_le_pow_right (by decide) hk
  have p2 : 10 ^ B.length ≤ 10 ^ k := Nat.pow_le_pow_right (by decide) hk2
  rw [Nat.mod_eq_of_lt (by omega), Nat.mod_eq_of_lt (by omega), hc] at h
  omega
set_option maxRecDepth 100000 in
set_option maxHeartbeats 4000000 in
theorem radd_any (va vb : Value) (A B : List Nat) (w : World) (hva : IntsAt w va A) (hvb : IntsAt w vb B) (hA : dgs A) (hB : dgs B) (la : A.length ≤ 100000) (lb : B.length ≤ 100000) :
    Calls Tryz.prog 129 #[va, vb] w fun e w' => ∃ v D, e = .returned v ∧ IW w w.heap.size v D w' ∧ dgs D ∧ vL D = vL A + vL B ∧ A.length ≤ D.length ∧ B.length ≤ D.length ∧ D.length ≤ A.length + B.length + 1 ∧ (D.length ≤ A.length ∨ D.length ≤ B.length ∨ 10 ^ (D.length - 1) ≤ vL D) := by
  obtain ⟨ao, ca, rfl⟩ := hva.form
  obtain ⟨bo, cb, rfl⟩ := hvb.form
  have lai : (A.length : Int) ≤ 100000 := by omega
  have lbi : (B.length : Int) ≤ 100000 := by omega
  replace hva := Lib.hid hva
  replace hvb := Lib.hid hvb
  replace hA := Lib.hid hA
  replace hB := Lib.hid hB
  obtain ⟨i0, hi, hx⟩ := Option.map_eq_some_iff.1 infoInt
  simp only [Prod.mk.injEq] at hx
  obtain ⟨hz0, hz1, hz2⟩ := hx
  replace hi := Lib.hid hi
  replace hz0 := Lib.hid hz0
  replace hz1 := Lib.hid hz1
  replace hz2 := Lib.hid hz2
  go_enter Tryz.func129, Tryz.ntmps129
  go_wp2
  go_loopw [5, 6, 7] (fun v5 v6 v7 wr => ∃ (k c : Nat) (L : List Nat), v7 = .int .i64 k ∧ v6 = .int .i64 c ∧ Hid (L.length = k ∧ dgs L ∧ c ≤ 1 ∧ (k ≤ A.length ∨ k ≤ B.length ∨ (c = 0 ∧ k ≤ A.length + B.length + 1 ∧ 10 ^ (k - 1) ≤ vL L)) ∧ vL L + 10 ^ k * c = vL A % 10 ^ k + vL B % 10 ^ k) ∧ IW w w.heap.size v5 L wr) (fun _ _ v7 _ => A.length + B.length + 2 - (intOf v7).toNat)
  case atStart => exact ⟨0, 0, [], rfl, rfl, ⟨rfl, fun _ h => by simp at h, by omega, by omega, by simp [vL, Nat.mod_one]⟩, IW.start w _⟩
  case round =>
    obtain ⟨k, c, L, rfl, rfl, hL, hI⟩ := hrel
    have hki : (k : Int) ≤ 300000 := by have := hL.out.2.2.2.1; omega
    have hci : (c : Int) ≤ 1 := by have := hL.out.2.2.1; omega
    obtain ⟨q, hq⟩ : ∃ q : Bool, decide (k < A.length ∨ k < B.length ∨ 0 < c) = q := ⟨_, rfl⟩
    replace hq := Lib.hid hq
    go_upto_region 4 with (fail)
    go_cut [22] (fun v wx => v = .bool q ∧ wx = wr)
    case first =>
      as_aux_lemma =>
        by_cases h1 : k < A.length
        · have h1i : (k : Int) < (A.length : Int) := by omega
          obtain rfl : true = q := by rw [← hq.out]; exact (decide_eq_true (.inl h1)).symm
          go_wp2
          go_meet
          exact ⟨rfl, rfl⟩
        · have h1i : ¬ (k : Int) < (A.length : Int) := by omega
          by_cases h2 : k < B.length
          · have h2i : (k : Int) < (B.length : Int) := by omega
            obtain rfl : true = q := by rw [← hq.out]; exact (decide_eq_true (.inr (.inl h2))).symm
            go_wp2
            go_meet
            exact ⟨rfl, rfl⟩
          · have h2i : ¬ (k : Int) < (B.length : Int) := by omega
            by_cases h3 : 0 < c
            · have h3i : 0 < (c : Int) := by omega
              obtain rfl : true = q := by rw [← hq.out]; exact (decide_eq_true (.inr (.inr h3))).symm
              go_wp2
              go_meet
              exact ⟨rfl, rfl⟩
            · have h3i : ¬ 0 < (c : Int) := by omega
              obtain rfl : false = q := by rw [← hq.out]; exact (decide_eq_false (fun e => e.elim h1 (fun e => e.elim h2 h3))).symm
              go_wp2
              go_meet
              exact ⟨rfl, rfl⟩
    obtain ⟨rfl, hwx⟩ := hcut
    rw [hwx]; clear hwx
    cases q
    case true =>
      have hq2 := of_decide_eq_true hq.out
      have hak := at_any (.slice ao A.length ca) A (k : Int) wr (hva.out.below hI.below) (by omega) (by omega) (by omega)
      have hbk := at_any (.slice bo B.length cb) B (k : Int) wr (hvb.out.below hI.below) (by omega) (by omega) (by omega)
      rw [atL_nat] at hak hbk
      have hcol := add_col hA.out hB.out k c hL.out.1 hL.out.2.2.2.2
      have hx9 : A.getD k 0 ≤ 9 := by have := dgs_getD hA.out k; omega
      have hy9 : B.getD k 0 ≤ 9 := by have := dgs_getD hB.out k; omega
      have hc1 : c ≤ 1 := hL.out.2.2.1
      have hL' : Hid ((L ++ [colS A B k c % 10]).length = k + 1 ∧ dgs (L ++ [colS A B k c % 10]) ∧ colS A B k c / 10 ≤ 1 ∧ (k + 1 ≤ A.length ∨ k + 1 ≤ B.length ∨ (colS A B k c / 10 = 0 ∧ k + 1 ≤ A.length + B.length + 1 ∧ 10 ^ (k + 1 - 1) ≤ vL (L ++ [colS A B k c % 10]))) ∧ vL (L ++ [colS A B k c % 10]) + 10 ^ (k + 1) * (colS A B k c / 10) = vL A % 10 ^ (k + 1) + vL B % 10 ^ (k + 1)) := by
        refine ⟨by simp [hL.out.1], dgs_snoc hL.out.2.1 (Nat.mod_lt _ (by decide)), by unfold colS; omega, ?_, hcol⟩
        by_cases e1 : k < A.length
        · exact .inl (by omega)
        · by_cases e2 : k < B.length
          · exact .inr (.inl (by omega))
          · have hcs : colS A B k c = c := by
              unfold colS
              rw [List.getD_eq_getElem?_getD, List.getD_eq_getElem?_getD, List.getElem?_eq_none (by omega), List.getElem?_eq_none (by omega)]
              simp
            have hc0 : c = 1 := by omega
            refine .inr (.inr ⟨by omega, ?_, ?_⟩)
            · have := hL.out.2.2.2.1
              omega
            · rw [hcs, hc0, vL_snoc, hL.out.1, Nat.add_sub_cancel]; omega
      clear hcol
      have hr : ((A.getD k 0 : Nat) : Int) + ((B.getD k 0 : Nat) : Int) + (c : Int) = ((colS A B k c : Nat) : Int) := by unfold colS; omega
      have hr1 : colS A B k c ≤ 19 := by unfold colS; omega
      generalize colS A B k c = n at *
      generalize A.getD k 0 = x at *
      generalize B.getD k 0 = y at *
      clear hq
      replace hak := Lib.hid hak
      replace hbk := Lib.hid hbk
      replace hr := Lib.hid hr
      have hLl : L.length = k := hL.out.1
      have hIs := hI.below.size
      go_wp2_with (first | (go_at_call_of 149 (Value.slice ao A.length ca); refine hak.out.mono ?_; rintro e w' ⟨rfl, rfl⟩) | (go_at_call 149; refine hbk.out.mono ?_; rintro e w' ⟨rfl, rfl⟩) | (at_builtin; refine wpList_append_own _ rfl _ _ 96 rfl w.heap.size 3 i0 (.int .i64 0) 1 8 Tryz.underlying96 hi.out hz0.out hz1.out hz2.out rfl (by decide) _ L.length (intsV L) rfl (hI.own.alloc _) _ 1 _ [.int .i64 (((x : Int) + (y : Int) + (c : Int)) % 10)] rfl rfl ?c1 ?c2 ?c3 ?c4 ?c5 ?c6) | fail)
      case c1 => exact news_one _ _ _
      case c2 => simp [Value.oneCell']
      case c3 => rw [hLl]; simp only [maxLen]; omega
      case c4 => rw [hLl]; omega
      case c5 => simp; omega
      case c6 =>
        intro v' w1 h1 h2 _
        rw [show ((x : Int) + (y : Int) + (c : Int)) % 10 = ((n % 10 : Nat) : Int) by rw [hr.out]; rfl] at h1
        rw [← hLl] at h1
        have hI2 := hI.step hIs _ (n % 10) h1 h2
        go_wp2
        refine ⟨⟨k + 1, n / 10, L ++ [n % 10], congrArg _ (by omega), congrArg _ (by rw [hr.out]; rfl), hL', hI2⟩, ?_⟩
        have := hL.out.2.2.2.1
        simp only [intOf]
        omega
    case false =>
      have hq3 := of_decide_eq_false hq.out
      have hend := add_end hA.out hB.out k c (by omega) (by omega) (by omega) hL.out.2.2.2.2
      go_wp2
      go_ret
      exact ⟨_, L, rfl, hI, hL.out.2.1, hend, by have := hL.out.1; omega, by have := hL.out.1; omega, by have := hL.out; omega, by rw [hL.out.1]; rcases hL.out.2.2.2.1 with h | h | h; exact .inl h; exact .inr (.inl h); exact .inr (.inr h.2.2)⟩
end Go.Proofs.YthecgifgjagmaaaGreatDoor.dec
