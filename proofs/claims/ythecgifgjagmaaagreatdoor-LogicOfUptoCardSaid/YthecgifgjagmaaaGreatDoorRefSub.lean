/- Contract of the reference's sub. -/
import Derived.Test.YthecgifgjagmaaaGreatDoorRefAdd
namespace Go.Proofs.YthecgifgjagmaaaGreatDoor.dec
open Go.ChangeShapes Go.WideShapes Go.ChangeAt Go.RowKit kit
set_option linter.unusedVariables false
set_option linter.unusedSimpArgs false
theorem below_drewN {B : Nat} {a w : World} (h : Below B a w) (n : Nat) : Below B a (w.drewN n) := ⟨h.os, h.tape, h.output, h.size, h.block⟩
theorem IntsAt.drewN {w : World} {v : Value} {D : List Nat} (h : IntsAt w v D) (n : Nat) : IntsAt (w.drewN n) v D := h.below (below_drewN (Below.refl _ _) n)
theorem IW.drewN {W W1 : World} {B : Nat} {v : Value} {l : List Nat} (h : IW W B v l W1) (n : Nat) : IW W B v l (W1.drewN n) := ⟨below_drewN h.below n, h.own⟩
theorem sub_col {A B L : List Nat} (hA : dgs A) (hB : dgs B) (k c d c' : Nat) (hl : L.length = k) (hd : d + B.getD k 0 + c = A.getD k 0 + 10 * c') (h : vL L + vL B % 10 ^ k = vL A % 10 ^ k + 10 ^ k * c) :
    vL (L ++ [d]) + vL B % 10 ^ (k + 1) = vL A % 10 ^ (k + 1) + 10 ^ (k + 1) * c' := by
  rw [vL_snoc, hl, mod_step A hA, mod_step B hB]
  have e : 10 ^ (k + 1) * c' = 10 ^ k * (10 * c') := by rw [Nat.pow_succ, Nat.mul_assoc]
  have e2 : 10 ^ k * (d + B.getD k 0 + c) = 10 ^ k * (A.getD k 0 + 10 * c') := by rw [hd]
  rw [Nat.mul_add, Nat.mul_add, Nat.mul_add] at e2
  omega
theorem sub_end {A B L : List Nat} (hA : dgs A) (hB : dgs B) (hL : dgs L) (c : Nat) (hl : L.length = A.length) (hle : vL B ≤ vL A) (h : vL L + vL B % 10 ^ A.length = vL A % 10 ^ A.length + 10 ^ A.length * c) : vL L + vL B = vL A := by
  have a := vL_lt hA
  have b := vL_lt hL
  rw [hl] at b
  rw [Nat.mod_eq_of_lt (by omega), Nat.mod_eq_of_lt a] at h
  cases c with
  | zero => omega
  | succ c => rw [Nat.mul_add] at h; omega
set_option maxRecDepth 100000 in
set_option maxHeartbeats 4000000 in
theorem rsub_any (va vb : Value) (A B : List Nat) (w : World) (hva : IntsAt w va A) (hvb : IntsAt w vb B) (hA : dgs A) (hB : dgs B) (hle : vL B ≤ vL A) (la : A.length ≤ 100000) (lb : B.length ≤ 100000) :
    Calls Tryz.prog 131 #[va, vb] w fun e w' => ∃ v D, e = .returned v ∧ IW w w.heap.size v D w' ∧ dgs D ∧ vL D + vL B = vL A ∧ D.length = A.length := by
  obtain ⟨ao, ca, rfl⟩ := hva.form
  obtain ⟨bo, cb, rfl⟩ := hvb.form
  have lai : (A.length : Int) ≤ 100000 := by omega
  have lbi : (B.length : Int) ≤ 100000 := by omega
  replace hva := Lib.hid hva
  replace hvb := Lib.hid hvb
  replace hA := Lib.hid hA
  replace hB := Lib.hid hB
  obtain ⟨i0, hi, hx⟩ := Option.map_eq_some_iff.1 infoInt
  simp only [Prod.mk.injEq] at hx
  obtain ⟨hz0, hz1, hz2⟩ := hx
  replace hi := Lib.hid hi
  replace hz0 := Lib.hid hz0
  replace hz1 := Lib.hid hz1
  replace hz2 := Lib.hid hz2
  go_enter Tryz.func131, Tryz.ntmps131
  go_wp2
  go_loopw [5, 6, 7] (fun v5 v6 v7 wr => ∃ (k c : Nat) (L : List Nat), v7 = .int .i64 k ∧ v6 = .int .i64 c ∧ Hid (L.length = k ∧ dgs L ∧ c ≤ 1 ∧ k ≤ A.length ∧ vL L + vL B % 10 ^ k = vL A % 10 ^ k + 10 ^ k * c) ∧ IW w w.heap.size v5 L wr) (fun _ _ v7 _ => A.length - (intOf v7).toNat)
  case atStart => exact ⟨0, 0, [], rfl, rfl, ⟨rfl, fun _ h => by simp at h, by omega, by omega, by simp [vL, Nat.mod_one]⟩, IW.start w _⟩
  case round =>
    obtain ⟨k, c, L, rfl, rfl, hL, hI⟩ := hrel
    have hkl := hL.out.2.2.2.1
    have hki : (k : Int) ≤ 100000 := by omega
    have hci : (c : Int) ≤ 1 := by have := hL.out.2.2.1; omega
    by_cases hk : k < A.length
    · have hk' : (k : Int) < (A.length : Int) := by omega
      rcases hva.out.below hI.below with ⟨_, e⟩ | ⟨ba, oa, cpa, e, hlt, hcells⟩
      · rw [e] at hk; simp at hk
      have hcell := hcells k hk
      rw [Value.slice.injEq] at e
      obtain ⟨rfl, -, rfl⟩ := e
      have hbk := fun n => at_any (.slice bo B.length cb) B (k : Int) (wr.drewN n) ((hvb.out.below hI.below).drewN n) (by omega) (by omega) (by omega)
      rw [atL_nat] at hbk
      have hx9 : A.getD k 0 ≤ 9 := by have := dgs_getD hA.out k; omega
      have hy9 : B.getD k 0 ≤ 9 := by have := dgs_getD hB.out k; omega
      have hc1 : c ≤ 1 := hL.out.2.2.1
      have hLl : L.length = k := hL.out.1
      have hIs := hI.below.size
      have hcol := fun d c' h => sub_col hA.out hB.out k c d c' hL.out.1 h hL.out.2.2.2.2
      have hdL := hL.out.2.1
      clear hcells hL
      generalize A.getD k 0 = x at *
      generalize B.getD k 0 = y at *
      replace hbk := Lib.hid hbk
      replace hcol := Lib.hid hcol
      replace hdL := Lib.hid hdL
      go_wp2_with fail
      go_quiet ((go_at_call 149; exact Calls.quiet_of_same (hbk.out _)))
      by_cases hneg : x < y + c
      · have hnegi : (x : Int) - (y : Int) - (c : Int) < 0 := by omega
        go_wp2_with (first | (at_builtin; refine wpList_append_own _ rfl _ _ 96 rfl w.heap.size 3 i0 (.int .i64 0) 1 8 Tryz.underlying96 hi.out hz0.out hz1.out hz2.out rfl (by decide) _ L.length (intsV L) rfl ((hI.drewN _).own.alloc _) _ 1 _ [.int .i64 (((x : Int) - (y : Int) - (c : Int)) + 10)] rfl rfl ?a1 ?a2 ?a3 ?a4 ?a5 ?a6) | fail)
        case a1 => first | exact news_one _ _ _ | exact news_two _ _ _
        case a2 => simp [Value.oneCell']
        case a3 => simp only [maxLen]; omega
        case a4 => omega
        case a5 => first | omega | (simp; omega)
        case a6 =>
          intro v' w1 h1 h2 _
          rw [show (x : Int) - (y : Int) - (c : Int) + 10 = ((x + 10 - y - c : Nat) : Int) by omega, ← hLl] at h1
          have hI2 := (hI.drewN _).step hIs _ (x + 10 - y - c) h1 h2
          have hc2 := hcol.out (x + 10 - y - c) 1 (by omega)
          go_wp2
          refine ⟨⟨k + 1, 1, L ++ [x + 10 - y - c], congrArg _ (by omega), rfl, ⟨by simp [hLl], dgs_snoc hdL.out (by omega), by omega, by omega, hc2⟩, hI2⟩, ?_⟩
          simp only [intOf]
          omega
      · have hnegi : ¬ ((x : Int) - (y : Int) - (c : Int) < 0) := by omega
        go_wp2_with (first | (at_builtin; refine wpList_append_own _ rfl _ _ 96 rfl w.heap.size 3 i0 (.int .i64 0) 1 8 Tryz.underlying96 hi.out hz0.out hz1.out hz2.out rfl (by decide) _ L.length (intsV L) rfl ((hI.drewN _).own.alloc _) _ 1 _ [.int .i64 ((x : Int) - (y : Int) - (c : Int))] rfl rfl ?b1 ?b2 ?b3 ?b4 ?b5 ?b6) | fail)
        case b1 => first | exact news_one _ _ _ | exact news_two _ _ _
        case b2 => simp [Value.oneCell']
        case b3 => simp only [maxLen]; omega
        case b4 => omega
        case b5 => first | omega | (simp; omega)
        case b6 =>
          intro v' w1 h1 h2 _
          rw [show (x : Int) - (y : Int) - (c : Int) = ((x - y - c : Nat) : Int) by omega, ← hLl] at h1
          have hI2 := (hI.drewN _).step hIs _ (x - y - c) h1 h2
          have hc2 := hcol.out (x - y - c) 0 (by omega)
          go_wp2
          refine ⟨⟨k + 1, 0, L ++ [x - y - c], congrArg _ (by omega), rfl, ⟨by simp [hLl], dgs_snoc hdL.out (by omega), by omega, by omega, hc2⟩, hI2⟩, ?_⟩
          simp only [intOf]
          omega
    · have hk' : ¬ (k : Int) < (A.length : Int) := by omega
      have hke : k = A.length := by omega
      have hend := sub_end hA.out hB.out hL.out.2.1 c (by rw [hL.out.1, hke]) hle (by rw [← hke]; exact hL.out.2.2.2.2)
      go_wp2
      go_ret
      exact ⟨_, rfl, L, hI, hL.out.2.1, hend, by rw [hL.out.1, hke]⟩
end Go.Proofs.YthecgifgjagmaaaGreatDoor.dec
