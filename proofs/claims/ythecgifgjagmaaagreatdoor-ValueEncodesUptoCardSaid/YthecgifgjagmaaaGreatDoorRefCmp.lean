/- Contract of the reference's compare. -/
import Derived.Test.YthecgifgjagmaaaGreatDoorRefNum
import Derived.Test.YthecgifgjagmaaaGreatDoorDecB
namespace Go.Proofs.YthecgifgjagmaaaGreatDoor.dec
open Go.ChangeShapes Go.WideShapes Go.ChangeAt Go.RowKit kit
set_option linter.unusedVariables false
set_option linter.unusedSimpArgs false
theorem vL_mod_ext {A B : List Nat} (hA : dgs A) (hB : dgs B) (h : ∀ j, A.getD j 0 = B.getD j 0) (n : Nat) : vL A % 10 ^ n = vL B % 10 ^ n := by
  induction n with
  | zero => simp [Nat.mod_one]
  | succ n ih =>
    have a := vL_get hA n
    have b := vL_get hB n
    rw [Nat.pow_succ, Nat.mod_mul, Nat.mod_mul, ih, a, b, h n]
theorem vL_getD_ext {A B : List Nat} (hA : dgs A) (hB : dgs B) (h : ∀ j, A.getD j 0 = B.getD j 0) : vL A = vL B := by
  have a := vL_lt hA
  have b := vL_lt hB
  have h1 := vL_mod_ext hA hB h (A.length + B.length)
  have p1 : 10 ^ A.length ≤ 10 ^ (A.length + B.length) := Nat.pow_le_pow_right (by decide) (by omega)
  have p2 : 10 ^ B.length ≤ 10 ^ (A.length + B.length) := Nat.pow_le_pow_right (by decide) (by omega)
  rwa [Nat.mod_eq_of_lt (by omega), Nat.mod_eq_of_lt (by omega)] at h1
theorem dgs_drop {A : List Nat} (h : dgs A) (k : Nat) : dgs (A.drop k) := fun d hd => h d (List.mem_of_mem_drop hd)
theorem vL_drop {A : List Nat} (h : dgs A) (k : Nat) : vL (A.drop k) = vL A / 10 ^ k := by
  induction k generalizing A with
  | zero => simp
  | succ k ih =>
    cases A with
    | nil => simp [vL]
    | cons d r =>
      have hd := h.head
      rw [List.drop_succ_cons, ih h.tail, vL, Nat.pow_succ, Nat.mul_comm (10 ^ k) 10, ← Nat.div_div_eq_div_mul, show (d + 10 * vL r) / 10 = vL r by omega]
theorem vL_div_ext {A B : List Nat} (hA : dgs A) (hB : dgs B) (k : Nat) (h : ∀ j, k ≤ j → A.getD j 0 = B.getD j 0) : vL A / 10 ^ k = vL B / 10 ^ k := by
  rw [← vL_drop hA, ← vL_drop hB]
  apply vL_getD_ext (dgs_drop hA k) (dgs_drop hB k)
  intro j
  have := h (k + j) (by omega)
  simpa [List.getD_eq_getElem?_getD] using this
theorem vL_cmp_lt {A B : List Nat} (hA : dgs A) (hB : dgs B) (k : Nat) (h : ∀ j, k + 1 ≤ j → A.getD j 0 = B.getD j 0) (hlt : A.getD k 0 < B.getD k 0) : vL A < vL B := by
  have h1 := vL_div_ext hA hB (k + 1) h
  have a := vL_get hA k
  have b := vL_get hB k
  rw [Nat.pow_succ, ← Nat.div_div_eq_div_mul, ← Nat.div_div_eq_div_mul] at h1
  have h2 : vL A / 10 ^ k < vL B / 10 ^ k := by omega
  exact Nat.lt_of_div_lt_div h2
theorem IntsAt.form {w : World} {v : Value} {D : List Nat} (h : IntsAt w v D) : ∃ ao cap, v = .slice ao D.length cap := by
  rcases h with ⟨rfl, rfl⟩ | ⟨b, off, cap, rfl, _⟩
  · exact ⟨none, 0, rfl⟩
  · exact ⟨_, _, rfl⟩
set_option maxRecDepth 100000 in
set_option maxHeartbeats 2000000 in
theorem rcompare_any (va vb : Value) (A B : List Nat) (w : World) (hva : IntsAt w va A) (hvb : IntsAt w vb B) (hA : dgs A) (hB : dgs B) (la : A.length ≤ 100000) (lb : B.length ≤ 100000) :
    Calls Tryz.prog 130 #[va, vb] w fun e w' => e = .returned (.int .i64 (sgn (vL A) (vL B))) ∧ w' = w := by
  have ha := fun (i : Int) (h0 : -1000000000 ≤ i) (h1 : i ≤ 1000000000) => at_any va A i w hva (by omega) h0 h1
  have hb := fun (i : Int) (h0 : -1000000000 ≤ i) (h1 : i ≤ 1000000000) => at_any vb B i w hvb (by omega) h0 h1
  obtain ⟨ao, ca, rfl⟩ := hva.form
  obtain ⟨bo, cb, rfl⟩ := hvb.form
  clear hva hvb
  have lai : (A.length : Int) ≤ 100000 := by omega
  have lbi : (B.length : Int) ≤ 100000 := by omega
  replace ha := Lib.hid ha
  replace hb := Lib.hid hb
  replace hA := Lib.hid hA
  replace hB := Lib.hid hB
  go_enter Tryz.func130, Tryz.ntmps130
  go_wp2
  go_loop [5] (fun v => ∃ k : Nat, k ≤ A.length + B.length + 1 ∧ v = .int .i64 ((k : Int) - 1) ∧ Hid (∀ j, k ≤ j → A.getD j 0 = B.getD j 0)) (fun v => (intOf v + 1).toNat)
  case atStart =>
    refine ⟨A.length + B.length + 1, by omega, by congr 1; omega, fun j hj => ?_⟩
    rw [List.getD_eq_getElem?_getD, List.getD_eq_getElem?_getD, List.getElem?_eq_none (by omega), List.getElem?_eq_none (by omega)]
  case round =>
    obtain ⟨k1, hk, rfl, heq⟩ := hrel
    by_cases h0 : k1 = 0
    · subst h0
      have hv : sgn (vL A) (vL B) = 0 := by
        rw [vL_getD_ext hA.out hB.out (fun j => heq.out j (by omega))]; unfold sgn; simp
      replace hv := Lib.hid hv
      go_wp2
      go_ret
      exact ⟨ret_int hv.out.symm, rfl⟩
    · obtain ⟨k, rfl⟩ : ∃ k, k1 = k + 1 := ⟨k1 - 1, by omega⟩
      rw [show (((k + 1 : Nat) : Int) - 1) = (k : Int) by omega]
      have hak := ha.out (k : Int) (by omega) (by omega)
      have hbk := hb.out (k : Int) (by omega) (by omega)
      rw [atL_nat] at hak hbk
      have hki : (k : Int) ≤ 200000 := by omega
      by_cases he : A.getD k 0 = B.getD k 0
      · have heq' : Hid (∀ j, k ≤ j → A.getD j 0 = B.getD j 0) := fun j hj => by
          rcases Nat.lt_or_ge k j with h | h
          · exact heq.out j h
          · rw [show j = k by omega]; exact he
        have hne : (((A.getD k 0 : Nat) : Int) != ((B.getD k 0 : Nat) : Int)) = false := by rw [he]; simp
        generalize A.getD k 0 = x at *
        generalize B.getD k 0 = y at *
        clear he heq
        replace hak := Lib.hid hak
        replace hbk := Lib.hid hbk
        go_wp2_with (first | (go_at_call_of 149 (Value.slice ao A.length ca); refine hak.out.mono ?_; rintro e w' ⟨rfl, rfl⟩) | (go_at_call 149; refine hbk.out.mono ?_; rintro e w' ⟨rfl, rfl⟩))
        go_round
        case rel => exact ⟨k, by omega, rfl, heq'⟩
        case measure => simp [intOf]
      · have hne : (((A.getD k 0 : Nat) : Int) != ((B.getD k 0 : Nat) : Int)) = true := by simp only [bne_iff_ne, ne_eq]; omega
        by_cases hl : A.getD k 0 < B.getD k 0
        · have hv : (-1 : Int) = sgn (vL A) (vL B) := by
            have h := vL_cmp_lt hA.out hB.out (k := k) (fun j hj => heq.out j (by omega)) hl
            unfold sgn; simp [h]
          clear heq he
          generalize A.getD k 0 = x at *
          generalize B.getD k 0 = y at *
          replace hv := Lib.hid hv
          replace hak := Lib.hid hak
          replace hbk := Lib.hid hbk
          go_wp2_with (first | (go_at_call_of 149 (Value.slice ao A.length ca); refine hak.out.mono ?_; rintro e w' ⟨rfl, rfl⟩) | (go_at_call 149; refine hbk.out.mono ?_; rintro e w' ⟨rfl, rfl⟩))
          all_goals first | (exfalso; omega) | (go_ret; exact ⟨ret_int hv.out, rfl⟩)
        · have hv : (1 : Int) = sgn (vL A) (vL B) := by
            have h := vL_cmp_lt hB.out hA.out (k := k) (fun j hj => (heq.out j (by omega)).symm) (by omega)
            unfold sgn; simp [h, Nat.lt_asymm h]
          clear heq he
          generalize A.getD k 0 = x at *
          generalize B.getD k 0 = y at *
          replace hv := Lib.hid hv
          replace hak := Lib.hid hak
          replace hbk := Lib.hid hbk
          go_wp2_with (first | (go_at_call_of 149 (Value.slice ao A.length ca); refine hak.out.mono ?_; rintro e w' ⟨rfl, rfl⟩) | (go_at_call 149; refine hbk.out.mono ?_; rintro e w' ⟨rfl, rfl⟩))
          all_goals first | (exfalso; omega) | (go_ret; exact ⟨ret_int hv.out, rfl⟩)
end Go.Proofs.YthecgifgjagmaaaGreatDoor.dec
