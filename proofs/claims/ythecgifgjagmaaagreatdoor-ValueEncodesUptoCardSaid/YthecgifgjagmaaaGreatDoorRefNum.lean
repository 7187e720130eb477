/- The reference's digits: the lowest first; contracts of digit, at, zero. -/
import Derived.Test.YthecgifgjagmaaaGreatDoorKit
import Derived.Test.YthecgifgjagmaaaGreatDoorDecNum
namespace Go.Proofs.YthecgifgjagmaaaGreatDoor.dec
open Go.ChangeShapes Go.WideShapes Go.ChangeAt Go.RowKit kit
set_option linter.unusedVariables false
set_option linter.unusedSimpArgs false
/-- The value of digits, the lowest first. -/
def vL : List Nat → Nat
  | [] => 0
  | d :: r => d + 10 * vL r
def dgs (D : List Nat) : Prop := ∀ d ∈ D, d < 10
theorem dgs.tail {d : Nat} {r : List Nat} (h : dgs (d :: r)) : dgs r := fun x hx => h x (by simp [hx])
theorem dgs.head {d : Nat} {r : List Nat} (h : dgs (d :: r)) : d < 10 := h d (by simp)
theorem vL_lt {D : List Nat} (h : dgs D) : vL D < 10 ^ D.length := by
  induction D with
  | nil => simp [vL]
  | cons d r ih =>
    have := ih h.tail
    have := h.head
    rw [vL, List.length_cons, Nat.pow_succ]; omega
theorem vL_get {D : List Nat} (h : dgs D) (i : Nat) : vL D / 10 ^ i % 10 = D.getD i 0 := by
  induction D generalizing i with
  | nil => simp [vL]
  | cons d r ih =>
    have hd := h.head
    cases i with
    | zero => simp [vL]; omega
    | succ i =>
      rw [vL, Nat.pow_succ, Nat.mul_comm (10 ^ i) 10, ← Nat.div_div_eq_div_mul, show (d + 10 * vL r) / 10 = vL r by omega, ih h.tail]
      simp
theorem vL_append (D E : List Nat) : vL (D ++ E) = vL D + 10 ^ D.length * vL E := by
  induction D with
  | nil => simp [vL]
  | cons d r ih => rw [List.cons_append, vL, vL, ih, List.length_cons, Nat.pow_succ, Nat.mul_add, Nat.mul_comm (10 ^ r.length) 10, Nat.mul_assoc]; omega
theorem vL_zero {D : List Nat} : vL D = 0 ↔ ∀ d ∈ D, d = 0 := by
  induction D with
  | nil => simp [vL]
  | cons d r ih => rw [vL]; simp only [List.mem_cons, forall_eq_or_imp, ← ih]; omega
theorem dgs_getD {D : List Nat} (h : dgs D) (i : Nat) : D.getD i 0 < 10 := by
  rw [← vL_get h]; exact Nat.mod_lt _ (by decide)
/-- Digits told by a value. -/
theorem vL_ext {D E : List Nat} (hD : dgs D) (hE : dgs E) (hl : D.length = E.length) (hv : vL D = vL E) : D = E := by
  apply List.ext_getElem hl
  intro i h1 h2
  have a := vL_get hD i
  have b := vL_get hE i
  rw [hv] at a
  rw [List.getD_eq_getElem?_getD, List.getElem?_eq_getElem h1] at a
  rw [List.getD_eq_getElem?_getD, List.getElem?_eq_getElem h2] at b
  exact a.symm.trans b
/-- A slice that reads as digits. -/
def IntsAt (w : World) (v : Value) (D : List Nat) : Prop :=
  (v = .slice none 0 0 ∧ D = []) ∨ ∃ b off cap, v = .slice (some ⟨b, off, none⟩) D.length cap ∧ b < w.heap.size ∧ ∀ j, j < D.length → w.cell? ⟨b, off + j, none⟩ = some (.int .i64 (D.getD j 0 : Nat))
theorem IntsAt.below {w w' : World} {v : Value} {D : List Nat} (h : IntsAt w v D) (hb : Below w.heap.size w w') : IntsAt w' v D := by
  rcases h with h | ⟨b, off, cap, hv, hlt, hc⟩
  · exact .inl h
  · exact .inr ⟨b, off, cap, hv, Nat.lt_of_lt_of_le hlt hb.size, fun j hj => (hb.cell (p := ⟨b, off + j, none⟩) hlt).trans (hc j hj)⟩
/-- The digit at a place; 0 beyond. -/
def atL (D : List Nat) (i : Int) : Nat := if i < 0 then 0 else D.getD i.toNat 0
theorem atL_nat (D : List Nat) (i : Nat) : atL D (i : Int) = D.getD i 0 := by unfold atL; rw [if_neg (by omega)]; simp
set_option maxRecDepth 100000 in
theorem digit_any (c : Nat) (w : World) (hc : c < 256) : Calls Tryz.prog 152 #[.int .u8 (c : Nat)] w fun e w' => e = .returned (.bool (decide (48 ≤ c ∧ c ≤ 57))) ∧ w' = w := by
  by_cases h1 : 48 ≤ c
  · by_cases h2 : c ≤ 57
    · have a1 : (48 : Int) ≤ (c : Int) := by omega
      have a2 : (c : Int) ≤ 57 := by omega
      rw [decide_eq_true ⟨h1, h2⟩]
      clear h1 h2
      go_enter Tryz.func152, Tryz.ntmps152
      go_wp2
      go_ret
      exact ⟨rfl, rfl⟩
    · have a1 : (48 : Int) ≤ (c : Int) := by omega
      have a2 : ¬ ((c : Int) ≤ 57) := by omega
      rw [decide_eq_false (by omega)]
      clear h1 h2
      go_enter Tryz.func152, Tryz.ntmps152
      go_wp2
      go_ret
      exact ⟨rfl, rfl⟩
  · have a1 : ¬ ((48 : Int) ≤ (c : Int)) := by omega
    rw [decide_eq_false (by omega)]
    clear h1
    go_enter Tryz.func152, Tryz.ntmps152
    go_wp2
    go_ret
    exact ⟨rfl, rfl⟩
set_option maxRecDepth 100000 in
theorem at_any (v : Value) (D : List Nat) (i : Int) (w : World) (h : IntsAt w v D) (hl : D.length ≤ 1000000000) (h0 : -1000000000 ≤ i) (h1 : i ≤ 1000000000) :
    Calls Tryz.prog 149 #[v, .int .i64 i] w fun e w' => e = .returned (.int .i64 (atL D i : Nat)) ∧ w' = w := by
  by_cases hn : i < 0
  · have e : atL D i = 0 := by unfold atL; rw [if_pos hn]
    rw [e]
    rcases h with ⟨rfl, rfl⟩ | ⟨b, off, cap, rfl, hlt, hc⟩
    · go_enter Tryz.func149, Tryz.ntmps149
      go_wp2
      go_ret
      exact ⟨rfl, rfl⟩
    · clear hc
      go_enter Tryz.func149, Tryz.ntmps149
      go_wp2
      go_ret
      exact ⟨rfl, rfl⟩
  · obtain ⟨k, rfl⟩ : ∃ k : Nat, i = k := ⟨i.toNat, by omega⟩
    rw [atL_nat]
    rcases h with ⟨rfl, rfl⟩ | ⟨b, off, cap, rfl, hlt, hc⟩
    · have hk : (0 : Int) ≤ (k : Int) := by omega
      have e : ([] : List Nat).getD k 0 = 0 := by simp
      rw [e]
      go_enter Tryz.func149, Tryz.ntmps149
      go_wp2
      go_ret
      exact ⟨rfl, rfl⟩
    · by_cases hk : k < D.length
      · have hcell := hc k hk
        have hki : (k : Int) < (D.length : Int) := by omega
        generalize D.getD k 0 = d at *
        clear hc
        go_enter Tryz.func149, Tryz.ntmps149
        go_wp2
        go_ret
        exact ⟨rfl, rfl⟩
      · have hki : (D.length : Int) ≤ (k : Int) := by omega
        have e : D.getD k 0 = 0 := by rw [List.getD_eq_getElem?_getD, List.getElem?_eq_none (by omega)]; rfl
        rw [e]
        clear hc
        go_enter Tryz.func149, Tryz.ntmps149
        go_wp2
        go_ret
        exact ⟨rfl, rfl⟩
set_option maxRecDepth 100000 in
theorem zero_any (v : Value) (D : List Nat) (w : World) (h : IntsAt w v D) (hl : D.length ≤ 1000000000) :
    Calls Tryz.prog 83 #[v] w fun e w' => e = .returned (.bool (decide (vL D = 0))) ∧ w' = w := by
  rcases h with ⟨rfl, rfl⟩ | ⟨b, off, cap, rfl, hlt, hc⟩
  · have e : decide (vL [] = 0) = true := by decide
    rw [e]
    go_enter Tryz.func83, Tryz.ntmps83
    go_wp2
    refine wp_loop_rounds 1 ?_; rw [rounds_succ]
    go_wp2
    go_ret
    exact ⟨rfl, rfl⟩
  · replace hc := Lib.hid hc
    go_enter Tryz.func83, Tryz.ntmps83
    go_wp2
    go_loop [3] (fun i => ∃ k : Nat, k ≤ D.length ∧ i = .int .i64 k ∧ Hid (∀ j, j < k → D.getD j 0 = 0)) (fun i => D.length - (intOf i).toNat)
    case atStart => exact ⟨0, by omega, rfl, fun j hj => by omega⟩
    case round =>
      obtain ⟨k, hk, rfl, hz⟩ := hrel
      by_cases hlt : k < D.length
      · have hcell := hc.out k hlt
        have hki : (k : Int) < (D.length : Int) := by omega
        by_cases h0 : D.getD k 0 = 0
        · rw [h0] at hcell
          replace h0 := Lib.hid h0
          go_wp2
          go_round
          case rel =>
            refine ⟨k + 1, by omega, by go_num, fun j hj => ?_⟩
            rcases Nat.lt_or_ge j k with e | e
            · exact hz.out j e
            · rw [show j = k by omega]; exact h0.out
          case measure => simp [intOf]; omega
        · have hne : decide (vL D = 0) = false := by
            apply decide_eq_false
            intro hv
            have := vL_zero.1 hv (D.getD k 0) (by rw [List.getD_eq_getElem?_getD, List.getElem?_eq_getElem hlt]; exact List.getElem_mem hlt)
            exact h0 this
          replace hne := Lib.hid hne
          have h1 : (((D.getD k 0 : Nat) : Int) != 0) = true := bne_iff_ne.2 (by omega)
          generalize D.getD k 0 = d at *
          clear h0
          go_wp2
          go_ret
          exact ⟨ret_bool hne.out.symm, rfl⟩
      · have hki : ¬ ((k : Int) < (D.length : Int)) := by omega
        have hv : decide (vL D = 0) = true := by
          apply decide_eq_true
          apply vL_zero.2
          intro d hd
          obtain ⟨j, hj, rfl⟩ := List.getElem_of_mem hd
          have := hz.out j (by omega)
          rwa [List.getD_eq_getElem?_getD, List.getElem?_eq_getElem hj] at this
        replace hv := Lib.hid hv
        go_wp2
        go_ret
        exact ⟨ret_bool hv.out.symm, rfl⟩
end Go.Proofs.YthecgifgjagmaaaGreatDoor.dec
