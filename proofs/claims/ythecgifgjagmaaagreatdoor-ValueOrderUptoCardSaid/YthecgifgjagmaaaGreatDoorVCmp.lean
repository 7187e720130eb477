/- Contracts of what Order calls: the library's Compare, Or; rank. -/
import Derived.Test.YthecgifgjagmaaaGreatDoorVPlain
import Derived.Test.YthecgifgjagmaaaGreatDoorValNum
namespace Go.Proofs.YthecgifgjagmaaaGreatDoor.val
open Go.ChangeShapes Go.WideShapes Go.ChangeAt Go.RowKit kit dec
set_option linter.unusedVariables false
set_option linter.unusedSimpArgs false
theorem nanInt_any (a : Int) (w : World) : Calls Tryz.prog 107 #[.int .i64 a] w fun e w' => e = .returned (.bool false) ∧ w' = w := by
  go_enter Tryz.func107, Tryz.ntmps107
  go_wp2
  go_ret
  exact ⟨ret_bool (by simp), rfl⟩
theorem nanStr_any (a : ByteArray) (w : World) : Calls Tryz.prog 108 #[.string a] w fun e w' => e = .returned (.bool false) ∧ w' = w := by
  go_enter Tryz.func108, Tryz.ntmps108
  go_wp2
  go_ret
  exact ⟨ret_bool (by simp), rfl⟩
set_option maxRecDepth 100000 in
theorem cmpInt_any (a b : Int) (w : World) : Calls Tryz.prog 57 #[.int .i64 a, .int .i64 b] w fun e w' => e = .returned (.int .i64 (cmpI a b)) ∧ w' = w := by
  by_cases h : a < b
  · have hc : cmpI a b = -1 := by unfold cmpI; rw [if_neg (by omega), if_pos h]
    rw [hc]
    clear hc
    go_enter Tryz.func57, Tryz.ntmps57
    go_wp2_with (go_at_call 107; refine (nanInt_any _ _).mono ?_; rintro e w' ⟨rfl, rfl⟩)
    go_ret
    exact ⟨rfl, rfl⟩
  · by_cases h2 : b < a
    · have hc : cmpI a b = 1 := by unfold cmpI; rw [if_neg (by omega), if_neg h]
      rw [hc]
      clear hc
      go_enter Tryz.func57, Tryz.ntmps57
      go_wp2_with (go_at_call 107; refine (nanInt_any _ _).mono ?_; rintro e w' ⟨rfl, rfl⟩)
      go_ret
      exact ⟨rfl, rfl⟩
    · have hc : cmpI a b = 0 := by unfold cmpI; rw [if_pos (by omega)]
      rw [hc]
      clear hc
      go_enter Tryz.func57, Tryz.ntmps57
      go_wp2_with (go_at_call 107; refine (nanInt_any _ _).mono ?_; rintro e w' ⟨rfl, rfl⟩)
      go_ret
      exact ⟨rfl, rfl⟩
set_option maxRecDepth 100000 in
theorem cmpStr_any (a b : ByteArray) (w : World) : Calls Tryz.prog 60 #[.string a, .string b] w fun e w' => e = .returned (.int .i64 (cmpT a b)) ∧ w' = w := by
  unfold cmpT cmpL
  cases h : Op.bytesLess a.toList b.toList
  · cases h2 : Op.bytesLess b.toList a.toList
    · have heq : (a.toList == b.toList) = true := by
        rw [beq_iff_eq]
        rcases bl_tri a.toList b.toList with e | e | e
        · rw [h] at e; cases e
        · exact e
        · rw [h2] at e; cases e
      rw [if_neg (by decide), if_neg (by decide)]
      go_enter Tryz.func60, Tryz.ntmps60
      go_wp2_with (go_at_call 108; refine (nanStr_any _ _).mono ?_; rintro e w' ⟨rfl, rfl⟩)
      go_ret
      exact ⟨rfl, rfl⟩
    · have heq : (a.toList == b.toList) = false := by
        apply beq_eq_false_iff_ne.2
        intro e
        rw [e, bl_irr] at h2; cases h2
      rw [if_neg (by decide), if_pos rfl]
      go_enter Tryz.func60, Tryz.ntmps60
      go_wp2_with (go_at_call 108; refine (nanStr_any _ _).mono ?_; rintro e w' ⟨rfl, rfl⟩)
      go_ret
      exact ⟨rfl, rfl⟩
  · rw [if_pos rfl]
    go_enter Tryz.func60, Tryz.ntmps60
    go_wp2_with (go_at_call 108; refine (nanStr_any _ _).mono ?_; rintro e w' ⟨rfl, rfl⟩)
    go_ret
    exact ⟨rfl, rfl⟩
set_option maxRecDepth 100000 in
theorem or_any (b : Nat) (p q : Int) (w : World) (h0 : w.cell? ⟨b, 0, none⟩ = some (.int .i64 p)) (h1 : w.cell? ⟨b, 1, none⟩ = some (.int .i64 q)) :
    Calls Tryz.prog 64 #[.slice (some ⟨b, 0, none⟩) 2 2] w fun e w' => e = .returned (.int .i64 (orI p q)) ∧ w' = w := by
  go_enter Tryz.func64, Tryz.ntmps64
  go_wp2
  go_loop [8] (fun v => ∃ j : Nat, v = .int .i64 j ∧ (j = 0 ∨ (j = 1 ∧ p = 0) ∨ (j = 2 ∧ p = 0 ∧ q = 0))) (fun v => 2 - (intOf v).toNat)
  case atStart => exact ⟨0, rfl, .inl rfl⟩
  case round =>
    obtain ⟨j, rfl, hj⟩ := hrel
    rcases hj with rfl | ⟨rfl, hp⟩ | ⟨rfl, hp, hq⟩
    · by_cases hp : p = 0
      · subst hp
        go_wp2
        go_round
        case rel => exact ⟨1, by go_num, by simp⟩
        case measure => simp [intOf]
      · have hpb : (p != 0) = true := bne_iff_ne.2 hp
        go_wp2
        go_ret
        exact ⟨ret_int (by unfold orI; rw [if_neg hp]), rfl⟩
    · subst hp
      by_cases hq : q = 0
      · subst hq
        go_wp2
        go_round
        case rel => exact ⟨2, by go_num, by simp⟩
        case measure => simp [intOf]
      · have hqb : (q != 0) = true := bne_iff_ne.2 hq
        go_wp2
        go_ret
        exact ⟨ret_int (by unfold orI; rw [if_pos rfl]), rfl⟩
    · subst hp hq
      go_wp2
      go_ret
      exact ⟨ret_int (by rfl), rfl⟩
set_option maxRecDepth 100000 in
set_option maxHeartbeats 2000000 in
theorem rank_any (lang k : Int) (b : Bool) (n : Int) (t x : ByteArray) (s : Value) (w : World) : Calls Tryz.prog 58 #[.int .i64 lang, agg6 k b n t x s] w fun e w' => e = .returned (.int .i64 (rankV (decide (lang = 1)) k)) ∧ Below w.heap.size w w' := by
  unfold agg6
  have hb : Below w.heap.size w (w.alloc (.cells #[.int .i64 k, .bool b, .int .i64 n, .string t, .string x, s] 26)) := (Below.refl _ _).alloc (Nat.le_refl _) _
  replace hb := Lib.hid hb
  rcases kinds k with rfl | rfl | rfl | rfl | rfl | rfl | rfl | rfl | rfl | rfl | rfl | ⟨h0, h1, h2, h3, h4, h5, h6, h7, h8, h9, h10⟩
  · by_cases hl : lang = 1
    · subst hl
      go_enter Tryz.func58, Tryz.ntmps58
      go_wp2
      go_ret
      exact ⟨rfl, hb.out⟩
    · have hlb : (lang == 1) = false := beq_eq_false_iff_ne.2 hl
      rw [decide_eq_false hl]
      go_enter Tryz.func58, Tryz.ntmps58
      go_wp2
      go_ret
      exact ⟨rfl, hb.out⟩
  iterate 10
    · go_enter Tryz.func58, Tryz.ntmps58
      go_wp2
      go_ret
      exact ⟨rfl, hb.out⟩
  · have hp : rankV (decide (lang = 1)) k = 11 := by
      unfold rankV
      repeat' split
      all_goals omega
    rw [hp]
    clear hp
    have q0 : (k == 0) = false := by simpa using h0
    have q1 : (k == 1) = false := by simpa using h1
    have q2 : (k == 2) = false := by simpa using h2
    have q3 : (k == 3) = false := by simpa using h3
    have q4 : (k == 4) = false := by simpa using h4
    have q5 : (k == 5) = false := by simpa using h5
    have q6 : (k == 6) = false := by simpa using h6
    have q7 : (k == 7) = false := by simpa using h7
    have q8 : (k == 8) = false := by simpa using h8
    have q9 : (k == 9) = false := by simpa using h9
    have q10 : (k == 10) = false := by simpa using h10
    clear h0 h1 h2 h3 h4 h5 h6 h7 h8 h9 h10
    go_enter Tryz.func58, Tryz.ntmps58
    go_wp2
    go_ret
    exact ⟨rfl, hb.out⟩
end Go.Proofs.YthecgifgjagmaaaGreatDoor.val
