/- Contracts of word and of the reference's Name. -/
import Derived.Test.YtnocncmjdhlmkaaKit
import Derived.IntWalk
import Derived.Deep.DeepCutAuto
namespace Go.Proofs.Ytnocncmjdhlmkaa.hyp
open Go.ChangeShapes Go.WideShapes Go.ChangeAt Go.RowKit kit
set_option linter.unusedVariables false
set_option linter.unusedSimpArgs false
def letterC (c : Nat) : Bool := decide ((97 ≤ c ∧ c ≤ 122) ∨ (65 ≤ c ∧ c ≤ 90) ∨ c = 95)
/-- May a name have this at that place? -/
def nameC (i c : Nat) : Bool := letterC c || (decide (i ≠ 0) && decide (48 ≤ c ∧ c ≤ 57))
def nameB (s : ByteArray) : Bool := decide (1 ≤ s.size ∧ s.size ≤ 64 ∧ ∀ i (h : i < s.size), nameC i s[i].toNat = true)
theorem letterC_iff (n : Nat) : letterC n = true ↔ (97 ≤ n ∧ n ≤ 122) ∨ (65 ≤ n ∧ n ≤ 90) ∨ n = 95 := by unfold letterC; exact decide_eq_true_iff
theorem nameC_iff (i n : Nat) : nameC i n = true ↔ ((97 ≤ n ∧ n ≤ 122) ∨ (65 ≤ n ∧ n ≤ 90) ∨ n = 95) ∨ (i ≠ 0 ∧ 48 ≤ n ∧ n ≤ 57) := by
  unfold nameC
  rw [Bool.or_eq_true, letterC_iff, Bool.and_eq_true, decide_eq_true_iff, decide_eq_true_iff]
theorem nameB_iff (s : ByteArray) : nameB s = true ↔ 1 ≤ s.size ∧ s.size ≤ 64 ∧ ∀ i (h : i < s.size), nameC i s[i].toNat = true := by unfold nameB; exact decide_eq_true_iff
set_option maxRecDepth 100000 in
set_option maxHeartbeats 1000000 in
theorem word_any (s : ByteArray) (w : World) (hs : s.size ≤ 9223372036854775807) : Calls Try.prog 50 #[.string s] w fun e w' => e = .returned (.bool (nameB s)) ∧ w' = w := by
  obtain ⟨R, hR⟩ : ∃ R, nameB s = R := ⟨_, rfl⟩
  rw [hR]
  replace hR := Lib.hid hR
  go_enter Try.func50, Try.ntmps50
  go_wp2
  go_loop [8] (fun v => ∃ k : Nat, k ≤ s.size ∧ v = .int .i64 k ∧ Hid (∀ i (h : i < s.size), i < k → nameC i s[i].toNat = true)) (fun v => s.size - (intOf v).toNat)
  case atStart => exact ⟨0, by omega, rfl, fun i _ h => by omega⟩
  case round =>
    obtain ⟨k, hk, rfl, hi⟩ := hrel
    by_cases hlt : k < s.size
    · have hki : (k : Int) < (s.size : Int) := by omega
      obtain ⟨n, hn⟩ : ∃ n, (s[k]'hlt).toNat = n := ⟨_, rfl⟩
      have hn2 := Lib.hid hn
      obtain ⟨q, hq⟩ : ∃ q, letterC n = q := ⟨_, rfl⟩
      replace hq := Lib.hid hq
      go_upto_region 5 with (fail)
      go_cut [5] (fun v wx => v = .bool q ∧ wx = w)
      case first =>
        as_aux_lemma =>
          clear hR hi
          by_cases a1 : 97 ≤ n <;> by_cases a2 : n ≤ 122 <;> by_cases a3 : 65 ≤ n <;> by_cases a4 : n ≤ 90 <;> by_cases a5 : n = 95
          all_goals first
            | (exfalso; omega)
            | skip
          all_goals
            first
            | (have g1 : (97 : Int) ≤ (n : Int) := by omega) | (have g1 : ¬ (97 : Int) ≤ (n : Int) := by omega)
          all_goals
            first
            | (have g2 : (n : Int) ≤ 122 := by omega) | (have g2 : ¬ (n : Int) ≤ 122 := by omega)
          all_goals
            first
            | (have g3 : (65 : Int) ≤ (n : Int) := by omega) | (have g3 : ¬ (65 : Int) ≤ (n : Int) := by omega)
          all_goals
            first
            | (have g4 : (n : Int) ≤ 90 := by omega) | (have g4 : ¬ (n : Int) ≤ 90 := by omega)
          all_goals
            first
            | (have g5 : ((n : Int) == 95) = true := by rw [show n = 95 by omega]; rfl) | (have g5 : ((n : Int) == 95) = false := beq_eq_false_iff_ne.2 (by omega))
          all_goals
            replace a5 := Lib.hid a5
            go_wp2
          all_goals
            go_meet
          all_goals
            exact ⟨congrArg _ (by have := a5.out; rw [← hq.out]; unfold letterC; first | exact (decide_eq_true (by omega)).symm | exact (decide_eq_false (by omega)).symm), rfl⟩
      obtain ⟨rfl, hwx⟩ := hcut
      rw [hwx]; clear hwx
      have hbad : nameC k n = false → R = false := fun h => by
        rw [← hR.out]; apply Bool.eq_false_iff.2; intro h1
        have := ((nameB_iff s).1 h1).2.2 k hlt
        rw [hn2.out, h] at this; cases this
      have hnx : nameC k n = true → ∀ i (h : i < s.size), i < k + 1 → nameC i s[i].toNat = true := fun h i h1 h2 => by
        rcases Nat.lt_or_ge i k with e | e
        · exact hi.out i h1 e
        · obtain rfl : i = k := by omega
          rw [hn2.out]; exact h
      clear hi
      cases q
      · have hql : ¬ ((97 ≤ n ∧ n ≤ 122) ∨ (65 ≤ n ∧ n ≤ 90) ∨ n = 95) := fun h => by
          have := (letterC_iff n).2 h
          rw [hq.out] at this; cases this
        by_cases hk0 : k = 0
        · subst hk0
          obtain rfl := hbad (by apply Bool.eq_false_iff.2; intro h; have := (nameC_iff 0 n).1 h; omega)
          clear hnx hbad
          go_wp2
          go_ret
          exact ⟨rfl, rfl⟩
        · have hk0i : ((k : Int) == 0) = false := beq_eq_false_iff_ne.2 (by omega)
          by_cases h1 : n < 48
          · have h1i : (n : Int) < 48 := by omega
            obtain rfl := hbad (by apply Bool.eq_false_iff.2; intro h; have := (nameC_iff k n).1 h; omega)
            clear hnx hbad
            go_wp2
            go_ret
            exact ⟨rfl, rfl⟩
          · have h1i : ¬ (n : Int) < 48 := by omega
            by_cases h2 : 57 < n
            · have h2i : (57 : Int) < (n : Int) := by omega
              obtain rfl := hbad (by apply Bool.eq_false_iff.2; intro h; have := (nameC_iff k n).1 h; omega)
              clear hnx hbad
              go_wp2
              go_ret
              exact ⟨rfl, rfl⟩
            · have h2i : ¬ (57 : Int) < (n : Int) := by omega
              replace hnx := Lib.hid (hnx ((nameC_iff k n).2 (.inr ⟨hk0, by omega, by omega⟩)))
              clear hbad
              go_wp2
              refine ⟨⟨k + 1, by omega, by go_num, hnx⟩, ?_⟩
              simp only [intOf]; omega
      · replace hnx := Lib.hid (hnx ((nameC_iff k n).2 (.inl ((letterC_iff n).1 hq.out))))
        clear hbad
        go_wp2
        refine ⟨⟨k + 1, by omega, by go_num, hnx⟩, ?_⟩
        simp only [intOf]; omega
    · have hki : ¬ (k : Int) < (s.size : Int) := by omega
      obtain rfl : k = s.size := by omega
      by_cases h1 : 1 ≤ s.size
      · have h1i : (1 : Int) ≤ (s.size : Int) := by omega
        by_cases h2 : s.size ≤ 64
        · have h2i : (s.size : Int) ≤ 64 := by omega
          obtain rfl : R = true := by rw [← hR.out]; exact (nameB_iff s).2 ⟨h1, h2, fun i h => hi.out i h h⟩
          go_wp2
          go_ret
          exact ⟨rfl, rfl⟩
        · have h2i : ¬ (s.size : Int) ≤ 64 := by omega
          obtain rfl : R = false := by rw [← hR.out]; apply Bool.eq_false_iff.2; intro h; exact h2 ((nameB_iff s).1 h).2.1
          go_wp2
          go_ret
          exact ⟨rfl, rfl⟩
      · have h1i : ¬ (1 : Int) ≤ (s.size : Int) := by omega
        obtain rfl : R = false := by rw [← hR.out]; apply Bool.eq_false_iff.2; intro h; exact h1 ((nameB_iff s).1 h).1
        go_wp2
        go_ret
        exact ⟨rfl, rfl⟩

/-- A sign that a name may have behind its first. -/
def nmC (n : Nat) : Bool := decide ((97 ≤ n ∧ n ≤ 122) ∨ (65 ≤ n ∧ n ≤ 90) ∨ (48 ≤ n ∧ n ≤ 57) ∨ n = 95)
theorem nmC_iff (n : Nat) : nmC n = true ↔ ((97 ≤ n ∧ n ≤ 122) ∨ (65 ≤ n ∧ n ≤ 90) ∨ (48 ≤ n ∧ n ≤ 57) ∨ n = 95) := decide_eq_true_iff
theorem nameB_nm (s : ByteArray) (h0 : 0 < s.size) : nameB s = true ↔ s.size ≤ 64 ∧ ¬ (48 ≤ s[0].toNat ∧ s[0].toNat ≤ 57) ∧ ∀ i (h : i < s.size), nmC s[i].toNat = true := by
  rw [nameB_iff]
  constructor
  · rintro ⟨h1, h2, h3⟩
    refine ⟨h2, fun e => ?_, fun i h => ?_⟩
    · have := (nameC_iff 0 _).1 (h3 0 h0)
      omega
    · have := (nameC_iff i _).1 (h3 i h)
      rw [nmC_iff]
      omega
  · rintro ⟨h1, h2, h3⟩
    refine ⟨h0, h1, fun i h => ?_⟩
    have := (nmC_iff _).1 (h3 i h)
    rw [nameC_iff]
    by_cases hi : i = 0
    · subst hi; omega
    · omega
theorem parts (n : Nat) : n < 48 ∨ (48 ≤ n ∧ n ≤ 57) ∨ (58 ≤ n ∧ n ≤ 64) ∨ (65 ≤ n ∧ n ≤ 90) ∨ (91 ≤ n ∧ n ≤ 94) ∨ n = 95 ∨ n = 96 ∨ (97 ≤ n ∧ n ≤ 122) ∨ 123 ≤ n := by omega
set_option maxRecDepth 100000 in
set_option maxHeartbeats 2000000 in
theorem rname_any (s : ByteArray) (w : World) (hs : s.size ≤ 9223372036854775807) : Calls Try.prog 54 #[.string s] w fun e w' => e = .returned (.bool (nameB s)) ∧ w' = w := by
  by_cases h1 : s.size < 1
  · have hno : nameB s = false := by apply Bool.eq_false_iff.2; intro h; have := (nameB_iff s).1 h; omega
    have h1i : (s.size : Int) < 1 := by omega
    rw [hno]
    go_enter Try.func54, Try.ntmps54
    go_wp2
    go_ret
    exact ⟨rfl, rfl⟩
  by_cases h2 : 64 < s.size
  · have hno : nameB s = false := by apply Bool.eq_false_iff.2; intro h; have := (nameB_iff s).1 h; omega
    have h1i : ¬ (s.size : Int) < 1 := by omega
    have h2i : (64 : Int) < (s.size : Int) := by omega
    rw [hno]
    go_enter Try.func54, Try.ntmps54
    go_wp2
    go_ret
    exact ⟨rfl, rfl⟩
  have h1i : ¬ (s.size : Int) < 1 := by omega
  have h2i : ¬ (64 : Int) < (s.size : Int) := by omega
  have h0 : 0 < s.size := by omega
  have h0i : (0 : Int) < (s.size : Int) := by omega
  have hnm := nameB_nm s h0
  obtain ⟨n0, hn0⟩ : ∃ n, (s[0]'h0).toNat = n := ⟨_, rfl⟩
  rw [hn0] at hnm
  have hn02 := Lib.hid hn0
  obtain ⟨R, hR⟩ : ∃ R, nameB s = R := ⟨_, rfl⟩
  rw [hR] at hnm ⊢
  replace hR := Lib.hid hR
  replace hnm := Lib.hid hnm
  by_cases h3 : 48 ≤ n0
  · have h3i : (48 : Int) ≤ (n0 : Int) := by omega
    by_cases h4 : n0 ≤ 57
    · have h4i : (n0 : Int) ≤ 57 := by omega
      obtain rfl : R = false := by apply Bool.eq_false_iff.2; intro h; exact (hnm.out.1 h).2.1 ⟨h3, h4⟩
      go_enter Try.func54, Try.ntmps54
      go_wp2
      go_ret
      exact ⟨rfl, rfl⟩
    · have h4i : ¬ (n0 : Int) ≤ 57 := by omega
      have hdg : ¬ (48 ≤ n0 ∧ n0 ≤ 57) := fun e => h4 e.2
      go_enter Try.func54, Try.ntmps54
      replace hdg := Lib.hid hdg
      go_wp2
      go_loop [3] (fun v => ∃ k : Nat, k ≤ s.size ∧ v = .int .i64 k ∧ Hid (∀ i (h : i < s.size), i < k → nmC s[i].toNat = true)) (fun v => s.size - (intOf v).toNat)
      case atStart => exact ⟨0, by omega, rfl, fun i _ h => by omega⟩
      case round =>
        obtain ⟨k, hk, rfl, hi⟩ := hrel
        by_cases hlt : k < s.size
        · have hki : (k : Int) < (s.size : Int) := by omega
          obtain ⟨n, hn⟩ : ∃ n, (s[k]'hlt).toNat = n := ⟨_, rfl⟩
          have hn2 := Lib.hid hn
          obtain ⟨q, hq⟩ : ∃ q, (!nmC n) = q := ⟨_, rfl⟩
          replace hq := Lib.hid hq
          go_upto_region 7 with (fail)
          go_cut [58] (fun v wx => v = .bool q ∧ wx = w)
          case first =>
            as_aux_lemma =>
              clear hR hi hnm hdg h3i hn02
              rcases parts n with hcl | hcl | hcl | hcl | hcl | hcl | hcl | hcl | hcl
              all_goals
                first
                | (have g1 : (97 : Int) ≤ (n : Int) := by omega) | (have g1 : ¬ (97 : Int) ≤ (n : Int) := by omega)
              all_goals
                first
                | (have g2 : (n : Int) ≤ 122 := by omega) | (have g2 : ¬ (n : Int) ≤ 122 := by omega)
              all_goals
                first
                | (have g3 : (65 : Int) ≤ (n : Int) := by omega) | (have g3 : ¬ (65 : Int) ≤ (n : Int) := by omega)
              all_goals
                first
                | (have g4 : (n : Int) ≤ 90 := by omega) | (have g4 : ¬ (n : Int) ≤ 90 := by omega)
              all_goals
                first
                | (have g6 : (48 : Int) ≤ (n : Int) := by omega) | (have g6 : ¬ (48 : Int) ≤ (n : Int) := by omega)
              all_goals
                first
                | (have g7 : (n : Int) ≤ 57 := by omega) | (have g7 : ¬ (n : Int) ≤ 57 := by omega)
              all_goals
                first
                | (have g5 : ((n : Int) == 95) = true := by rw [show n = 95 by omega]; rfl) | (have g5 : ((n : Int) == 95) = false := beq_eq_false_iff_ne.2 (by omega))
              all_goals
                replace hcl := Lib.hid hcl
                go_wp2
              all_goals
                go_meet
              all_goals
                exact ⟨congrArg _ (by have := hcl.out; rw [← hq.out]; unfold nmC; first | (rw [decide_eq_true (by omega)]; rfl) | (rw [decide_eq_false (by omega)]; rfl)), rfl⟩
          obtain ⟨rfl, hwx⟩ := hcut
          rw [hwx]; clear hwx
          cases q
          · have hnx : ∀ i (h : i < s.size), i < k + 1 → nmC s[i].toNat = true := fun i h1 h2 => by
              rcases Nat.lt_or_ge i k with e | e
              · exact hi.out i h1 e
              · obtain rfl : i = k := by omega
                rw [hn2.out]
                have := hq.out
                simpa using this
            replace hnx := Lib.hid hnx
            clear hi
            go_wp2
            go_round
            case rel => exact ⟨k + 1, by omega, by go_num, hnx⟩
            case measure => simp [intOf]; omega
          · obtain rfl : R = false := by
              apply Bool.eq_false_iff.2
              intro h
              have h5 := (hnm.out.1 h).2.2 k hlt
              rw [hn2.out] at h5
              have := hq.out
              rw [h5] at this
              cases this
            go_wp2
            go_ret
            exact ⟨rfl, rfl⟩
        · have hki : ¬ (k : Int) < (s.size : Int) := by omega
          obtain rfl : k = s.size := by omega
          obtain rfl : R = true := hnm.out.2 ⟨by omega, hdg.out, fun i h => hi.out i h h⟩
          go_wp2
          go_ret
          exact ⟨rfl, rfl⟩
  · have h3i : ¬ (48 : Int) ≤ (n0 : Int) := by omega
    have hdg : ¬ (48 ≤ n0 ∧ n0 ≤ 57) := fun e => h3 e.1
    go_enter Try.func54, Try.ntmps54
    replace hdg := Lib.hid hdg
    go_wp2
    go_loop [3] (fun v => ∃ k : Nat, k ≤ s.size ∧ v = .int .i64 k ∧ Hid (∀ i (h : i < s.size), i < k → nmC s[i].toNat = true)) (fun v => s.size - (intOf v).toNat)
    case atStart => exact ⟨0, by omega, rfl, fun i _ h => by omega⟩
    case round =>
      obtain ⟨k, hk, rfl, hi⟩ := hrel
      by_cases hlt : k < s.size
      · have hki : (k : Int) < (s.size : Int) := by omega
        obtain ⟨n, hn⟩ : ∃ n, (s[k]'hlt).toNat = n := ⟨_, rfl⟩
        have hn2 := Lib.hid hn
        obtain ⟨q, hq⟩ : ∃ q, (!nmC n) = q := ⟨_, rfl⟩
        replace hq := Lib.hid hq
        go_upto_region 7 with (fail)
        go_cut [58] (fun v wx => v = .bool q ∧ wx = w)
        case first =>
          as_aux_lemma =>
            clear hR hi hnm hdg h3i hn02
            rcases parts n with hcl | hcl | hcl | hcl | hcl | hcl | hcl | hcl | hcl
            all_goals
              first
              | (have g1 : (97 : Int) ≤ (n : Int) := by omega) | (have g1 : ¬ (97 : Int) ≤ (n : Int) := by omega)
            all_goals
              first
              | (have g2 : (n : Int) ≤ 122 := by omega) | (have g2 : ¬ (n : Int) ≤ 122 := by omega)
            all_goals
              first
              | (have g3 : (65 : Int) ≤ (n : Int) := by omega) | (have g3 : ¬ (65 : Int) ≤ (n : Int) := by omega)
            all_goals
              first
              | (have g4 : (n : Int) ≤ 90 := by omega) | (have g4 : ¬ (n : Int) ≤ 90 := by omega)
            all_goals
              first
              | (have g6 : (48 : Int) ≤ (n : Int) := by omega) | (have g6 : ¬ (48 : Int) ≤ (n : Int) := by omega)
            all_goals
              first
              | (have g7 : (n : Int) ≤ 57 := by omega) | (have g7 : ¬ (n : Int) ≤ 57 := by omega)
            all_goals
              first
              | (have g5 : ((n : Int) == 95) = true := by rw [show n = 95 by omega]; rfl) | (have g5 : ((n : Int) == 95) = false := beq_eq_false_iff_ne.2 (by omega))
            all_goals
              replace hcl := Lib.hid hcl
              go_wp2
            all_goals
              go_meet
            all_goals
              exact ⟨congrArg _ (by have := hcl.out; rw [← hq.out]; unfold nmC; first | (rw [decide_eq_true (by omega)]; rfl) | (rw [decide_eq_false (by omega)]; rfl)), rfl⟩
        obtain ⟨rfl, hwx⟩ := hcut
        rw [hwx]; clear hwx
        cases q
        · have hnx : ∀ i (h : i < s.size), i < k + 1 → nmC s[i].toNat = true := fun i h1 h2 => by
            rcases Nat.lt_or_ge i k with e | e
            · exact hi.out i h1 e
            · obtain rfl : i = k := by omega
              rw [hn2.out]
              have := hq.out
              simpa using this
          replace hnx := Lib.hid hnx
          clear hi
          go_wp2
          go_round
          case rel => exact ⟨k + 1, by omega, by go_num, hnx⟩
          case measure => simp [intOf]; omega
        · obtain rfl : R = false := by
            apply Bool.eq_false_iff.2
            intro h
            have h5 := (hnm.out.1 h).2.2 k hlt
            rw [hn2.out] at h5
            have := hq.out
            rw [h5] at this
            cases this
          go_wp2
          go_ret
          exact ⟨rfl, rfl⟩
      · have hki : ¬ (k : Int) < (s.size : Int) := by omega
        obtain rfl : k = s.size := by omega
        obtain rfl : R = true := hnm.out.2 ⟨by omega, hdg.out, fun i h => hi.out i h h⟩
        go_wp2
        go_ret
        exact ⟨rfl, rfl⟩
end Go.Proofs.Ytnocncmjdhlmkaa.hyp
