/- Of all truth values the operations of package logic obey the laws of three truth values. -/
import Derived.Test.YtakgjoiloklfkaaLogic
import Derived.Test.YtakgjoiloklfkaaFrame
namespace Go.Proofs.Ytakgjoiloklfkaa.logic
open Go.ChangeShapes Go.WideShapes Go.ChangeAt Go.RowKit
set_option linter.unusedVariables false

theorem wakes_any (w : World) : Calls Try.prog 14 #[] w fun e w' => e = .returned (.bool true) ∧ ∃ n, w' = w.drewN n := by
  have h1 : and3 0 2 = 0 := by decide
  have h2 : or3 1 2 = 1 := by decide
  have h3 : not3 1 = 0 := by decide
  have h4 : xor3 1 0 = 1 := by decide
  go_enter Try.func14, Try.ntmps14
  go_wp2_with (first | (go_at_call 6; refine (not_any _ _).mono ?_; rintro e w' ⟨rfl, rfl⟩) | (go_at_call 8; refine (and_any _ _ _).mono ?_; rintro e w' ⟨rfl, n, rfl⟩) | (go_at_call 10; refine (or_any _ _ _).mono ?_; rintro e w' ⟨rfl, n, rfl⟩) | (go_at_call 12; refine (xor_any _ _ _).mono ?_; rintro e w' ⟨rfl, n, rfl⟩))
  go_ret
  exact ⟨rfl, _, rfl⟩

theorem facts1 (a : Int) (h0 : 0 ≤ a) (h1 : a < 3) : (not3 (not3 a) != a) = false ∧ (and3 a a != a) = false ∧ (or3 a a != a) = false ∧ (and3 a 1 != a) = false ∧ (or3 a 0 != a) = false ∧ (and3 a 0 != 0) = false ∧ (or3 a 1 != 1) = false := by
  have : a = 0 ∨ a = 1 ∨ a = 2 := by omega
  rcases this with rfl | rfl | rfl <;> decide
theorem facts2 (a b : Int) (h0 : 0 ≤ a) (h1 : a < 3) (k0 : 0 ≤ b) (k1 : b < 3) : (not3 (and3 a b) != or3 (not3 a) (not3 b)) = false ∧ (and3 a b != and3 b a) = false ∧ (or3 a b != or3 b a) = false ∧ (xor3 a b != xor3 b a) = false ∧ (a = 2 ∨ b = 2 ∨ (xor3 a b != and3 (or3 a b) (not3 (and3 a b))) = false) := by
  have : a = 0 ∨ a = 1 ∨ a = 2 := by omega
  have : b = 0 ∨ b = 1 ∨ b = 2 := by omega
  rcases ‹a = 0 ∨ _› with rfl | rfl | rfl <;> rcases ‹b = 0 ∨ _› with rfl | rfl | rfl <;> decide
theorem facts3 (a b c : Int) (h0 : 0 ≤ a) (h1 : a < 3) (k0 : 0 ≤ b) (k1 : b < 3) (m0 : 0 ≤ c) (m1 : c < 3) : (and3 a (and3 b c) != and3 (and3 a b) c) = false ∧ (or3 a (or3 b c) != or3 (or3 a b) c) = false ∧ (and3 a (or3 b c) != or3 (and3 a b) (and3 a c)) = false ∧ (or3 a (and3 b c) != and3 (or3 a b) (or3 a c)) = false := by
  have : a = 0 ∨ a = 1 ∨ a = 2 := by omega
  have : b = 0 ∨ b = 1 ∨ b = 2 := by omega
  have : c = 0 ∨ c = 1 ∨ c = 2 := by omega
  rcases ‹a = 0 ∨ _› with rfl | rfl | rfl <;> rcases ‹b = 0 ∨ _› with rfl | rfl | rfl <;> rcases ‹c = 0 ∨ _› with rfl | rfl | rfl <;> decide

set_option maxRecDepth 100000 in
set_option maxHeartbeats 2000000 in
theorem laws_any (w : World) : Calls Try.prog 4 #[] w fun e w' => e = .returned (.bool true) ∧ ∃ n, w' = w.drewN n := by
  go_enter Try.func4, Try.ntmps4
  go_wp2
  go_loopw [1] (fun i wr => (∃ a : Int, 0 ≤ a ∧ a ≤ 3 ∧ i = .int .i64 a) ∧ ∃ n, wr = w.drewN n) (fun i _ => 3 - (intOf i).toNat)
  case atStart => exact ⟨⟨0, by omega, by omega, rfl⟩, 0, rfl⟩
  case round =>
    obtain ⟨⟨a, ha0, ha3, rfl⟩, n0, rfl⟩ := hrel
    by_cases ha : a < 3
    · obtain ⟨f1, f2, f3, f4, f5, f6, f7⟩ := facts1 a ha0 ha
      go_wp2_with (first | (go_at_call 6; refine (not_any _ _).mono ?_; rintro e w' ⟨rfl, rfl⟩) | (go_at_call 8; refine (and_any _ _ _).mono ?_; rintro e w' ⟨rfl, n, rfl⟩) | (go_at_call 10; refine (or_any _ _ _).mono ?_; rintro e w' ⟨rfl, n, rfl⟩) | (go_at_call 12; refine (xor_any _ _ _).mono ?_; rintro e w' ⟨rfl, n, rfl⟩) | (go_at_call 14; refine (wakes_any _).mono ?_; rintro e w' ⟨rfl, n, rfl⟩))
      clear f1 f2 f3 f4 f5 f6 f7
      go_loopw [2] (fun i wr => (∃ b : Int, 0 ≤ b ∧ b ≤ 3 ∧ i = .int .i64 b) ∧ ∃ n, wr = w.drewN n) (fun i _ => 3 - (intOf i).toNat)
      case atStart => exact ⟨⟨0, by omega, by omega, rfl⟩, _, rfl⟩
      case round =>
        obtain ⟨⟨b, hb0, hb3, rfl⟩, n1, rfl⟩ := hrel
        by_cases hb : b < 3
        · obtain ⟨f1, f2, f3, f4, f5⟩ := facts2 a b ha0 ha hb0 hb
          have part : (a = 2 ∨ b = 2) ∨ (((a != 2) = true ∧ (b != 2) = true) ∧ (xor3 a b != and3 (or3 a b) (not3 (and3 a b))) = false) := by
            by_cases h1 : a = 2
            · exact .inl (.inl h1)
            · by_cases h2 : b = 2
              · exact .inl (.inr h2)
              · exact .inr ⟨⟨by simpa using h1, by simpa using h2⟩, by rcases f5 with h | h | h <;> first | contradiction | exact h⟩
          clear f5
          rcases part with (rfl | hb2) | ⟨⟨g1, g2⟩, g3⟩
          · go_wp2_with (first | (go_at_call 6; refine (not_any _ _).mono ?_; rintro e w' ⟨rfl, rfl⟩) | (go_at_call 8; refine (and_any _ _ _).mono ?_; rintro e w' ⟨rfl, n, rfl⟩) | (go_at_call 10; refine (or_any _ _ _).mono ?_; rintro e w' ⟨rfl, n, rfl⟩) | (go_at_call 12; refine (xor_any _ _ _).mono ?_; rintro e w' ⟨rfl, n, rfl⟩) | (go_at_call 14; refine (wakes_any _).mono ?_; rintro e w' ⟨rfl, n, rfl⟩))
            clear f1 f2 f3 f4
            go_loopw [3] (fun i wr => (∃ c : Int, 0 ≤ c ∧ c ≤ 3 ∧ i = .int .i64 c) ∧ ∃ n, wr = w.drewN n) (fun i _ => 3 - (intOf i).toNat)
            case atStart => exact ⟨⟨0, by omega, by omega, rfl⟩, _, rfl⟩
            case round =>
              obtain ⟨⟨c, hc0, hc3, rfl⟩, n2, rfl⟩ := hrel
              by_cases hc : c < 3
              · obtain ⟨e1, e2, e3, e4⟩ := facts3 2 b c (by omega) (by omega) (by omega) (by omega) hc0 hc
                go_wp2_with (first | (go_at_call 6; refine (not_any _ _).mono ?_; rintro e w' ⟨rfl, rfl⟩) | (go_at_call 8; refine (and_any _ _ _).mono ?_; rintro e w' ⟨rfl, n, rfl⟩) | (go_at_call 10; refine (or_any _ _ _).mono ?_; rintro e w' ⟨rfl, n, rfl⟩) | (go_at_call 12; refine (xor_any _ _ _).mono ?_; rintro e w' ⟨rfl, n, rfl⟩) | (go_at_call 14; refine (wakes_any _).mono ?_; rintro e w' ⟨rfl, n, rfl⟩))
                go_roundw
                case rel => exact ⟨⟨c + 1, by omega, by omega, rfl⟩, _, rfl⟩
                case measure => first | (simp [intOf]; done) | (simp [intOf]; omega)
              · go_wp2_with (first | (go_at_call 6; refine (not_any _ _).mono ?_; rintro e w' ⟨rfl, rfl⟩) | (go_at_call 8; refine (and_any _ _ _).mono ?_; rintro e w' ⟨rfl, n, rfl⟩) | (go_at_call 10; refine (or_any _ _ _).mono ?_; rintro e w' ⟨rfl, n, rfl⟩) | (go_at_call 12; refine (xor_any _ _ _).mono ?_; rintro e w' ⟨rfl, n, rfl⟩) | (go_at_call 14; refine (wakes_any _).mono ?_; rintro e w' ⟨rfl, n, rfl⟩))
                go_roundw
                case rel => exact ⟨⟨b + 1, by omega, by omega, rfl⟩, _, rfl⟩
                case measure => first | (simp [intOf]; done) | (simp [intOf]; omega)
          · by_cases ha2 : a = 2
            · subst ha2; subst hb2
              go_wp2_with (first | (go_at_call 6; refine (not_any _ _).mono ?_; rintro e w' ⟨rfl, rfl⟩) | (go_at_call 8; refine (and_any _ _ _).mono ?_; rintro e w' ⟨rfl, n, rfl⟩) | (go_at_call 10; refine (or_any _ _ _).mono ?_; rintro e w' ⟨rfl, n, rfl⟩) | (go_at_call 12; refine (xor_any _ _ _).mono ?_; rintro e w' ⟨rfl, n, rfl⟩) | (go_at_call 14; refine (wakes_any _).mono ?_; rintro e w' ⟨rfl, n, rfl⟩))
              clear f1 f2 f3 f4
              go_loopw [3] (fun i wr => (∃ c : Int, 0 ≤ c ∧ c ≤ 3 ∧ i = .int .i64 c) ∧ ∃ n, wr = w.drewN n) (fun i _ => 3 - (intOf i).toNat)
              case atStart => exact ⟨⟨0, by omega, by omega, rfl⟩, _, rfl⟩
              case round =>
                obtain ⟨⟨c, hc0, hc3, rfl⟩, n2, rfl⟩ := hrel
                by_cases hc : c < 3
                · obtain ⟨e1, e2, e3, e4⟩ := facts3 2 2 c (by omega) (by omega) (by omega) (by omega) hc0 hc
                  go_wp2_with (first | (go_at_call 6; refine (not_any _ _).mono ?_; rintro e w' ⟨rfl, rfl⟩) | (go_at_call 8; refine (and_any _ _ _).mono ?_; rintro e w' ⟨rfl, n, rfl⟩) | (go_at_call 10; refine (or_any _ _ _).mono ?_; rintro e w' ⟨rfl, n, rfl⟩) | (go_at_call 12; refine (xor_any _ _ _).mono ?_; rintro e w' ⟨rfl, n, rfl⟩) | (go_at_call 14; refine (wakes_any _).mono ?_; rintro e w' ⟨rfl, n, rfl⟩))
                  go_roundw
                  case rel => exact ⟨⟨c + 1, by omega, by omega, rfl⟩, _, rfl⟩
                  case measure => first | (simp [intOf]; done) | (simp [intOf]; omega)
                · go_wp2_with (first | (go_at_call 6; refine (not_any _ _).mono ?_; rintro e w' ⟨rfl, rfl⟩) | (go_at_call 8; refine (and_any _ _ _).mono ?_; rintro e w' ⟨rfl, n, rfl⟩) | (go_at_call 10; refine (or_any _ _ _).mono ?_; rintro e w' ⟨rfl, n, rfl⟩) | (go_at_call 12; refine (xor_any _ _ _).mono ?_; rintro e w' ⟨rfl, n, rfl⟩) | (go_at_call 14; refine (wakes_any _).mono ?_; rintro e w' ⟨rfl, n, rfl⟩))
                  go_roundw
                  case rel => exact ⟨⟨2 + 1, by omega, by omega, rfl⟩, _, rfl⟩
                  case measure => first | (simp [intOf]; done) | (simp [intOf]; omega)
            · have g1 : (a != 2) = true := by simpa using ha2
              clear ha2
              subst hb2
              go_wp2_with (first | (go_at_call 6; refine (not_any _ _).mono ?_; rintro e w' ⟨rfl, rfl⟩) | (go_at_call 8; refine (and_any _ _ _).mono ?_; rintro e w' ⟨rfl, n, rfl⟩) | (go_at_call 10; refine (or_any _ _ _).mono ?_; rintro e w' ⟨rfl, n, rfl⟩) | (go_at_call 12; refine (xor_any _ _ _).mono ?_; rintro e w' ⟨rfl, n, rfl⟩) | (go_at_call 14; refine (wakes_any _).mono ?_; rintro e w' ⟨rfl, n, rfl⟩))
              clear f1 f2 f3 f4 g1
              go_loopw [3] (fun i wr => (∃ c : Int, 0 ≤ c ∧ c ≤ 3 ∧ i = .int .i64 c) ∧ ∃ n, wr = w.drewN n) (fun i _ => 3 - (intOf i).toNat)
              case atStart => exact ⟨⟨0, by omega, by omega, rfl⟩, _, rfl⟩
              case round =>
                obtain ⟨⟨c, hc0, hc3, rfl⟩, n2, rfl⟩ := hrel
                by_cases hc : c < 3
                · obtain ⟨e1, e2, e3, e4⟩ := facts3 a 2 c (by omega) (by omega) (by omega) (by omega) hc0 hc
                  go_wp2_with (first | (go_at_call 6; refine (not_any _ _).mono ?_; rintro e w' ⟨rfl, rfl⟩) | (go_at_call 8; refine (and_any _ _ _).mono ?_; rintro e w' ⟨rfl, n, rfl⟩) | (go_at_call 10; refine (or_any _ _ _).mono ?_; rintro e w' ⟨rfl, n, rfl⟩) | (go_at_call 12; refine (xor_any _ _ _).mono ?_; rintro e w' ⟨rfl, n, rfl⟩) | (go_at_call 14; refine (wakes_any _).mono ?_; rintro e w' ⟨rfl, n, rfl⟩))
                  go_roundw
                  case rel => exact ⟨⟨c + 1, by omega, by omega, rfl⟩, _, rfl⟩
                  case measure => first | (simp [intOf]; done) | (simp [intOf]; omega)
                · go_wp2_with (first | (go_at_call 6; refine (not_any _ _).mono ?_; rintro e w' ⟨rfl, rfl⟩) | (go_at_call 8; refine (and_any _ _ _).mono ?_; rintro e w' ⟨rfl, n, rfl⟩) | (go_at_call 10; refine (or_any _ _ _).mono ?_; rintro e w' ⟨rfl, n, rfl⟩) | (go_at_call 12; refine (xor_any _ _ _).mono ?_; rintro e w' ⟨rfl, n, rfl⟩) | (go_at_call 14; refine (wakes_any _).mono ?_; rintro e w' ⟨rfl, n, rfl⟩))
                  go_roundw
                  case rel => exact ⟨⟨2 + 1, by omega, by omega, rfl⟩, _, rfl⟩
                  case measure => first | (simp [intOf]; done) | (simp [intOf]; omega)
          · go_wp2_with (first | (go_at_call 6; refine (not_any _ _).mono ?_; rintro e w' ⟨rfl, rfl⟩) | (go_at_call 8; refine (and_any _ _ _).mono ?_; rintro e w' ⟨rfl, n, rfl⟩) | (go_at_call 10; refine (or_any _ _ _).mono ?_; rintro e w' ⟨rfl, n, rfl⟩) | (go_at_call 12; refine (xor_any _ _ _).mono ?_; rintro e w' ⟨rfl, n, rfl⟩) | (go_at_call 14; refine (wakes_any _).mono ?_; rintro e w' ⟨rfl, n, rfl⟩))
            clear f1 f2 f3 f4 g1 g2 g3
            go_loopw [3] (fun i wr => (∃ c : Int, 0 ≤ c ∧ c ≤ 3 ∧ i = .int .i64 c) ∧ ∃ n, wr = w.drewN n) (fun i _ => 3 - (intOf i).toNat)
            case atStart => exact ⟨⟨0, by omega, by omega, rfl⟩, _, rfl⟩
            case round =>
              obtain ⟨⟨c, hc0, hc3, rfl⟩, n2, rfl⟩ := hrel
              by_cases hc : c < 3
              · obtain ⟨e1, e2, e3, e4⟩ := facts3 a b c (by omega) (by omega) (by omega) (by omega) hc0 hc
                go_wp2_with (first | (go_at_call 6; refine (not_any _ _).mono ?_; rintro e w' ⟨rfl, rfl⟩) | (go_at_call 8; refine (and_any _ _ _).mono ?_; rintro e w' ⟨rfl, n, rfl⟩) | (go_at_call 10; refine (or_any _ _ _).mono ?_; rintro e w' ⟨rfl, n, rfl⟩) | (go_at_call 12; refine (xor_any _ _ _).mono ?_; rintro e w' ⟨rfl, n, rfl⟩) | (go_at_call 14; refine (wakes_any _).mono ?_; rintro e w' ⟨rfl, n, rfl⟩))
                go_roundw
                case rel => exact ⟨⟨c + 1, by omega, by omega, rfl⟩, _, rfl⟩
                case measure => first | (simp [intOf]; done) | (simp [intOf]; omega)
              · go_wp2_with (first | (go_at_call 6; refine (not_any _ _).mono ?_; rintro e w' ⟨rfl, rfl⟩) | (go_at_call 8; refine (and_any _ _ _).mono ?_; rintro e w' ⟨rfl, n, rfl⟩) | (go_at_call 10; refine (or_any _ _ _).mono ?_; rintro e w' ⟨rfl, n, rfl⟩) | (go_at_call 12; refine (xor_any _ _ _).mono ?_; rintro e w' ⟨rfl, n, rfl⟩) | (go_at_call 14; refine (wakes_any _).mono ?_; rintro e w' ⟨rfl, n, rfl⟩))
                go_roundw
                case rel => exact ⟨⟨b + 1, by omega, by omega, rfl⟩, _, rfl⟩
                case measure => first | (simp [intOf]; done) | (simp [intOf]; omega)
        · go_wp2_with (first | (go_at_call 6; refine (not_any _ _).mono ?_; rintro e w' ⟨rfl, rfl⟩) | (go_at_call 8; refine (and_any _ _ _).mono ?_; rintro e w' ⟨rfl, n, rfl⟩) | (go_at_call 10; refine (or_any _ _ _).mono ?_; rintro e w' ⟨rfl, n, rfl⟩) | (go_at_call 12; refine (xor_any _ _ _).mono ?_; rintro e w' ⟨rfl, n, rfl⟩) | (go_at_call 14; refine (wakes_any _).mono ?_; rintro e w' ⟨rfl, n, rfl⟩))
          go_roundw
          case rel => exact ⟨⟨a + 1, by omega, by omega, rfl⟩, _, rfl⟩
          case measure => first | (simp [intOf]; done) | (simp [intOf]; omega)
    · go_wp2_with (first | (go_at_call 6; refine (not_any _ _).mono ?_; rintro e w' ⟨rfl, rfl⟩) | (go_at_call 8; refine (and_any _ _ _).mono ?_; rintro e w' ⟨rfl, n, rfl⟩) | (go_at_call 10; refine (or_any _ _ _).mono ?_; rintro e w' ⟨rfl, n, rfl⟩) | (go_at_call 12; refine (xor_any _ _ _).mono ?_; rintro e w' ⟨rfl, n, rfl⟩) | (go_at_call 14; refine (wakes_any _).mono ?_; rintro e w' ⟨rfl, n, rfl⟩))
      go_ret
      exact ⟨rfl, _, rfl⟩

theorem below_drewN (B : Nat) (w : World) (n : Nat) : Below B w (w.drewN n) := ⟨rfl, rfl, rfl, Nat.le_refl _, fun _ _ => rfl⟩
theorem laws_below (w : World) : Calls Try.prog 4 #[] w fun e w' => e = .returned (.bool true) ∧ Below w.heap.size w w' :=
  (laws_any w).mono fun _ _ ⟨h, n, hn⟩ => ⟨h, hn ▸ below_drewN _ _ _⟩
/-- The statement, out of what the walk gives: diptychlaw3.LogicLaws, closed. -/
theorem logicLaws_lifted (os : Os) (started : os.Started) (H : Type) (enc : TypeId × Value → H) :
    ReturnsInHanded {} Try.checked os 4 .any (Rows.logicLawsSpec.pre6 enc Try.prog Try.f4 Rows.logicLawsRow.domain false) (Rows.logicLawsSpec.post enc Try.prog Try.f4 false true false false) := by
  refine returnsInHanded_of_change (C := Try.checked) frame.own started (by kernel_rfl) Try.func4
    (ChangeSpec.witness6 (enc := enc) (C := Try.checked) false ⟨#[], #[], []⟩ 8 (by kernel_rfl) (by kernel_rfl) (by kernel_rfl) (by kernel_rfl)) ?_
  intro W base args ds gs before hval0 hW hcnd _
  have hW' := hW
  obtain ⟨p, q, hA0, hV, rfl, hfz, hnd⟩ := hW
  have hA : DataW.TrodAll enc Try.prog W 0 (fun _ => true) true Try.f4.params.toList args.toList ds p := hA0
  rw [Try.params4] at hA
  obtain ⟨rfl, rfl, rfl⟩ := trodAll_none hA
  obtain ⟨rfl, rfl⟩ := trodVars_none hV
  clear hA0 hval0
  simp only [List.append_nil] at hW'
  refine (laws_below W).mono fun e W' ⟨he, hg⟩ => ?_
  subst he
  exact ⟨_, rfl, frame.post_of_below (pa := []) (pv := []) hW' (fun _ _ _ => (trodAll_cons_mk (shut_bool Try.underlying4 _) trodAll_mk0)) (fun sp _ => rfl) (fun _ _ => rfl) rfl
    hg (ok_one (by kernel_rfl) rfl (okWide_bool_mk Try.underlying4 _))⟩
theorem logicLaws_over : Rows.logicLawsRow.holds Try.pinned (OpenSpec.ofChange Rows.logicLawsSpec) :=
  OpenClaim.holds_of_wide 4 Try.f4 rfl rfl rfl rfl rfl rfl rfl ⟨rfl, rfl, rfl, rfl, rfl⟩ rfl rfl rfl rfl rfl (by kernel_rfl) Try.func4 (by kernel_rfl)
    (of_decide_eq_true (by kernel_rfl)) (by unfold Func.isWrapper; first | (rw [if_pos (by decide +kernel)]; kernel_rfl) | (rw [if_neg (by decide +kernel)]; exact ⟨rfl, rfl⟩))
    (fun os started H enc _ => logicLaws_lifted os started H enc)
/-- The statement. -/
theorem LogicLaws_holds : Rows.LogicLawsSaid := logicLaws_over
end Go.Proofs.Ytakgjoiloklfkaa.logic
