/- Contracts of decimal.Read, Check at every text. -/
import Derived.Test.YthecgifgjagmaaaGreatDoorDecRead2
namespace Go.Proofs.YthecgifgjagmaaaGreatDoor.dec
open Go.ChangeShapes Go.WideShapes Go.ChangeAt Go.RowKit kit
set_option linter.unusedVariables false
theorem pre_iff (c : UInt8) (l : List UInt8) : Lib.hasPrefix l [c] = true ↔ ∃ r, l = c :: r := by
  unfold Lib.hasPrefix
  cases l with
  | nil => simp
  | cons a r => simp [List.isPrefixOf]; exact eq_comm
theorem readP_other (l : List UInt8) (h1 : ¬ ∃ r, l = 45 :: r) (h2 : ¬ ∃ r, l = 43 :: r) : readP l = readT false l := by
  unfold readP
  split
  · exact absurd ⟨_, rfl⟩ h1
  · exact absurd ⟨_, rfl⟩ h2
  · rfl
theorem read_any (s : ByteArray) (w : World) (hE : Env w) (hs : s.size ≤ 50000) :
    Calls Tryz.prog 138 #[.string s] w fun e w' => e = .returned (rv (readP s.data.toList)) ∧ Below w.heap.size w w' := by
  by_cases h1 : ∃ r, s.data.toList = 45 :: r
  · obtain ⟨r, hr⟩ := h1
    have := read_signed true s w hE hs (by have h3 : s.data.toList.length = s.size := rfl; rw [hr] at h3; simp at h3; omega) ((pre_iff _ _).2 ⟨r, hr⟩) (fun h => by cases h)
    rw [hr] at this ⊢
    exact this
  · by_cases h2 : ∃ r, s.data.toList = 43 :: r
    · obtain ⟨r, hr⟩ := h2
      have := read_signed false s w hE hs (by have h3 : s.data.toList.length = s.size := rfl; rw [hr] at h3; simp at h3; omega) (Bool.eq_false_iff.2 (fun h => h1 ((pre_iff _ _).1 h))) (fun _ => (pre_iff _ _).2 ⟨r, hr⟩)
      rw [hr] at this ⊢
      exact this
    · rw [readP_other _ h1 h2]
      exact read_plain s w hE hs (Bool.eq_false_iff.2 (fun h => h1 ((pre_iff _ _).1 h))) (Bool.eq_false_iff.2 (fun h => h2 ((pre_iff _ _).1 h)))
def chk (l : List UInt8) : Bool := decide (l.length ≤ 62) && ((readP l).2 == 0 && (readP l).1 == l)
theorem chk_any (s : ByteArray) (w : World) (hE : Env w) :
    Calls Tryz.prog 96 #[.string s] w fun e w' => e = .returned (.bool (chk s.data.toList)) ∧ Below w.heap.size w w' := by
  have hlen : s.data.toList.length = s.size := rfl
  by_cases h : s.size ≤ 62
  · have hc : chk s.data.toList = ((readP s.data.toList).2 == 0 && (readP s.data.toList).1 == s.data.toList) := by unfold chk; rw [decide_eq_true (by omega), Bool.true_and]
    have hr := read_any s w hE (by omega)
    generalize readP s.data.toList = p at hc hr
    replace hc := Lib.hid hc
    unfold rv at hr
    replace hr := Lib.hid hr
    have hi : (s.size : Int) ≤ 62 := by omega
    clear hlen hE h
    obtain ⟨t, e⟩ := p
    by_cases he : e = 0
    · subst he
      go_enter Tryz.func96, Tryz.ntmps96
      go_wp2_with (go_at_call 138; refine hr.out.mono ?_; rintro e1 w1 ⟨rfl, hb⟩)
      go_ret
      exact ⟨ret_bool (by rw [hc.out]; simp [Go.ByteArray.toList_eq]), hb⟩
    · have he' : (e == 0) = false := by simpa using he
      go_enter Tryz.func96, Tryz.ntmps96
      go_wp2_with (go_at_call 138; refine hr.out.mono ?_; rintro e1 w1 ⟨rfl, hb⟩)
      go_ret
      exact ⟨ret_bool (by rw [hc.out]; simp [he']), hb⟩
  · have hc : chk s.data.toList = false := by unfold chk; rw [decide_eq_false (by omega), Bool.false_and]
    rw [hc]
    have hi : (62 : Int) < (s.size : Int) := by omega
    clear hlen hE h hc
    go_enter Tryz.func96, Tryz.ntmps96
    go_wp2
    go_ret
    exact ⟨rfl, Below.refl _ _⟩
end Go.Proofs.YthecgifgjagmaaaGreatDoor.dec
