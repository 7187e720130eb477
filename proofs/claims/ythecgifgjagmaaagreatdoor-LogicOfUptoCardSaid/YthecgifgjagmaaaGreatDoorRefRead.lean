/- Contracts of the reference's Read and Check. -/
import Derived.Test.YthecgifgjagmaaaGreatDoorRefParse
import Derived.Test.YthecgifgjagmaaaGreatDoorRefForm
namespace Go.Proofs.YthecgifgjagmaaaGreatDoor.dec
open Go.ChangeShapes Go.WideShapes Go.ChangeAt Go.RowKit kit
set_option linter.unusedVariables false
set_option linter.unusedSimpArgs false
set_option maxRecDepth 100000 in
set_option maxHeartbeats 4000000 in
theorem rread_big (s : ByteArray) (w : World) (hs : s.size ≤ 1048576) : Calls Tryz.prog 132 #[.string s] w fun e w' => e = .returned (rv (readP s.data.toList)) ∧ Below w.heap.size w w' := by
  have hp := parsed_big s w hs
  rw [readP_num]
  obtain ⟨o, ho⟩ : ∃ o, numP s.data.toList = o := ⟨_, rfl⟩
  rw [ho] at hp ⊢
  replace hp := Lib.hid hp
  clear ho
  go_enter Tryz.func132, Tryz.ntmps132
  go_wp2_with fail
  refine hp.out.mono ?_
  rintro e w1 ⟨hb1, hr⟩
  clear hp
  cases o with
  | none =>
    have he : e = .returned (.tuple #[.agg #[.bool false, .slice none 0 0, .int .i64 0], .bool false]) := hr
    subst he
    clear hr
    replace hb1 := Lib.hid hb1
    go_wp2
    go_ret2
    exact ⟨rfl, hb1.out.alloc hb1.out.size _⟩
  | some p =>
    obtain ⟨n, N, sc⟩ := p
    obtain ⟨v, D, he, hi, hd, hv, h1, hl, hsc, _⟩ := hr
    have he' : e = .returned (.tuple #[.agg #[.bool n, v, .int .i64 sc], .bool true]) := he
    subst he'
    clear he
    obtain ⟨vo, vc, rfl⟩ := hi.form
    replace hb1 := Lib.hid hb1
    replace hi := Lib.hid hi
    replace hd := Lib.hid hd
    replace hv := Lib.hid hv
    go_wp2_with fail
    have hfm := rform_any n (.slice vo D.length vc) D sc (w1.alloc (.cells #[.bool n, .slice vo D.length vc, .int .i64 sc] 98)) (hi.out.below ((Below.refl _ _).alloc (Nat.le_refl _) _)) hd.out h1 (by omega) (by omega)
    rw [hv.out] at hfm
    refine hfm.mono ?_
    unfold rv
    rintro e w2 ⟨rfl, hb2⟩
    have hb3 := (hb1.out.alloc hb1.out.size (.cells #[.bool n, .slice vo D.length vc, .int .i64 sc] 98)).trans (hb2.mono (by rw [World.size_alloc]; have := hb1.out.size; omega))
    replace hb3 := Lib.hid hb3
    clear hb2 hfm
    go_wp2
    go_ret2
    exact ⟨rfl, hb3.out⟩
theorem chk_or (l : List UInt8) : chk l = ((readP l).2 == 0 && (readP l).1 == l) := by
  unfold chk
  by_cases h : ((readP l).2 == 0 && (readP l).1 == l) = true
  · rw [h, Bool.and_true]
    rw [Bool.and_eq_true, beq_iff_eq, beq_iff_eq] at h
    obtain ⟨z, hz, e⟩ := readP_zero l (readP l).1 (by rw [← h.1])
    rw [h.2] at e
    rw [e]
    exact decide_eq_true (canon_len z hz)
  · rw [Bool.eq_false_iff.2 h, Bool.and_false]
set_option maxRecDepth 100000 in
set_option maxHeartbeats 4000000 in
theorem rcheck_big (s : ByteArray) (w : World) (hs : s.size ≤ 1048576) : Calls Tryz.prog 85 #[.string s] w fun e w' => e = .returned (.bool (chk s.data.toList)) ∧ Below w.heap.size w w' := by
  have hc := chk_or s.data.toList
  have hr := rread_big s w hs
  generalize readP s.data.toList = p at hc hr
  replace hc := Lib.hid hc
  unfold rv at hr
  replace hr := Lib.hid hr
  have hi : (s.size : Int) ≤ 1048576 := by omega
  obtain ⟨t, e⟩ := p
  by_cases he : e = 0
  · subst he
    go_enter Tryz.func85, Tryz.ntmps85
    go_wp2_with (go_at_call 132; refine hr.out.mono ?_; rintro e1 w1 ⟨rfl, hb⟩)
    go_ret
    exact ⟨ret_bool (by rw [hc.out]; simp [Go.ByteArray.toList_eq]), hb⟩
  · have he' : (e == 0) = false := by simpa using he
    go_enter Tryz.func85, Tryz.ntmps85
    go_wp2_with (go_at_call 132; refine hr.out.mono ?_; rintro e1 w1 ⟨rfl, hb⟩)
    go_ret
    exact ⟨ret_bool (by rw [hc.out]; simp [he']), hb⟩
theorem rread_any (s : ByteArray) (w : World) (hs : s.size ≤ 50000) : Calls Tryz.prog 132 #[.string s] w fun e w' => e = .returned (rv (readP s.data.toList)) ∧ Below w.heap.size w w' := rread_big s w (by omega)
theorem rcheck_any (s : ByteArray) (w : World) (hs : s.size ≤ 50000) : Calls Tryz.prog 85 #[.string s] w fun e w' => e = .returned (.bool (chk s.data.toList)) ∧ Below w.heap.size w w' := rcheck_big s w (by omega)
end Go.Proofs.YthecgifgjagmaaaGreatDoor.dec
