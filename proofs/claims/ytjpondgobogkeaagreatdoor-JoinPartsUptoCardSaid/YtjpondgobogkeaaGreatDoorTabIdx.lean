/- Where a text stands in a list: slices.Index and the reference's Index. -/
import Derived.Test.YtjpondgobogkeaaGreatDoorHMem
import Derived.Test.YtjpondgobogkeaaGreatDoorTabPA
namespace Go.Proofs.YtjpondgobogkeaaGreatDoor.tab
open Go.ChangeShapes Go.WideShapes Go.ChangeAt Go.RowKit kit hyp
set_option linter.unusedVariables false
set_option linter.unusedSimpArgs false
theorem text_eq (a b : ByteArray) : (a.toList == b.toList) = decide (a = b) := by
  apply Bool.eq_iff_iff.2
  rw [decide_eq_true_eq, beq_iff_eq, Go.ByteArray.toList_eq, Go.ByteArray.toList_eq]
  constructor
  · intro h
    cases a; cases b
    congr
    exact Array.toList_inj.1 h
  · intro h; rw [h]
/-- Where a text stands, -1 where it does not. -/
def idxI (ns : List ByteArray) (s : ByteArray) : Int := if s ∈ ns then ((ns.idxOf s : Nat) : Int) else -1
set_option maxRecDepth 100000 in
set_option maxHeartbeats 2000000 in
theorem index_any (w : World) (ao : Option Addr) (cap : Nat) (ns : List ByteArray) (s : ByteArray) (hn : ns.length ≤ 1048576)
    (hc : ∀ j (hj : j < ns.length), ∃ b off, ao = some ⟨b, off, none⟩ ∧ b < w.heap.size ∧ w.cell? ⟨b, off + j, none⟩ = some (.string ns[j])) :
    Calls Tryz.prog 43 #[.slice ao ns.length cap, .string s] w fun e w' => e = .returned (.int .i64 (idxI ns s)) ∧ w' = w := by
  replace hc := Lib.hid hc
  go_enter Tryz.func43, Tryz.ntmps43
  go_wp2
  go_loop [8] (fun i => ∃ k : Nat, k ≤ ns.length ∧ i = .int .i64 (k : Int) ∧ Hid (∀ j (hj : j < ns.length), j < k → ns[j] ≠ s)) (fun i => ns.length - (intOf i).toNat)
  case atStart => exact ⟨0, by omega, rfl, Lib.hid (fun j _ h => by omega)⟩
  case round =>
    obtain ⟨k, hk, rfl, hno⟩ := hrel
    by_cases hlt : k < ns.length
    · have hki : (k : Int) < (ns.length : Int) := by omega
      obtain ⟨b, off, rfl, -, hck⟩ := hc.out k hlt
      have hxe := text_eq s ns[k]
      by_cases he : s = ns[k]
      · have hr : idxI ns s = (k : Int) := by
          unfold idxI
          rw [if_pos (by rw [he]; exact List.getElem_mem hlt)]
          have h1 : ns.idxOf s = k := by
            have hmem : s ∈ ns := by rw [he]; exact List.getElem_mem hlt
            have h2 := List.idxOf_lt_length_of_mem hmem
            have h3 := List.getElem_idxOf h2
            have h4 : ¬ ns.idxOf s < k := fun h => hno.out _ h2 h h3
            have h5 : ns.idxOf s ≤ k := by
              apply Classical.byContradiction
              intro h6
              have h7 : k < ns.findIdx (· == s) := by show k < ns.idxOf s; omega
              have h8 := List.not_of_lt_findIdx h7
              simp [← he] at h8
            omega
          rw [h1]
        rw [decide_eq_true he] at hxe
        replace hr := Lib.hid hr
        replace he := Lib.hid he
        generalize ns[k] = x at *
        go_wp2
        go_ret
        exact ⟨ret_int hr.out.symm, rfl⟩
      · rw [decide_eq_false he] at hxe
        have hno2 : Hid (∀ j (hj : j < ns.length), j < k + 1 → ns[j] ≠ s) := Lib.hid fun j hj h => by
          by_cases hjk : j = k
          · subst hjk; exact fun e => he e.symm
          · exact hno.out j hj (by omega)
        have hk1 := Lib.hid (show k + 1 ≤ ns.length from hlt)
        clear he hno
        generalize ns[k] = x at *
        go_wp2
        go_round
        case rel => exact ⟨k + 1, hk1.out, by go_num, hno2⟩
        case measure => have := hk1.out; simp [intOf]; omega
    · have hki : ¬ (k : Int) < (ns.length : Int) := by omega
      obtain rfl : k = ns.length := by omega
      have hr : idxI ns s = -1 := by
        unfold idxI
        rw [if_neg]
        intro hmem
        obtain ⟨j, hj, he⟩ := List.getElem_of_mem hmem
        exact hno.out j hj hj he
      replace hr := Lib.hid hr
      go_wp2
      go_ret
      exact ⟨ret_int hr.out.symm, rfl⟩
set_option maxRecDepth 100000 in
set_option maxHeartbeats 2000000 in
theorem rindex_any (w : World) (ao : Option Addr) (cap : Nat) (ns : List ByteArray) (s : ByteArray) (hn : ns.length ≤ 1048576)
    (hc : ∀ j (hj : j < ns.length), ∃ b off, ao = some ⟨b, off, none⟩ ∧ b < w.heap.size ∧ w.cell? ⟨b, off + j, none⟩ = some (.string ns[j])) :
    Calls Tryz.prog 13 #[.slice ao ns.length cap, .string s] w fun e w' => e = .returned (.int .i64 (idxI ns s)) ∧ w' = w := by
  replace hc := Lib.hid hc
  go_enter Tryz.func13, Tryz.ntmps13
  go_wp2
  go_loop [5] (fun i => ∃ k : Nat, k ≤ ns.length ∧ i = .int .i64 (k : Int) ∧ Hid (∀ j (hj : j < ns.length), j < k → ns[j] ≠ s)) (fun i => ns.length - (intOf i).toNat)
  case atStart => exact ⟨0, by omega, rfl, Lib.hid (fun j _ h => by omega)⟩
  case round =>
    obtain ⟨k, hk, rfl, hno⟩ := hrel
    by_cases hlt : k < ns.length
    · have hki : (k : Int) < (ns.length : Int) := by omega
      obtain ⟨b, off, rfl, -, hck⟩ := hc.out k hlt
      have hxe := text_eq ns[k] s
      by_cases he : s = ns[k]
      · have hr : idxI ns s = (k : Int) := by
          unfold idxI
          rw [if_pos (by rw [he]; exact List.getElem_mem hlt)]
          have h1 : ns.idxOf s = k := by
            have hmem : s ∈ ns := by rw [he]; exact List.getElem_mem hlt
            have h2 := List.idxOf_lt_length_of_mem hmem
            have h3 := List.getElem_idxOf h2
            have h4 : ¬ ns.idxOf s < k := fun h => hno.out _ h2 h h3
            have h5 : ns.idxOf s ≤ k := by
              apply Classical.byContradiction
              intro h6
              have h7 : k < ns.findIdx (· == s) := by show k < ns.idxOf s; omega
              have h8 := List.not_of_lt_findIdx h7
              simp [← he] at h8
            omega
          rw [h1]
        rw [decide_eq_true he.symm] at hxe
        replace hr := Lib.hid hr
        replace he := Lib.hid he
        generalize ns[k] = x at *
        go_wp2
        go_ret
        exact ⟨ret_int hr.out.symm, rfl⟩
      · rw [decide_eq_false (fun e => he e.symm)] at hxe
        have hno2 : Hid (∀ j (hj : j < ns.length), j < k + 1 → ns[j] ≠ s) := Lib.hid fun j hj h => by
          by_cases hjk : j = k
          · subst hjk; exact fun e => he e.symm
          · exact hno.out j hj (by omega)
        have hk1 := Lib.hid (show k + 1 ≤ ns.length from hlt)
        clear he hno
        generalize ns[k] = x at *
        go_wp2
        go_round
        case rel => exact ⟨k + 1, hk1.out, by go_num, hno2⟩
        case measure => have := hk1.out; simp [intOf]; omega
    · have hki : ¬ (k : Int) < (ns.length : Int) := by omega
      obtain rfl : k = ns.length := by omega
      have hr : idxI ns s = -1 := by
        unfold idxI
        rw [if_neg]
        intro hmem
        obtain ⟨j, hj, he⟩ := List.getElem_of_mem hmem
        exact hno.out j hj hj he
      replace hr := Lib.hid hr
      go_wp2
      go_ret
      exact ⟨ret_int hr.out.symm, rfl⟩
theorem idxI_neg (ns : List ByteArray) (s : ByteArray) : decide (idxI ns s < 0) = !decide (s ∈ ns) := by
  unfold idxI
  by_cases h : s ∈ ns
  · rw [if_pos h, decide_eq_true h, decide_eq_false (by omega)]; rfl
  · rw [if_neg h, decide_eq_false h]; rfl
end Go.Proofs.YtjpondgobogkeaaGreatDoor.tab
