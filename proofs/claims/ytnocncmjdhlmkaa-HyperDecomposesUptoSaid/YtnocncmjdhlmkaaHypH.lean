/- Ear by ear, step by step. Plain. -/
import Derived.Test.YtnocncmjdhlmkaaHypF
namespace Go.Proofs.Ytnocncmjdhlmkaa.hyp
set_option linter.unusedVariables false
/-- A variable struck from the first i edges. -/
def stp (v c : Nat) (L : List Nat) (i : Nat) : List Nat := if c = 1 then (L.take i).map (fun e => minus e (bit v)) ++ L.drop i else L
theorem stp_zero (v c : Nat) (L : List Nat) : stp v c L 0 = L := by unfold stp; split <;> simp
theorem stp_length (v c : Nat) (L : List Nat) (i : Nat) : (stp v c L i).length = L.length := by
  unfold stp
  split
  · simp; omega
  · rfl
theorem stp_at {v c : Nat} {L : List Nat} {i : Nat} (h : i < L.length) (h' : i < (stp v c L i).length) : (stp v c L i)[i] = L[i] := by
  by_cases hc : c = 1
  · have e : stp v c L i = (L.take i).map (fun e => minus e (bit v)) ++ L.drop i := by unfold stp; rw [if_pos hc]
    have hl : ((L.take i).map (fun e => minus e (bit v))).length = i := by simp; omega
    simp only [e]
    rw [List.getElem_append_right (by omega), List.getElem_drop]
    congr 1
    omega
  · have e : stp v c L i = L := by unfold stp; rw [if_neg hc]
    simp only [e]
theorem stp_yes {v c : Nat} {L : List Nat} {i : Nat} (hc : c = 1) (h : i < L.length) : stp v c L (i + 1) = (stp v c L i).set i (minus L[i] (bit v)) := by
  unfold stp
  rw [if_pos hc, if_pos hc]
  have hl : ((L.take i).map (fun e => minus e (bit v))).length = i := by simp; omega
  rw [List.set_append_right _ _ (by omega), hl, Nat.sub_self, List.drop_eq_getElem_cons h, List.take_succ_eq_append_getElem h, List.map_append, List.set_cons_zero, List.append_assoc]
  rfl
theorem minus_no {e v : Nat} (he : e < 65536) (hv : v < 16) (h : e.testBit v = false) : minus e (bit v) = e := by
  apply Nat.eq_of_testBit_eq
  intro i
  rw [testBit_minus he (bit_lt hv), testBit_bit]
  by_cases hi : v = i
  · rw [← hi, h]; rfl
  · simp [hi]
theorem stp_no {v c : Nat} {L : List Nat} {i : Nat} (hL : ∀ e ∈ L, e < 65536) (hv : v < 16) (h : i < L.length) (hn : ¬ (c = 1 ∧ L[i].testBit v = true)) : stp v c L (i + 1) = stp v c L i := by
  by_cases hc : c = 1
  · have hb : L[i].testBit v = false := by
      apply Bool.eq_false_iff.2
      exact fun e => hn ⟨hc, e⟩
    unfold stp
    rw [if_pos hc, if_pos hc, List.drop_eq_getElem_cons h, List.take_succ_eq_append_getElem h, List.map_append, List.append_assoc, List.map_cons, minus_no (hL _ (List.getElem_mem h)) hv hb]
    rfl
  · unfold stp
    rw [if_neg hc, if_neg hc]
theorem stp_all (v : Nat) (L : List Nat) : stp v (cnt v L) L L.length = strip v L := by
  unfold stp strip
  split
  · simp
  · rfl
def flg (m : Bool) (v c : Nat) (L : List Nat) (i : Nat) : Bool := m || (decide (c = 1) && (L.take i).any fun e => e.testBit v)
theorem flg_zero (m : Bool) (v c : Nat) (L : List Nat) : flg m v c L 0 = m := by unfold flg; simp
theorem flg_succ (m : Bool) (v c : Nat) (L : List Nat) {i : Nat} (h : i < L.length) : flg m v c L (i + 1) = (flg m v c L i || (decide (c = 1) && L[i].testBit v)) := by
  unfold flg
  rw [List.take_succ_eq_append_getElem h, List.any_append]
  cases m <;> cases decide (c = 1) <;> simp
theorem flg_all (m : Bool) (v : Nat) (L : List Nat) : flg m v (cnt v L) L L.length = (m || (cnt v L == 1)) := by
  unfold flg
  rw [List.take_length]
  by_cases hc : cnt v L = 1
  · obtain ⟨e, he, hv, -⟩ := cnt_le_one hc
    have : L.any (fun e => e.testBit v) = true := List.any_eq_true.2 ⟨e, he, hv⟩
    rw [this, hc]
    simp
  · have h1 : decide (cnt v L = 1) = false := decide_eq_false hc
    have h2 : (cnt v L == 1) = false := beq_eq_false_iff_ne.2 hc
    rw [h1, h2]
    simp
theorem cnt_take (v : Nat) (L : List Nat) {i : Nat} (h : i < L.length) : cnt v (L.take (i + 1)) = cnt v (L.take i) + (if L[i].testBit v then 1 else 0) := by
  unfold cnt
  rw [List.take_succ_eq_append_getElem h, List.filter_append, List.length_append]
  congr 1
  cases hb : L[i].testBit v <;> simp [hb]
/-- Within, of the first k. -/
def inn (L : List Nat) (i k : Nat) : Bool := L.getD i 0 == 0 || (List.range k).any fun k => k != i && minus (L.getD i 0) (L.getD k 0) == 0
theorem inn_zero (L : List Nat) (i : Nat) : inn L i 0 = (L.getD i 0 == 0) := by unfold inn; simp
theorem inn_succ (L : List Nat) (i k : Nat) : inn L i (k + 1) = (inn L i k || (k != i && minus (L.getD i 0) (L.getD k 0) == 0)) := by
  unfold inn
  rw [List.range_succ, List.any_append]
  simp [Bool.or_assoc]
theorem inn_all (L : List Nat) (i : Nat) : inn L i L.length = inner L i := rfl
theorem ears_some {n : Nat} {L : List Nat} {i : Nat} (hi : i < (strips n L).length) (h : inner (strips n L) i = true) (hb : ∀ j, j < i → inner (strips n L) j = false) : ears n L = ((strips n L).eraseIdx i, true) := by
  have hd : dropI (strips n L) = some i := by
    unfold dropI
    rw [List.find?_range_eq_some]
    exact ⟨h, by simpa using hi, fun j hj => by rw [hb j hj]; rfl⟩
  unfold ears
  rw [hd]
theorem ears_none {n : Nat} {L : List Nat} (hb : ∀ j, j < (strips n L).length → inner (strips n L) j = false) : ears n L = (strips n L, stripM n L) := by
  have hd : dropI (strips n L) = none := by
    unfold dropI
    rw [List.find?_range_eq_none]
    intro j hj
    simpa using hb j hj
  unfold ears
  rw [hd]
end Go.Proofs.Ytnocncmjdhlmkaa.hyp
