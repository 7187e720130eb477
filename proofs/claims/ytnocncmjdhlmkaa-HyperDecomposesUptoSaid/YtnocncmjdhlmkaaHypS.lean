/- What is read is a hypergraph as the widths want it. Plain. -/
import Derived.Test.YtnocncmjdhlmkaaHypG
import Derived.Test.YtnocncmjdhlmkaaHypR
namespace Go.Proofs.Ytnocncmjdhlmkaa.hyp
set_option linter.unusedVariables false
section
variable {p : ByteArray → Bool} {E : List (List ByteArray)}
theorem mem_vars {e : List ByteArray} (he : e ∈ E) {v : ByteArray} (hv : v ∈ e) : v ∈ varsR E := mem_foldN _ _ v (List.mem_flatten.2 ⟨e, he, hv⟩)
theorem vars_mem {v : ByteArray} (hv : v ∈ varsR E) : ∃ e ∈ E, v ∈ e := by
  rcases foldN_mem _ _ v hv with h | h
  · cases h
  · exact List.mem_flatten.1 h
theorem vars_nodup : (varsR E).Nodup := foldN_nodup _ _ List.nodup_nil
/-- The edges as sets. -/
def setsR (E : List (List ByteArray)) : List Nat := E.map (setN (varsR E))
/-- All variables as a set. -/
def allR (E : List (List ByteArray)) : Nat := 2 ^ (varsR E).length - 1
theorem readG_eq : readG p E = if mayR p E = true then some (varsR E, setsR E) else none := readG_spec E
theorem may_parts (h : mayR p E = true) : E.length ≤ 8 ∧ (∀ e ∈ E, e.length ≤ 12 ∧ e.Nodup ∧ ∀ v ∈ e, p v = true) ∧ (varsR E).length ≤ 12 := by
  unfold mayR unlikeR at h
  simp only [Bool.and_eq_true, decide_eq_true_eq, List.all_eq_true] at h
  exact ⟨h.1.1, fun e he => ⟨(h.1.2 e he).1, (h.1.2 e he).2.2, (h.1.2 e he).2.1⟩, h.2⟩
theorem setN_sub {e : List ByteArray} (he : e ∈ E) : Sub (setN (varsR E) e) (allR E) := by
  intro i hi
  obtain ⟨v, hv, rfl⟩ := (setN_iff _ _ i).1 hi
  unfold allR
  rw [full_bit, decide_eq_true_eq]
  exact List.idxOf_lt_length_of_mem (mem_vars he hv)
theorem all_lt (h : (varsR E).length ≤ 12) : allR E < 65536 := by
  have h1 : 2 ^ (varsR E).length ≤ 2 ^ 12 := Nat.pow_le_pow_right (by decide) h
  have h2 : (2 : Nat) ^ 12 = 4096 := by decide
  unfold allR
  omega
theorem good_of (h : mayR p E = true) : Good (setsR E) (allR E) := by
  obtain ⟨h1, h2, h3⟩ := may_parts h
  have hE : ∀ e ∈ setsR E, e < 65536 := by
    intro e he
    obtain ⟨t, ht, rfl⟩ := List.mem_map.1 he
    exact Nat.lt_of_le_of_lt (setN_sub ht).le (all_lt h3)
  refine ⟨hE, by unfold setsR; rw [List.length_map]; exact h1, all_lt h3, fun i => ?_⟩
  constructor
  · intro hi
    unfold allR at hi
    rw [full_bit, decide_eq_true_eq] at hi
    obtain ⟨e, he, hv⟩ := vars_mem (List.getElem_mem hi)
    refine ⟨_, List.mem_map.2 ⟨e, he, rfl⟩, (setN_iff _ _ i).2 ⟨_, hv, ?_⟩⟩
    exact List.Nodup.idxOf_getElem vars_nodup i hi
  · rintro ⟨e, he, hi⟩
    obtain ⟨t, ht, rfl⟩ := List.mem_map.1 he
    exact setN_sub ht i hi
theorem uni_sets (h : mayR p E = true) : uni (setsR E) = allR E := by
  apply Nat.eq_of_testBit_eq
  intro i
  apply Bool.eq_iff_iff.2
  rw [uni_iff]
  exact ((good_of h).hcov i).symm
end
end Go.Proofs.Ytnocncmjdhlmkaa.hyp
