/- The reference's Check is the program's (plain). -/
import Derived.Test.YtnocncmjdhlmkaaHRefP
namespace Go.Proofs.Ytnocncmjdhlmkaa.hyp
open Go.ChangeShapes Go.WideShapes Go.ChangeAt Go.RowKit kit
set_option linter.unusedVariables false
set_option linter.unusedSimpArgs false
def bagsOK (E : List (List ByteArray)) (ns : List ByteArray) (width : Int) : List BagD → Nat → Bool
  | [], _ => true
  | b :: l, i => baggedR E ns b i width && bagsOK E ns width l (i + 1)
theorem bagsOK_at (E : List (List ByteArray)) (ns : List ByteArray) (width : Int) : ∀ (bs : List BagD) (i : Nat), bagsOK E ns width bs i = true ↔ ∀ j (hj : j < bs.length), baggedR E ns bs[j] (i + j) width = true
  | [], i => by simp [bagsOK]
  | b :: l, i => by
    rw [bagsOK, Bool.and_eq_true, bagsOK_at E ns width l (i + 1)]
    constructor
    · rintro ⟨h1, h2⟩ j hj
      match j, hj with
      | 0, _ => exact h1
      | j + 1, hj =>
        have := h2 j (by simpa using hj)
        rw [show i + (j + 1) = i + 1 + j by omega]
        exact this
    · intro h
      refine ⟨h 0 (by simp), fun j hj => ?_⟩
      have := h (j + 1) (by simpa using hj)
      rw [show i + (j + 1) = i + 1 + j by omega] at this
      exact this
theorem setsF_if {E : List (List ByteArray)} (hm : mayR nameB E = true) (width : Int) : ∀ (bs : List BagD) (i : Nat) (acc : List Nat), setsF (varsR E) (setsR E) width bs i acc = if bagsOK E (varsR E) width bs i = true then some (acc ++ bs.map fun b => setN (varsR E) b.names) else none
  | [], i, acc => by simp [setsF, bagsOK]
  | b :: l, i, acc => by
    rw [setsF, bagsOK]
    unfold baggedR
    by_cases h1 : (parOK i b.parent && decide ((b.edges.length : Int) ≤ width)) = true
    · rw [if_pos h1, setP_if hm, h1, Bool.true_and]
      by_cases h2 : (riseB (varsR E) b.names (-1) && riseE E.length b.edges (-1) && withinB b.names (coveredR E b.edges)) = true
      · have h3 : (riseB (varsR E) b.names (-1) && (riseE E.length b.edges (-1) && withinB b.names (coveredR E b.edges))) = true := by rw [← Bool.and_assoc]; exact h2
        rw [if_pos h2]
        simp only []
        rw [setsF_if hm width l, h2, Bool.true_and]
        simp
      · rw [if_neg h2]
        simp only []
        rw [Bool.eq_false_iff.2 h2]
        simp
    · rw [if_neg h1, Bool.eq_false_iff.2 h1]
      simp
theorem sub_within {ns a b : List ByteArray} (ha : ∀ v ∈ a, v ∈ ns) (hb : ∀ v ∈ b, v ∈ ns) : Sub (setN ns a) (setN ns b) ↔ withinB a b = true := by
  unfold withinB
  rw [List.all_eq_true]
  constructor
  · intro h v hv
    rw [decide_eq_true_eq]
    have := h _ ((setN_iff _ _ _).2 ⟨v, hv, rfl⟩)
    rwa [setN_mem hb] at this
  · intro h i hi
    obtain ⟨v, hv, rfl⟩ := (setN_iff _ _ i).1 hi
    have := h v hv
    rw [decide_eq_true_eq] at this
    rw [setN_mem hb]
    exact this
theorem allBags_ok (E : List (List ByteArray)) (ns : List ByteArray) (bs : List BagD) (width : Int) : allBags E ns bs width = bagsOK E ns width bs 0 := by
  apply Bool.eq_iff_iff.2
  rw [bagsOK_at]
  unfold allBags
  rw [List.all_eq_true]
  constructor
  · intro h j hj
    have := h j (List.mem_range.2 hj)
    rw [List.getD_eq_getElem?_getD, List.getElem?_eq_getElem hj, Option.getD_some] at this
    rw [Nat.zero_add]
    exact this
  · intro h j hj
    have hj := List.mem_range.1 hj
    have := h j hj
    rw [Nat.zero_add] at this
    rw [List.getD_eq_getElem?_getD, List.getElem?_eq_getElem hj, Option.getD_some]
    exact this
theorem chk_ref (E : List (List ByteArray)) (bs : List BagD) (width : Int) : chkR E bs width = refChk E bs width := by
  unfold chkR refChk
  cases hm : mayR nameB E with
  | false => rfl
  | true =>
    unfold chkP
    rw [setsF_if hm, allBags_ok]
    simp only [Bool.true_and]
    by_cases hb : bagsOK E (varsR E) width bs 0 = true
    · rw [if_pos hb, hb]
      simp only [List.nil_append, Bool.and_true]
      have hat := (bagsOK_at E (varsR E) width bs 0).1 hb
      have hin : ∀ b ∈ bs, ∀ v ∈ b.names, v ∈ varsR E := fun b hbm => by
        obtain ⟨j, hj, rfl⟩ := List.getElem_of_mem hbm
        have h1 := hat j hj
        unfold baggedR at h1
        simp only [Bool.and_eq_true] at h1
        exact riseB_mem _ _ _ (by omega) h1.1.1.2
      have hpar : ∀ j (hj : j < bs.length), parOK j bs[j].parent = true := fun j hj => by
        have h1 := hat j hj
        unfold baggedR at h1
        simp only [Bool.and_eq_true, Nat.zero_add] at h1
        exact h1.1.1.1.1
      have g := good_of hm
      have h1 : ((setsR E).all fun e => (bs.map fun b => setN (varsR E) b.names).any fun s => minus e s == 0) = E.all fun e => bs.any fun b => withinB e b.names := by
        unfold setsR
        rw [List.all_map]
        apply Bool.eq_iff_iff.2
        simp only [List.all_eq_true, List.any_eq_true, List.mem_map, Function.comp]
        constructor
        · intro h e he
          obtain ⟨s, ⟨b, hbm, rfl⟩, h2⟩ := h e he
          rw [beq_iff_eq, minus_zero (setN_lt hm (fun v hv => mem_vars he hv)) (setN_lt hm (hin b hbm)), sub_within (fun v hv => mem_vars he hv) (hin b hbm)] at h2
          exact ⟨b, hbm, h2⟩
        · intro h e he
          obtain ⟨b, hbm, h2⟩ := h e he
          refine ⟨_, ⟨b, hbm, rfl⟩, ?_⟩
          rw [beq_iff_eq, minus_zero (setN_lt hm (fun v hv => mem_vars he hv)) (setN_lt hm (hin b hbm)), sub_within (fun v hv => mem_vars he hv) (hin b hbm)]
          exact h2
      have hset : ∀ i (hi : i < bs.length), (bs.map fun b => setN (varsR E) b.names).getD i 0 = setN (varsR E) bs[i].names := fun i hi => by
        rw [List.getD_eq_getElem?_getD, List.getElem?_map, List.getElem?_eq_getElem hi]; rfl
      have hpp : ∀ i (hi : i < bs.length), (bs.map BagD.parent).getD i 0 = bs[i].parent := fun i hi => by
        rw [List.getD_eq_getElem?_getD, List.getElem?_map, List.getElem?_eq_getElem hi]; rfl
      have hgd : ∀ i (hi : i < bs.length), bs.getD i ⟨[], [], 0⟩ = bs[i] := fun i hi => by
        rw [List.getD_eq_getElem?_getD, List.getElem?_eq_getElem hi]; rfl
      have htop : ∀ v (hv : v < (varsR E).length) i, i < bs.length → topAt bs (bs.map fun b => setN (varsR E) b.names) v i = rootAt bs (varsR E)[v] i := fun v hv i hi => by
        unfold topAt rootAt
        rw [hset i hi, hpp i hi, hgd i hi, set_bit vars_nodup (hin _ (List.getElem_mem hi)) hv]
        congr 1
        have hp := hpar i hi
        unfold parOK at hp
        by_cases h0 : i = 0
        · rw [if_pos h0] at hp
          rw [of_decide_eq_true hp, decide_eq_true h0]
          rfl
        · rw [if_neg h0] at hp
          have hp2 := of_decide_eq_true hp
          have hpl : bs[i].parent.toNat < bs.length := by omega
          rw [decide_eq_false h0, decide_eq_false (show ¬ bs[i].parent < 0 by omega), hset _ hpl, hgd _ hpl, set_bit vars_nodup (hin _ (List.getElem_mem hpl)) hv]
      have h2 : ((List.range (varsR E).length).all fun v => decide (topsF bs (bs.map fun b => setN (varsR E) b.names) v bs.length ≤ 1)) = (varsR E).all fun x => decide (rootsR bs x bs.length ≤ 1) := by
        have hcount : ∀ v (hv : v < (varsR E).length), topsF bs (bs.map fun b => setN (varsR E) b.names) v bs.length = rootsR bs (varsR E)[v] bs.length := fun v hv => by
          unfold topsF rootsR
          congr 1
          apply List.filter_congr
          intro i hi
          exact htop v hv i (List.mem_range.1 hi)
        apply Bool.eq_iff_iff.2
        simp only [List.all_eq_true, decide_eq_true_eq, List.mem_range]
        constructor
        · intro h x hx
          obtain ⟨v, hv, rfl⟩ := List.getElem_of_mem hx
          rw [← hcount v hv]
          exact h v hv
        · intro h v hv
          rw [hcount v hv]
          exact h _ (List.getElem_mem hv)
      rw [h1, h2]
      simp only [Bool.and_assoc]
    · rw [if_neg hb, Bool.eq_false_iff.2 hb]
      simp
end Go.Proofs.Ytnocncmjdhlmkaa.hyp
