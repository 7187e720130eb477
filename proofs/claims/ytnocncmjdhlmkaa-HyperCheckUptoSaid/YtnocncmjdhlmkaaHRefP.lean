/- The reference's Check (plain), and that it is the program's. -/
import Derived.Test.YtnocncmjdhlmkaaHLawP
import Derived.Test.YtnocncmjdhlmkaaHRef4
namespace Go.Proofs.Ytnocncmjdhlmkaa.hyp
open Go.ChangeShapes Go.WideShapes Go.ChangeAt Go.RowKit kit
set_option linter.unusedVariables false
set_option linter.unusedSimpArgs false
def riseB (ns : List ByteArray) : List ByteArray → Int → Bool
  | [], _ => true
  | x :: l, last => if idxI ns x ≤ last then false else riseB ns l (idxI ns x)
def riseE (m : Nat) : List Int → Int → Bool
  | [], _ => true
  | e :: l, last => if e ≤ last ∨ (m : Int) ≤ e then false else riseE m l e
def coveredR (E : List (List ByteArray)) (es : List Int) : List ByteArray := es.flatMap fun e => E.getD e.toNat []
/-- One bag alone. -/
def baggedR (E : List (List ByteArray)) (ns : List ByteArray) (b : BagD) (i : Nat) (width : Int) : Bool :=
  parOK i b.parent && decide ((b.edges.length : Int) ≤ width) && riseB ns b.names (-1) && riseE E.length b.edges (-1) && withinB b.names (coveredR E b.edges)
/-- The bag stands with a variable that its parent has not. -/
def rootAt (bs : List BagD) (x : ByteArray) (i : Nat) : Bool :=
  decide (x ∈ (bs.getD i ⟨[], [], 0⟩).names) && (decide ((bs.getD i ⟨[], [], 0⟩).parent < 0) || !decide (x ∈ (bs.getD (bs.getD i ⟨[], [], 0⟩).parent.toNat ⟨[], [], 0⟩).names))
def rootsR (bs : List BagD) (x : ByteArray) (n : Nat) : Nat := ((List.range n).filter (rootAt bs x)).length
def allBags (E : List (List ByteArray)) (ns : List ByteArray) (bs : List BagD) (width : Int) : Bool := (List.range bs.length).all fun i => baggedR E ns (bs.getD i ⟨[], [], 0⟩) i width
def refChk (E : List (List ByteArray)) (bs : List BagD) (width : Int) : Bool :=
  mayR nameB E && decide (1 ≤ width) && decide (bs ≠ []) && allBags E (varsR E) bs width && (E.all fun e => bs.any fun b => withinB e b.names) && (varsR E).all fun x => decide (rootsR bs x bs.length ≤ 1)
theorem vsF_if (ns : List ByteArray) : ∀ (l : List ByteArray) (last : Int) (s : Nat), -1 ≤ last → vsF ns l last s = if riseB ns l last = true then some (l.foldl (fun s v => s ||| bit (ns.idxOf v)) s) else none
  | [], last, s, h => rfl
  | x :: l, last, s, h => by
    rw [vsF, riseB]
    by_cases hc : idxI ns x ≤ last
    · rw [if_pos hc, if_pos hc]; rfl
    · rw [if_neg hc, if_neg hc]
      obtain ⟨i, hi, -⟩ := idxI_lt (ns := ns) (x := x) (by omega)
      have hx : idxI ns x = (ns.idxOf x : Nat) := by
        unfold idxI at hi ⊢
        by_cases hm : x ∈ ns
        · rw [if_pos hm]
        · rw [if_neg hm] at hi; omega
      rw [vsF_if ns l _ _ (idxI_ge ns x), hx, Int.toNat_natCast]
      rfl
theorem riseB_mem (ns : List ByteArray) : ∀ (l : List ByteArray) (last : Int), -1 ≤ last → riseB ns l last = true → ∀ v ∈ l, v ∈ ns
  | [], last, h, hr, v, hv => by cases hv
  | x :: l, last, h, hr, v, hv => by
    rw [riseB] at hr
    by_cases hc : idxI ns x ≤ last
    · rw [if_pos hc] at hr; cases hr
    · rw [if_neg hc] at hr
      rcases List.mem_cons.1 hv with rfl | hv
      · apply Classical.byContradiction
        intro hm
        unfold idxI at hc
        rw [if_neg hm] at hc
        omega
      · exact riseB_mem ns l _ (idxI_ge ns x) hr v hv
theorem esF_if (ms : List Nat) : ∀ (l : List Int) (last : Int) (c : Nat), esF ms l last c = if riseE ms.length l last = true then some (l.foldl (fun c e => c ||| ms.getD e.toNat 0) c) else none
  | [], last, c => rfl
  | e :: l, last, c => by
    rw [esF, riseE]
    by_cases hc : e ≤ last ∨ (ms.length : Int) ≤ e
    · rw [if_pos hc, if_pos hc]; rfl
    · rw [if_neg hc, if_neg hc, esF_if ms l]
      rfl
theorem riseE_mem (m : Nat) : ∀ (l : List Int) (last : Int), -1 ≤ last → riseE m l last = true → ∀ e ∈ l, 0 ≤ e ∧ e < m
  | [], last, h, hr, v, hv => by cases hv
  | x :: l, last, h, hr, v, hv => by
    rw [riseE] at hr
    by_cases hc : x ≤ last ∨ (m : Int) ≤ x
    · rw [if_pos hc] at hr; cases hr
    · rw [if_neg hc] at hr
      rcases List.mem_cons.1 hv with rfl | hv
      · omega
      · exact riseE_mem m l x (by omega) hr v hv
theorem foldE_bit (ms : List Nat) (i : Nat) : ∀ (l : List Int) (c : Nat), (l.foldl (fun c e => c ||| ms.getD e.toNat 0) c).testBit i = true ↔ c.testBit i = true ∨ ∃ e ∈ l, (ms.getD e.toNat 0).testBit i = true
  | [], c => by simp
  | e :: l, c => by
    rw [List.foldl_cons, foldE_bit ms i l, Nat.testBit_or, Bool.or_eq_true, or_assoc]
    simp
theorem foldE_lt (ms : List Nat) (hm : ∀ e ∈ ms, e < 65536) : ∀ (l : List Int) (c : Nat), c < 65536 → (l.foldl (fun c e => c ||| ms.getD e.toNat 0) c) < 65536
  | [], c, h => h
  | e :: l, c, h => by
    rw [List.foldl_cons]
    refine foldE_lt ms hm l _ (or_lt h ?_)
    rw [List.getD_eq_getElem?_getD]
    cases hx : ms[e.toNat]? with
    | none => simp
    | some y => exact hm y (List.mem_of_getElem? hx)
theorem setN_lt {E : List (List ByteArray)} (hm : mayR nameB E = true) {l : List ByteArray} (h : ∀ v ∈ l, v ∈ varsR E) : setN (varsR E) l < 65536 := by
  have hs : Sub (setN (varsR E) l) (allR E) := fun i hi => by
    obtain ⟨v, hv, rfl⟩ := (setN_iff _ _ i).1 hi
    rw [all_bit, decide_eq_true_eq]
    exact List.idxOf_lt_length_of_mem (h v hv)
  exact Nat.lt_of_le_of_lt hs.le (all_lt (may_parts hm).2.2)
/-- A bag's set, as the reference has it. -/
theorem setP_if {E : List (List ByteArray)} (hm : mayR nameB E = true) (names : List ByteArray) (es : List Int) : setP (varsR E) (setsR E) names es = if (riseB (varsR E) names (-1) && riseE E.length es (-1) && withinB names (coveredR E es)) = true then some (setN (varsR E) names) else none := by
  have g := good_of hm
  have hl : (setsR E).length = E.length := by unfold setsR; rw [List.length_map]
  unfold setP
  rw [vsF_if _ _ _ _ (by omega)]
  by_cases h1 : riseB (varsR E) names (-1) = true
  · rw [if_pos h1, h1, Bool.true_and]
    simp only []
    rw [esF_if, hl]
    by_cases h2 : riseE E.length es (-1) = true
    · rw [if_pos h2, h2, Bool.true_and]
      simp only []
      have hn := riseB_mem _ _ _ (by omega) h1
      have he := riseE_mem _ _ _ (by omega) h2
      have hlt := setN_lt hm hn
      have hlt2 := foldE_lt (setsR E) g.hE es 0 (by omega)
      have hiff : minus (setN (varsR E) names) (es.foldl (fun c e => c ||| (setsR E).getD e.toNat 0) 0) = 0 ↔ withinB names (coveredR E es) = true := by
        rw [minus_zero hlt hlt2]
        unfold withinB coveredR
        rw [List.all_eq_true]
        have hset : ∀ e ∈ es, (setsR E).getD e.toNat 0 = setN (varsR E) (E.getD e.toNat []) := fun e hee => by
          have := he e hee
          have hlt3 : e.toNat < E.length := by omega
          unfold setsR
          rw [List.getD_eq_getElem?_getD, List.getElem?_map, List.getElem?_eq_getElem hlt3, List.getD_eq_getElem?_getD, List.getElem?_eq_getElem hlt3]
          rfl
        have hin : ∀ e ∈ es, ∀ u ∈ E.getD e.toNat [], u ∈ varsR E := fun e hee u hu => by
          have := he e hee
          have hlt3 : e.toNat < E.length := by omega
          rw [List.getD_eq_getElem?_getD, List.getElem?_eq_getElem hlt3] at hu
          exact mem_vars (List.getElem_mem hlt3) hu
        constructor
        · intro hs v hv
          rw [decide_eq_true_eq, List.mem_flatMap]
          have h3 := hs _ ((setN_iff _ _ _).2 ⟨v, hv, rfl⟩)
          rw [foldE_bit] at h3
          rcases h3 with h3 | ⟨e, hee, h3⟩
          · simp at h3
          · rw [hset e hee, setN_mem (hin e hee)] at h3
            exact ⟨e, hee, h3⟩
        · intro hs i hi
          obtain ⟨v, hv, rfl⟩ := (setN_iff _ _ i).1 hi
          have h3 := hs v hv
          rw [decide_eq_true_eq, List.mem_flatMap] at h3
          obtain ⟨e, hee, h4⟩ := h3
          rw [foldE_bit]
          exact .inr ⟨e, hee, by rw [hset e hee, setN_mem (hin e hee)]; exact h4⟩
      show (if minus (setN (varsR E) names) (es.foldl (fun c e => c ||| (setsR E).getD e.toNat 0) 0) = 0 then some (setN (varsR E) names) else none) = _
      by_cases h3 : withinB names (coveredR E es) = true
      · rw [if_pos (hiff.2 h3), if_pos h3]
      · rw [if_neg (fun h => h3 (hiff.1 h)), if_neg h3]
    · rw [if_neg h2, Bool.eq_false_iff.2 h2]
      rfl
  · rw [if_neg h1, Bool.eq_false_iff.2 h1]
    rfl
end Go.Proofs.Ytnocncmjdhlmkaa.hyp
