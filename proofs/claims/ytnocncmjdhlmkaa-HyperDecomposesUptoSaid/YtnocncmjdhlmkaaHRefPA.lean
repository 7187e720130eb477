/- Texts HApp, HRefP, HRefQ, one behind the other. -/
import Derived.Test.YtnocncmjdhlmkaaHLawsA
import Derived.Test.YtnocncmjdhlmkaaHRef4
/- Texts behind a row of one's own, as a law for the walk. -/
namespace Go.Proofs.Ytnocncmjdhlmkaa.hyp
open Go.ChangeShapes Go.WideShapes Go.ChangeAt Go.RowKit kit
set_option linter.unusedVariables false
set_option linter.unusedSimpArgs false
theorem wpList_app_texts {w : World} {ops : Array Oper} {rest : List Oper} {o : Oper} {a : Act} {Q : Exit → Act → World → Prop} (hgd : o.guard = none) (s x : Operand)
    (ho : o.op = .call { callee := .builtin .append, args := #[s, x], argTypes := #[35, 35] })
    (B : Nat) (v y : Value) (n : Nat) (xs M : List Value) (hs : a.eval s = v) (hown : w.ownsRow B 9 1 v n xs) (hx : a.eval x = y) (ht : RowA w w.heap.size y M) (hone : ∀ u ∈ M, u.oneCell' = true)
    (hlen : n + M.length ≤ 1000000000) (hB : B ≤ w.heap.size)
    (h : ∀ v' w', w'.ownsRow B 9 1 v' (n + M.length) (xs ++ M) → w.grownBy w' v.ownBlock → wpList Try.prog ops Q rest (a.put o.dst v') w') : wpList Try.prog ops Q (o :: rest) a w := by
  obtain ⟨i0, hi, hz0, hz1, hz2⟩ := info_parts infoStr
  rcases ht with ⟨ao, cap, rfl, rfl⟩ | ⟨b, off, cap, rfl, h0, hc, hb, hj⟩
  · rcases ao with _ | ad
    · have hrun := run_append_none (P := Try.prog) w B 35 o.type 9 i0 1 Try.underlying35 hi v n xs hown cap
      refine wpList_append_run hgd s x 35 35 ho v v (.slice none 0 cap) w hs hx hrun ?_
      exact h v w (by simpa using hown) ⟨rfl, rfl, rfl, Nat.le_refl _, fun _ _ _ => rfl⟩
    · exact wpList_append_own _ hgd s x 35 ho B 9 i0 (.string ByteArray.empty) 1 16 Try.underlying35 hi hz0 hz1 hz2 rfl (by decide) v n xs hs hown ad 0 cap [] hx rfl (fun j u h => by simp at h) (fun u h => by cases h) (by unfold maxLen; simp at hlen; omega) (by simp at hlen; omega) hB (fun v' w' h1 h2 _ => h v' w' h1 h2)
  · exact wpList_append_own _ hgd s x 35 ho B 9 i0 (.string ByteArray.empty) 1 16 Try.underlying35 hi hz0 hz1 hz2 rfl (by decide) v n xs hs hown ⟨b, off, none⟩ M.length cap M hx (by simp) (RowA.news hj) hone (by unfold maxLen; omega) (by omega) hB (fun v' w' h1 h2 _ => h v' w' h1 h2)
end Go.Proofs.Ytnocncmjdhlmkaa.hyp

/- The reference's Check (plain), and that it is the program's. -/
namespace Go.Proofs.Ytnocncmjdhlmkaa.hyp
open Go.ChangeShapes Go.WideShapes Go.ChangeAt Go.RowKit kit
set_option linter.unusedVariables false
set_option linter.unusedSimpArgs false
def riseB (ns : List ByteArray) : List ByteArray → Int → Bool
  | [], _ => true
  | x :: l, last => if idxI ns x ≤ last then false else riseB ns l (idxI ns x)
def riseE (m : Nat) : List Int → Int → Bool
  | [], _ => true
  | e :: l, last => if e ≤ last ∨ (m : Int) ≤ e then false else riseE m l e
def coveredR (E : List (List ByteArray)) (es : List Int) : List ByteArray := es.flatMap fun e => E.getD e.toNat []
/-- One bag alone. -/
def baggedR (E : List (List ByteArray)) (ns : List ByteArray) (b : BagD) (i : Nat) (width : Int) : Bool :=
  parOK i b.parent && decide ((b.edges.length : Int) ≤ width) && riseB ns b.names (-1) && riseE E.length b.edges (-1) && withinB b.names (coveredR E b.edges)
/-- The bag stands with a variable that its parent has not. -/
def rootAt (bs : List BagD) (x : ByteArray) (i : Nat) : Bool :=
  decide (x ∈ (bs.getD i ⟨[], [], 0⟩).names) && (decide ((bs.getD i ⟨[], [], 0⟩).parent < 0) || !decide (x ∈ (bs.getD (bs.getD i ⟨[], [], 0⟩).parent.toNat ⟨[], [], 0⟩).names))
def rootsR (bs : List BagD) (x : ByteArray) (n : Nat) : Nat := ((List.range n).filter (rootAt bs x)).length
def allBags (E : List (List ByteArray)) (ns : List ByteArray) (bs : List BagD) (width : Int) : Bool := (List.range bs.length).all fun i => baggedR E ns (bs.getD i ⟨[], [], 0⟩) i width
def refChk (E : List (List ByteArray)) (bs : List BagD) (width : Int) : Bool :=
  mayR nameB E && decide (1 ≤ width) && decide (bs ≠ []) && allBags E (varsR E) bs width && (E.all fun e => bs.any fun b => withinB e b.names) && (varsR E).all fun x => decide (rootsR bs x bs.length ≤ 1)
theorem vsF_if (ns : List ByteArray) : ∀ (l : List ByteArray) (last : Int) (s : Nat), -1 ≤ last → vsF ns l last s = if riseB ns l last = true then some (l.foldl (fun s v => s ||| bit (ns.idxOf v)) s) else none
  | [], last, s, h => rfl
  | x :: l, last, s, h => by
    rw [vsF, riseB]
    by_cases hc : idxI ns x ≤ last
    · rw [if_pos hc, if_pos hc]; rfl
    · rw [if_neg hc, if_neg hc]
      obtain ⟨i, hi, -⟩ := idxI_lt (ns := ns) (x := x) (by omega)
      have hx : idxI ns x = (ns.idxOf x : Nat) := by
        unfold idxI at hi ⊢
        by_cases hm : x ∈ ns
        · rw [if_pos hm]
        · rw [if_neg hm] at hi; omega
      rw [vsF_if ns l _ _ (idxI_ge ns x), hx, Int.toNat_natCast]
      rfl
theorem riseB_mem (ns : List ByteArray) : ∀ (l : List ByteArray) (last : Int), -1 ≤ last → riseB ns l last = true → ∀ v ∈ l, v ∈ ns
  | [], last, h, hr, v, hv => by cases hv
  | x :: l, last, h, hr, v, hv => by
    rw [riseB] at hr
    by_cases hc : idxI ns x ≤ last
    · rw [if_pos hc] at hr; cases hr
    · rw [if_neg hc] at hr
      rcases List.mem_cons.1 hv with rfl | hv
      · apply Classical.byContradiction
        intro hm
        unfold idxI at hc
        rw [if_neg hm] at hc
        omega
      · exact riseB_mem ns l _ (idxI_ge ns x) hr v hv
theorem esF_if (ms : List Nat) : ∀ (l : List Int) (last : Int) (c : Nat), esF ms l last c = if riseE ms.length l last = true then some (l.foldl (fun c e => c ||| ms.getD e.toNat 0) c) else none
  | [], last, c => rfl
  | e :: l, last, c => by
    rw [esF, riseE]
    by_cases hc : e ≤ last ∨ (ms.length : Int) ≤ e
    · rw [if_pos hc, if_pos hc]; rfl
    · rw [if_neg hc, if_neg hc, esF_if ms l]
      rfl
theorem riseE_mem (m : Nat) : ∀ (l : List Int) (last : Int), -1 ≤ last → riseE m l last = true → ∀ e ∈ l, 0 ≤ e ∧ e < m
  | [], last, h, hr, v, hv => by cases hv
  | x :: l, last, h, hr, v, hv => by
    rw [riseE] at hr
    by_cases hc : x ≤ last ∨ (m : Int) ≤ x
    · rw [if_pos hc] at hr; cases hr
    · rw [if_neg hc] at hr
      rcases List.mem_cons.1 hv with rfl | hv
      · omega
      · exact riseE_mem m l x (by omega) hr v hv
theorem foldE_bit (ms : List Nat) (i : Nat) : ∀ (l : List Int) (c : Nat), (l.foldl (fun c e => c ||| ms.getD e.toNat 0) c).testBit i = true ↔ c.testBit i = true ∨ ∃ e ∈ l, (ms.getD e.toNat 0).testBit i = true
  | [], c => by simp
  | e :: l, c => by
    rw [List.foldl_cons, foldE_bit ms i l, Nat.testBit_or, Bool.or_eq_true, or_assoc]
    simp
theorem foldE_lt (ms : List Nat) (hm : ∀ e ∈ ms, e < 65536) : ∀ (l : List Int) (c : Nat), c < 65536 → (l.foldl (fun c e => c ||| ms.getD e.toNat 0) c) < 65536
  | [], c, h => h
  | e :: l, c, h => by
    rw [List.foldl_cons]
    refine foldE_lt ms hm l _ (or_lt h ?_)
    rw [List.getD_eq_getElem?_getD]
    cases hx : ms[e.toNat]? with
    | none => simp
    | some y => exact hm y (List.mem_of_getElem? hx)
theorem setN_lt {E : List (List ByteArray)} (hm : mayR nameB E = true) {l : List ByteArray} (h : ∀ v ∈ l, v ∈ varsR E) : setN (varsR E) l < 65536 := by
  have hs : Sub (setN (varsR E) l) (allR E) := fun i hi => by
    obtain ⟨v, hv, rfl⟩ := (setN_iff _ _ i).1 hi
    rw [all_bit, decide_eq_true_eq]
    exact List.idxOf_lt_length_of_mem (h v hv)
  exact Nat.lt_of_le_of_lt hs.le (all_lt (may_parts hm).2.2)
/-- A bag's set, as the reference has it. -/
theorem setP_if {E : List (List ByteArray)} (hm : mayR nameB E = true) (names : List ByteArray) (es : List Int) : setP (varsR E) (setsR E) names es = if (riseB (varsR E) names (-1) && riseE E.length es (-1) && withinB names (coveredR E es)) = true then some (setN (varsR E) names) else none := by
  have g := good_of hm
  have hl : (setsR E).length = E.length := by unfold setsR; rw [List.length_map]
  unfold setP
  rw [vsF_if _ _ _ _ (by omega)]
  by_cases h1 : riseB (varsR E) names (-1) = true
  · rw [if_pos h1, h1, Bool.true_and]
    simp only []
    rw [esF_if, hl]
    by_cases h2 : riseE E.length es (-1) = true
    · rw [if_pos h2, h2, Bool.true_and]
      simp only []
      have hn := riseB_mem _ _ _ (by omega) h1
      have he := riseE_mem _ _ _ (by omega) h2
      have hlt := setN_lt hm hn
      have hlt2 := foldE_lt (setsR E) g.hE es 0 (by omega)
      have hiff : minus (setN (varsR E) names) (es.foldl (fun c e => c ||| (setsR E).getD e.toNat 0) 0) = 0 ↔ withinB names (coveredR E es) = true := by
        rw [minus_zero hlt hlt2]
        unfold withinB coveredR
        rw [List.all_eq_true]
        have hset : ∀ e ∈ es, (setsR E).getD e.toNat 0 = setN (varsR E) (E.getD e.toNat []) := fun e hee => by
          have := he e hee
          have hlt3 : e.toNat < E.length := by omega
          unfold setsR
          rw [List.getD_eq_getElem?_getD, List.getElem?_map, List.getElem?_eq_getElem hlt3, List.getD_eq_getElem?_getD, List.getElem?_eq_getElem hlt3]
          rfl
        have hin : ∀ e ∈ es, ∀ u ∈ E.getD e.toNat [], u ∈ varsR E := fun e hee u hu => by
          have := he e hee
          have hlt3 : e.toNat < E.length := by omega
          rw [List.getD_eq_getElem?_getD, List.getElem?_eq_getElem hlt3] at hu
          exact mem_vars (List.getElem_mem hlt3) hu
        constructor
        · intro hs v hv
          rw [decide_eq_true_eq, List.mem_flatMap]
          have h3 := hs _ ((setN_iff _ _ _).2 ⟨v, hv, rfl⟩)
          rw [foldE_bit] at h3
          rcases h3 with h3 | ⟨e, hee, h3⟩
          · simp at h3
          · rw [hset e hee, setN_mem (hin e hee)] at h3
            exact ⟨e, hee, h3⟩
        · intro hs i hi
          obtain ⟨v, hv, rfl⟩ := (setN_iff _ _ i).1 hi
          have h3 := hs v hv
          rw [decide_eq_true_eq, List.mem_flatMap] at h3
          obtain ⟨e, hee, h4⟩ := h3
          rw [foldE_bit]
          exact .inr ⟨e, hee, by rw [hset e hee, setN_mem (hin e hee)]; exact h4⟩
      show (if minus (setN (varsR E) names) (es.foldl (fun c e => c ||| (setsR E).getD e.toNat 0) 0) = 0 then some (setN (varsR E) names) else none) = _
      by_cases h3 : withinB names (coveredR E es) = true
      · rw [if_pos (hiff.2 h3), if_pos h3]
      · rw [if_neg (fun h => h3 (hiff.1 h)), if_neg h3]
    · rw [if_neg h2, Bool.eq_false_iff.2 h2]
      rfl
  · rw [if_neg h1, Bool.eq_false_iff.2 h1]
    rfl
end Go.Proofs.Ytnocncmjdhlmkaa.hyp

/- The reference's Check is the program's (plain). -/
namespace Go.Proofs.Ytnocncmjdhlmkaa.hyp
open Go.ChangeShapes Go.WideShapes Go.ChangeAt Go.RowKit kit
set_option linter.unusedVariables false
set_option linter.unusedSimpArgs false
def bagsOK (E : List (List ByteArray)) (ns : List ByteArray) (width : Int) : List BagD → Nat → Bool
  | [], _ => true
  | b :: l, i => baggedR E ns b i width && bagsOK E ns width l (i + 1)
theorem bagsOK_at (E : List (List ByteArray)) (ns : List ByteArray) (width : Int) : ∀ (bs : List BagD) (i : Nat), bagsOK E ns width bs i = true ↔ ∀ j (hj : j < bs.length), baggedR E ns bs[j] (i + j) width = true
  | [], i => by simp [bagsOK]
  | b :: l, i => by
    rw [bagsOK, Bool.and_eq_true, bagsOK_at E ns width l (i + 1)]
    constructor
    · rintro ⟨h1, h2⟩ j hj
      match j, hj with
      | 0, _ => exact h1
      | j + 1, hj =>
        have := h2 j (by simpa using hj)
        rw [show i + (j + 1) = i + 1 + j by omega]
        exact this
    · intro h
      refine ⟨h 0 (by simp), fun j hj => ?_⟩
      have := h (j + 1) (by simpa using hj)
      rw [show i + (j + 1) = i + 1 + j by omega] at this
      exact this
theorem setsF_if {E : List (List ByteArray)} (hm : mayR nameB E = true) (width : Int) : ∀ (bs : List BagD) (i : Nat) (acc : List Nat), setsF (varsR E) (setsR E) width bs i acc = if bagsOK E (varsR E) width bs i = true then some (acc ++ bs.map fun b => setN (varsR E) b.names) else none
  | [], i, acc => by simp [setsF, bagsOK]
  | b :: l, i, acc => by
    rw [setsF, bagsOK]
    unfold baggedR
    by_cases h1 : (parOK i b.parent && decide ((b.edges.length : Int) ≤ width)) = true
    · rw [if_pos h1, setP_if hm, h1, Bool.true_and]
      by_cases h2 : (riseB (varsR E) b.names (-1) && riseE E.length b.edges (-1) && withinB b.names (coveredR E b.edges)) = true
      · have h3 : (riseB (varsR E) b.names (-1) && (riseE E.length b.edges (-1) && withinB b.names (coveredR E b.edges))) = true := by rw [← Bool.and_assoc]; exact h2
        rw [if_pos h2]
        simp only []
        rw [setsF_if hm width l, h2, Bool.true_and]
        simp
      · rw [if_neg h2]
        simp only []
        rw [Bool.eq_false_iff.2 h2]
        simp
    · rw [if_neg h1, Bool.eq_false_iff.2 h1]
      simp
theorem sub_within {ns a b : List ByteArray} (ha : ∀ v ∈ a, v ∈ ns) (hb : ∀ v ∈ b, v ∈ ns) : Sub (setN ns a) (setN ns b) ↔ withinB a b = true := by
  unfold withinB
  rw [List.all_eq_true]
  constructor
  · intro h v hv
    rw [decide_eq_true_eq]
    have := h _ ((setN_iff _ _ _).2 ⟨v, hv, rfl⟩)
    rwa [setN_mem hb] at this
  · intro h i hi
    obtain ⟨v, hv, rfl⟩ := (setN_iff _ _ i).1 hi
    have := h v hv
    rw [decide_eq_true_eq] at this
    rw [setN_mem hb]
    exact this
theorem allBags_ok (E : List (List ByteArray)) (ns : List ByteArray) (bs : List BagD) (width : Int) : allBags E ns bs width = bagsOK E ns width bs 0 := by
  apply Bool.eq_iff_iff.2
  rw [bagsOK_at]
  unfold allBags
  rw [List.all_eq_true]
  constructor
  · intro h j hj
    have := h j (List.mem_range.2 hj)
    rw [List.getD_eq_getElem?_getD, List.getElem?_eq_getElem hj, Option.getD_some] at this
    rw [Nat.zero_add]
    exact this
  · intro h j hj
    have hj := List.mem_range.1 hj
    have := h j hj
    rw [Nat.zero_add] at this
    rw [List.getD_eq_getElem?_getD, List.getElem?_eq_getElem hj, Option.getD_some]
    exact this
theorem chk_ref (E : List (List ByteArray)) (bs : List BagD) (width : Int) : chkR E bs width = refChk E bs width := by
  unfold chkR refChk
  cases hm : mayR nameB E with
  | false => rfl
  | true =>
    unfold chkP
    rw [setsF_if hm, allBags_ok]
    simp only [Bool.true_and]
    by_cases hb : bagsOK E (varsR E) width bs 0 = true
    · rw [if_pos hb, hb]
      simp only [List.nil_append, Bool.and_true]
      have hat := (bagsOK_at E (varsR E) width bs 0).1 hb
      have hin : ∀ b ∈ bs, ∀ v ∈ b.names, v ∈ varsR E := fun b hbm => by
        obtain ⟨j, hj, rfl⟩ := List.getElem_of_mem hbm
        have h1 := hat j hj
        unfold baggedR at h1
        simp only [Bool.and_eq_true] at h1
        exact riseB_mem _ _ _ (by omega) h1.1.1.2
      have hpar : ∀ j (hj : j < bs.length), parOK j bs[j].parent = true := fun j hj => by
        have h1 := hat j hj
        unfold baggedR at h1
        simp only [Bool.and_eq_true, Nat.zero_add] at h1
        exact h1.1.1.1.1
      have g := good_of hm
      have h1 : ((setsR E).all fun e => (bs.map fun b => setN (varsR E) b.names).any fun s => minus e s == 0) = E.all fun e => bs.any fun b => withinB e b.names := by
        unfold setsR
        rw [List.all_map]
        apply Bool.eq_iff_iff.2
        simp only [List.all_eq_true, List.any_eq_true, List.mem_map, Function.comp]
        constructor
        · intro h e he
          obtain ⟨s, ⟨b, hbm, rfl⟩, h2⟩ := h e he
          rw [beq_iff_eq, minus_zero (setN_lt hm (fun v hv => mem_vars he hv)) (setN_lt hm (hin b hbm)), sub_within (fun v hv => mem_vars he hv) (hin b hbm)] at h2
          exact ⟨b, hbm, h2⟩
        · intro h e he
          obtain ⟨b, hbm, h2⟩ := h e he
          refine ⟨_, ⟨b, hbm, rfl⟩, ?_⟩
          rw [beq_iff_eq, minus_zero (setN_lt hm (fun v hv => mem_vars he hv)) (setN_lt hm (hin b hbm)), sub_within (fun v hv => mem_vars he hv) (hin b hbm)]
          exact h2
      have hset : ∀ i (hi : i < bs.length), (bs.map fun b => setN (varsR E) b.names).getD i 0 = setN (varsR E) bs[i].names := fun i hi => by
        rw [List.getD_eq_getElem?_getD, List.getElem?_map, List.getElem?_eq_getElem hi]; rfl
      have hpp : ∀ i (hi : i < bs.length), (bs.map BagD.parent).getD i 0 = bs[i].parent := fun i hi => by
        rw [List.getD_eq_getElem?_getD, List.getElem?_map, List.getElem?_eq_getElem hi]; rfl
      have hgd : ∀ i (hi : i < bs.length), bs.getD i ⟨[], [], 0⟩ = bs[i] := fun i hi => by
        rw [List.getD_eq_getElem?_getD, List.getElem?_eq_getElem hi]; rfl
      have htop : ∀ v (hv : v < (varsR E).length) i, i < bs.length → topAt bs (bs.map fun b => setN (varsR E) b.names) v i = rootAt bs (varsR E)[v] i := fun v hv i hi => by
        unfold topAt rootAt
        rw [hset i hi, hpp i hi, hgd i hi, set_bit vars_nodup (hin _ (List.getElem_mem hi)) hv]
        congr 1
        have hp := hpar i hi
        unfold parOK at hp
        by_cases h0 : i = 0
        · rw [if_pos h0] at hp
          rw [of_decide_eq_true hp, decide_eq_true h0]
          rfl
        · rw [if_neg h0] at hp
          have hp2 := of_decide_eq_true hp
          have hpl : bs[i].parent.toNat < bs.length := by omega
          rw [decide_eq_false h0, decide_eq_false (show ¬ bs[i].parent < 0 by omega), hset _ hpl, hgd _ hpl, set_bit vars_nodup (hin _ (List.getElem_mem hpl)) hv]
      have h2 : ((List.range (varsR E).length).all fun v => decide (topsF bs (bs.map fun b => setN (varsR E) b.names) v bs.length ≤ 1)) = (varsR E).all fun x => decide (rootsR bs x bs.length ≤ 1) := by
        have hcount : ∀ v (hv : v < (varsR E).length), topsF bs (bs.map fun b => setN (varsR E) b.names) v bs.length = rootsR bs (varsR E)[v] bs.length := fun v hv => by
          unfold topsF rootsR
          congr 1
          apply List.filter_congr
          intro i hi
          exact htop v hv i (List.mem_range.1 hi)
        apply Bool.eq_iff_iff.2
        simp only [List.all_eq_true, decide_eq_true_eq, List.mem_range]
        constructor
        · intro h x hx
          obtain ⟨v, hv, rfl⟩ := List.getElem_of_mem hx
          rw [← hcount v hv]
          exact h v hv
        · intro h v hv
          rw [hcount v hv]
          exact h _ (List.getElem_mem hv)
      rw [h1, h2]
      simp only [Bool.and_assoc]
    · rw [if_neg hb, Bool.eq_false_iff.2 hb]
      simp
end Go.Proofs.Ytnocncmjdhlmkaa.hyp
