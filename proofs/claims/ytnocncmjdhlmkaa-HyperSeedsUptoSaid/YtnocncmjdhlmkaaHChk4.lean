/- What Decompose tells passes Check (plain). -/
import Derived.Test.YtnocncmjdhlmkaaHChk3
namespace Go.Proofs.Ytnocncmjdhlmkaa.hyp
open Go.ChangeShapes Go.WideShapes Go.ChangeAt Go.RowKit kit
set_option linter.unusedVariables false
set_option linter.unusedSimpArgs false
def orB (L : List Nat) (s : Nat) : Nat := L.foldl (fun s i => s ||| bit i) s
def orE (ms : List Nat) (L : List Nat) (s : Nat) : Nat := L.foldl (fun c e => c ||| ms.getD e 0) s
theorem testBit_orB (x : Nat) : ∀ (L : List Nat) (s : Nat), (orB L s).testBit x = true ↔ s.testBit x = true ∨ x ∈ L
  | [], s => by simp [orB]
  | i :: L, s => by
    show (orB L (s ||| bit i)).testBit x = true ↔ _
    rw [testBit_orB x L, Nat.testBit_or, testBit_bit, Bool.or_eq_true, decide_eq_true_eq, List.mem_cons, or_assoc, eq_comm (a := i)]
theorem testBit_orE (ms : List Nat) (x : Nat) : ∀ (L : List Nat) (s : Nat), (orE ms L s).testBit x = true ↔ s.testBit x = true ∨ ∃ e ∈ L, (ms.getD e 0).testBit x = true
  | [], s => by simp [orE]
  | i :: L, s => by
    show (orE ms L (s ||| ms.getD i 0)).testBit x = true ↔ _
    rw [testBit_orE ms x L, Nat.testBit_or, Bool.or_eq_true, or_assoc]
    simp
theorem bits_rise (s : Nat) : (bits s).Pairwise (· < ·) := List.Pairwise.filter _ List.pairwise_lt_range
theorem orB_bits {s : Nat} (hs : s < 65536) : orB (bits s) 0 = s := by
  apply Nat.eq_of_testBit_eq
  intro i
  apply Bool.eq_iff_iff.2
  rw [testBit_orB, mem_bits hs]
  simp
theorem orE_bits {ms : List Nat} {l : Nat} (hl : l < 2 ^ ms.length) (hm : ms.length ≤ 16) : orE ms (bits l) 0 = unionN ms l := by
  have h16 : l < 65536 := Nat.lt_of_lt_of_le hl (Nat.pow_le_pow_right (by decide) hm : 2 ^ ms.length ≤ 2 ^ 16)
  apply Nat.eq_of_testBit_eq
  intro i
  apply Bool.eq_iff_iff.2
  rw [testBit_orE, unionN_iff]
  constructor
  · rintro (h | ⟨e, he, hi⟩)
    · simp at h
    · rw [mem_bits h16] at he
      have hel := lt_of_testBit hl he
      rw [getD_at hel] at hi
      exact ⟨e, _, List.getElem?_eq_getElem hel, he, hi⟩
  · rintro ⟨j, e, hj, hl2, hi⟩
    refine .inr ⟨j, (mem_bits h16).2 hl2, ?_⟩
    rw [List.getD_eq_getElem?_getD, hj]
    exact hi
theorem idxI_at {ns : List ByteArray} (hn : ns.Nodup) {i : Nat} (hi : i < ns.length) : idxI ns (ns.getD i ByteArray.empty) = (i : Int) := by
  rw [List.getD_eq_getElem?_getD, List.getElem?_eq_getElem hi, Option.getD_some]
  unfold idxI
  rw [if_pos (List.getElem_mem hi), List.Nodup.idxOf_getElem hn]
theorem vsF_run {ns : List ByteArray} (hn : ns.Nodup) : ∀ (L : List Nat) (last : Int) (s : Nat), L.Pairwise (· < ·) → (∀ i ∈ L, last < (i : Int) ∧ i < ns.length) → vsF ns (namesOf ns L) last s = some (orB L s)
  | [], last, s, _, _ => rfl
  | i :: L, last, s, hp, hb => by
    obtain ⟨h1, h2⟩ := hb i (List.mem_cons_self ..)
    rw [List.pairwise_cons] at hp
    show vsF ns (ns.getD i ByteArray.empty :: namesOf ns L) last s = _
    rw [vsF, idxI_at hn h2, if_neg (by omega), vsF_run hn L _ _ hp.2 (fun j hj => ⟨by have := hp.1 j hj; omega, (hb j (List.mem_cons_of_mem _ hj)).2⟩), Int.toNat_natCast]
    rfl
theorem esF_run {ms : List Nat} : ∀ (L : List Nat) (last : Int) (c : Nat), L.Pairwise (· < ·) → (∀ i ∈ L, last < (i : Int) ∧ i < ms.length) → esF ms (natI L) last c = some (orE ms L c)
  | [], last, c, _, _ => rfl
  | i :: L, last, c, hp, hb => by
    obtain ⟨h1, h2⟩ := hb i (List.mem_cons_self ..)
    rw [List.pairwise_cons] at hp
    show esF ms ((i : Int) :: natI L) last c = _
    rw [esF, if_neg (by omega), esF_run L _ _ hp.2 (fun j hj => ⟨by have := hp.1 j hj; omega, (hb j (List.mem_cons_of_mem _ hj)).2⟩), Int.toNat_natCast]
    rfl
theorem setP_run {ns : List ByteArray} {ms : List Nat} (hn : ns.Nodup) {s : Nat} (hs : s < 65536) (hsn : ∀ i, s.testBit i = true → i < ns.length) (hE : ∀ e ∈ ms, e < 65536) (hm : ms.length ≤ 8) (hc : Sub s (unionN ms (coverN ms s))) : setP ns ms (namesOf ns (bits s)) (natI (bits (coverN ms s))) = some s := by
  have h16 : coverN ms s < 65536 := Nat.lt_of_lt_of_le (coverN_lt ms s) (Nat.pow_le_pow_right (by decide) (show ms.length ≤ 16 by omega) : 2 ^ ms.length ≤ 2 ^ 16)
  unfold setP
  rw [vsF_run hn _ _ _ (bits_rise s) (fun i hi => ⟨by omega, hsn i ((mem_bits hs).1 hi)⟩), orB_bits hs]
  simp only []
  rw [esF_run _ _ _ (bits_rise _) (fun i hi => ⟨by omega, lt_of_testBit (coverN_lt ms s) ((mem_bits h16).1 hi)⟩), orE_bits (coverN_lt ms s) (by omega)]
  simp only []
  rw [if_pos ((minus_zero hs (unionN_lt ms hE _)).2 hc)]
theorem setsF_run {ns : List ByteArray} {ms : List Nat} {width : Int} : ∀ (bs : List BagD) (ss : List Nat) (i : Nat) (acc : List Nat), ss.length = bs.length →
    (∀ j (hj : j < bs.length) (hj' : j < ss.length), parOK (i + j) bs[j].parent = true ∧ (bs[j].edges.length : Int) ≤ width ∧ setP ns ms bs[j].names bs[j].edges = some ss[j]) → setsF ns ms width bs i acc = some (acc ++ ss)
  | [], ss, i, acc, hl, _ => by
    obtain rfl := List.eq_nil_of_length_eq_zero (by simpa using hl)
    rw [setsF, List.append_nil]
  | b :: bs, [], i, acc, hl, _ => by simp at hl
  | b :: bs, s :: ss, i, acc, hl, h => by
    obtain ⟨h1, h2, h3⟩ := h 0 (by simp) (by simp)
    simp only [List.getElem_cons_zero, Nat.add_zero] at h1 h2 h3
    rw [setsF, if_pos (by rw [h1, decide_eq_true h2]; rfl), h3]
    simp only []
    rw [setsF_run bs ss (i + 1) (acc ++ [s]) (by simpa using hl) (fun j hj hj' => ?_)]
    · simp
    · have := h (j + 1) (by simpa using hj) (by simpa using hj')
      simp only [List.getElem_cons_succ] at this
      rw [show i + 1 + j = i + (j + 1) by omega]
      exact this
theorem filter_one {n : Nat} {p : Nat → Bool} (h : ∀ i j, i < n → j < n → p i = true → p j = true → i = j) : ((List.range n).filter p).length ≤ 1 := by
  have hnd : ((List.range n).filter p).Nodup := List.Pairwise.filter _ List.nodup_range
  match hL : (List.range n).filter p with
  | [] => simp
  | [a] => simp
  | a :: b :: l =>
    rw [hL] at hnd
    have ha : a ∈ (List.range n).filter p := by rw [hL]; simp
    have hb : b ∈ (List.range n).filter p := by rw [hL]; simp
    rw [List.mem_filter, List.mem_range] at ha hb
    have := h a b ha.1 hb.1 ha.2 hb.2
    subst this
    simp at hnd
/-- Decompose's bags pass Check, by any width that the hypergraph has. -/
theorem chk_bags {E : List (List ByteArray)} {width : Int} {turn M : Nat} (hm : mayR nameB E = true) (hw : 1 ≤ width) (hwid : ((widN (setsR E) turn (allR E) : Nat) : Int) ≤ width) (ha : allR E ≠ 0)
    (hM : outS (setsR E) turn (allR E) M = 0) (hlow : ∀ i, i < M → outS (setsR E) turn (allR E) i ≠ 0) : chkR E (bagsR (varsR E) (setsR E) turn (allR E) M) width = true := by
  have g := good_of hm
  obtain ⟨hE8, hEs, hn12⟩ := may_parts hm
  have hM0 : 0 < M := by
    rcases Nat.eq_zero_or_pos M with h | h
    · subst h
      exact absurd hM ha
    · exact h
  have hbl := bagsR_length (varsR E) (setsR E) turn (allR E) M
  have hat : ∀ j (hj : j < (bagsR (varsR E) (setsR E) turn (allR E) M).length), (bagsR (varsR E) (setsR E) turn (allR E) M)[j] = bagI (varsR E) (setsR E) turn (allR E) j := fun j hj => by
    apply Option.some.inj
    rw [← List.getElem?_eq_getElem hj]
    unfold bagsR
    rw [List.getElem?_map, List.getElem?_range (by rw [hbl] at hj; exact hj)]
    rfl
  have hin : ∀ x, (allR E).testBit x = true → x < (varsR E).length := fun x hx => by unfold allR at hx; rw [full_bit, decide_eq_true_eq] at hx; exact hx
  have hs16 : ∀ j, j < M → sS (setsR E) turn (allR E) j < 65536 := fun j hj => bagN_lt g.hE (v16 g (hlow j hj))
  have hsets := setsF_run (ns := varsR E) (ms := setsR E) (width := width) (bagsR (varsR E) (setsR E) turn (allR E) M) ((List.range M).map (sS (setsR E) turn (allR E))) 0 [] (by rw [hbl]; simp) (fun j hj hj' => by
    rw [hat j hj]
    rw [hbl] at hj
    have h0 := hlow j hj
    refine ⟨?_, ?_, ?_⟩
    · rw [Nat.zero_add]
      show parOK j (parI (setsR E) turn (allR E) j) = true
      unfold parOK parI
      by_cases hj0 : j = 0
      · rw [if_pos hj0, if_pos hj0]; rfl
      · rw [if_neg hj0, if_neg hj0]
        have := (parS_spec g h0 (Nat.pos_of_ne_zero hj0)).1
        exact decide_eq_true ⟨by omega, by omega⟩
    · show ((natI (bits (coverN (setsR E) (sS (setsR E) turn (allR E) j)))).length : Int) ≤ width
      rw [natI_length, ← pop_eq]
      have := (wid_le (k := turn) g j).2 h0
      omega
    · show setP (varsR E) (setsR E) (namesOf (varsR E) (bits (sS (setsR E) turn (allR E) j))) (natI (bits (coverN (setsR E) (sS (setsR E) turn (allR E) j)))) = _
      rw [setP_run vars_nodup (hs16 j hj) (fun i hi => hin i (sS_all g h0 hi)) g.hE g.hlen (cover_bag g h0)]
      simp)
  rw [List.nil_append] at hsets
  have hgd : ∀ i, i < M → ((List.range M).map (sS (setsR E) turn (allR E))).getD i 0 = sS (setsR E) turn (allR E) i := fun i hi => by
    rw [List.getD_eq_getElem?_getD, List.getElem?_map, List.getElem?_range hi]; rfl
  unfold chkR
  rw [hm, Bool.true_and]
  unfold chkP
  rw [decide_eq_true hw, decide_eq_true (by intro h; rw [h] at hbl; simp at hbl; omega), hsets]
  simp only [Bool.true_and, Bool.and_eq_true, List.all_eq_true, List.any_eq_true, decide_eq_true_eq, beq_iff_eq]
  refine ⟨fun e he => ?_, fun v hv => ?_⟩
  · by_cases h0 : e = 0
    · subst h0
      exact ⟨sS (setsR E) turn (allR E) 0, List.mem_map.2 ⟨0, List.mem_range.2 hM0, rfl⟩, by unfold minus; simp⟩
    · obtain ⟨j, hj, hsub⟩ := edge_in g he h0 hM hlow
      exact ⟨_, List.mem_map.2 ⟨j, List.mem_range.2 hj, rfl⟩, (minus_zero (g.hE e he) (hs16 j hj)).2 hsub⟩
  · rw [hbl]
    unfold topsF
    refine filter_one fun i j hi hj h1 h2 => ?_
    have key : ∀ i, i < M → topAt (bagsR (varsR E) (setsR E) turn (allR E) M) ((List.range M).map (sS (setsR E) turn (allR E))) v i = true → vS (setsR E) turn (allR E) i = v := fun i hi h => by
      unfold topAt at h
      rw [hgd i hi, Bool.and_eq_true, Bool.or_eq_true, decide_eq_true_eq, Bool.not_eq_true'] at h
      have hpar : ((bagsR (varsR E) (setsR E) turn (allR E) M).map BagD.parent).getD i 0 = parI (setsR E) turn (allR E) i := by
        rw [List.getD_eq_getElem?_getD, List.getElem?_map, List.getElem?_eq_getElem (by rw [hbl]; exact hi), hat]; rfl
      rw [hpar] at h
      refine root_is g (hlow i hi) h.1 ?_
      rcases h.2 with h0 | h3
      · exact .inl h0
      · by_cases hi0 : i = 0
        · exact .inl hi0
        · unfold parI at h3
          rw [if_neg hi0, Int.toNat_natCast] at h3
          have := (parS_spec g (hlow i hi) (Nat.pos_of_ne_zero hi0)).1
          rw [hgd _ (by omega)] at h3
          exact .inr h3
    exact vS_inj g (hlow j hj) (hlow i hi) ((key i hi h1).trans (key j hj h2).symm)
/-- So does the one of no variables. -/
theorem chk_empty {E : List (List ByteArray)} {width : Int} (hm : mayR nameB E = true) (hw : 1 ≤ width) (ha : allR E = 0) : chkR E [⟨[], [], -1⟩] width = true := by
  have g := good_of hm
  have hz : ∀ e ∈ setsR E, e = 0 := fun e he => by
    apply Nat.eq_of_testBit_eq
    intro i
    rw [Nat.zero_testBit]
    cases h : e.testBit i
    · rfl
    · have := (g.hcov i).2 ⟨e, he, h⟩
      rw [ha] at this
      simp at this
  have hsets : setsF (varsR E) (setsR E) width [⟨[], [], -1⟩] 0 [] = some [0] := by
    have h1 : setP (varsR E) (setsR E) [] [] = some 0 := rfl
    rw [setsF, if_pos (by show (parOK 0 (-1) && decide (((0 : Nat) : Int) ≤ width)) = true; rw [decide_eq_true (by omega)]; rfl), h1]
    simp only []
    rw [setsF, List.nil_append]
  unfold chkR
  rw [hm, Bool.true_and]
  unfold chkP
  rw [decide_eq_true hw, decide_eq_true (by simp), hsets]
  simp only [Bool.true_and, Bool.and_eq_true, List.all_eq_true, List.any_eq_true, decide_eq_true_eq, beq_iff_eq]
  refine ⟨fun e he => ⟨0, by simp, by rw [hz e he]; rfl⟩, fun v hv => ?_⟩
  unfold topsF
  refine filter_one fun i j hi hj h1 h2 => ?_
  simp at hi hj
  omega
/-- Bags of few names and edges. -/
def Few (E : List (List ByteArray)) (bs : List BagD) : Prop := bs.length ≤ 65536 ∧ ∀ b ∈ bs, b.names.length ≤ 16 ∧ b.edges.length ≤ 16 ∧ ∀ s ∈ b.names, s ∈ varsR E ∨ s = ByteArray.empty
theorem bits_few (s : Nat) : (bits s).length ≤ 16 := by
  have := List.length_filter_le (fun i => s.testBit i) (List.range 16)
  unfold bits
  simpa using this
theorem few_bags {E : List (List ByteArray)} {turn M : Nat} (hm : mayR nameB E = true) (hlow : ∀ i, i < M → outS (setsR E) turn (allR E) i ≠ 0) : Few E (bagsR (varsR E) (setsR E) turn (allR E) M) := by
  have g := good_of hm
  refine ⟨by rw [bagsR_length]; have := outS_sum g (turn := turn) M hlow; have := g.hall; omega, fun b hb => ?_⟩
  unfold bagsR at hb
  obtain ⟨i, hi, rfl⟩ := List.mem_map.1 hb
  refine ⟨?_, ?_, fun s hs => ?_⟩
  · show (namesOf _ _).length ≤ 16
    rw [namesOf_length]
    exact bits_few _
  · show (natI _).length ≤ 16
    rw [natI_length]
    exact bits_few _
  · obtain ⟨j, hj, rfl⟩ := List.mem_map.1 (show s ∈ namesOf (varsR E) _ from hs)
    rw [List.getD_eq_getElem?_getD]
    by_cases h : j < (varsR E).length
    · rw [List.getElem?_eq_getElem h]
      exact .inl (List.getElem_mem h)
    · rw [List.getElem?_eq_none (by omega)]
      exact .inr rfl
/-- What Decompose hands back, where it does. -/
theorem DecOut.checked {w w' : World} {E : List (List ByteArray)} {width seed : Int} {e : Ending} (h : DecOut w E width seed e w') (hm : mayR nameB E = true) (hw : 1 ≤ width) (hwid : ((widN (setsR E) (turnOf seed) (allR E) : Nat) : Int) ≤ width) :
    Below w.heap.size w w' ∧ ∃ v bs, e = .returned (.tuple #[v, .int .i64 0]) ∧ BagsO w' w.heap.size v bs ∧ chkR E bs width = true ∧ Few E bs := by
  obtain ⟨hb, h | h | h⟩ := h
  · exact absurd ⟨hm, hw⟩ h.1
  · omega
  · obtain ⟨-, -, v, bs, h1, h2, h3⟩ := h
    refine ⟨hb, v, bs, h1, h2, ?_⟩
    rcases h3 with ⟨h4, rfl⟩ | ⟨h4, M, h5, h6, rfl⟩
    · refine ⟨chk_empty hm hw h4, by simp, fun b hb => ?_⟩
      obtain rfl := List.mem_singleton.1 hb
      exact ⟨by simp, by simp, fun s hs => by simp at hs⟩
    · exact ⟨chk_bags hm hw hwid h4 h5 h6, few_bags hm h6⟩
end Go.Proofs.Ytnocncmjdhlmkaa.hyp
