/- Reading a hypergraph: names as they come first, edges as sets of their numbers. Plain. -/
import Derived.Test.YtnocncmjdhlmkaaHypB
namespace Go.Proofs.Ytnocncmjdhlmkaa.hyp
set_option linter.unusedVariables false
instance decText : DecidableEq ByteArray := fun a b => decidable_of_iff (a.data.toList = b.data.toList) ⟨fun h => by
  cases a; cases b
  simp only at h
  congr
  exact Array.toList_inj.1 h, fun h => by rw [h]⟩
instance beqText : BEq ByteArray := ⟨fun a b => decide (a = b)⟩
instance lawText : LawfulBEq ByteArray where
  eq_of_beq h := of_decide_eq_true h
  rfl := decide_eq_true rfl
def addN (ns : List ByteArray) (v : ByteArray) : List ByteArray := if v ∈ ns then ns else ns ++ [v]
/-- All names, as they come first. -/
def varsR (E : List (List ByteArray)) : List ByteArray := E.flatten.foldl addN []
/-- The numbers of some names. -/
def setN (ns e : List ByteArray) : Nat := e.foldl (fun s v => s ||| bit (ns.idxOf v)) 0
section
variable (p : ByteArray → Bool)
def readE : List ByteArray → List ByteArray → Nat → Option (List ByteArray × Nat)
  | [], ns, s => some (ns, s)
  | v :: e, ns, s => if (p v && decide (ns.idxOf v < 12) && !s.testBit (ns.idxOf v)) = true then readE e (addN ns v) (s ||| bit (ns.idxOf v)) else none
def readL : List (List ByteArray) → List ByteArray → List Nat → Option (List ByteArray × List Nat)
  | [], ns, ms => some (ns, ms)
  | e :: l, ns, ms => match readE p e ns 0 with
    | none => none
    | some r => readL l r.1 (ms ++ [r.2])
def readG (E : List (List ByteArray)) : Option (List ByteArray × List Nat) := if E.length ≤ 8 then readL p E [] [] else none
def unlikeR (e : List ByteArray) : Bool := e.all p && decide e.Nodup
def mayR (E : List (List ByteArray)) : Bool := decide (E.length ≤ 8) && E.all (fun e => decide (e.length ≤ 12) && unlikeR p e) && decide ((varsR E).length ≤ 12)
end
theorem idxOf_app {ns m : List ByteArray} {v : ByteArray} (h : v ∈ ns) : (ns ++ m).idxOf v = ns.idxOf v := by rw [List.idxOf_append, if_pos h]
theorem addN_nodup {ns : List ByteArray} (h : ns.Nodup) (v : ByteArray) : (addN ns v).Nodup := by
  unfold addN
  split
  · exact h
  · rename_i hv
    rw [List.nodup_append]
    exact ⟨h, by simp, fun a ha b hb => by rw [List.mem_singleton] at hb; rintro rfl; exact hv (hb ▸ ha)⟩
theorem addN_ext (ns : List ByteArray) (v : ByteArray) : ∃ m, addN ns v = ns ++ m := by
  unfold addN
  split
  · exact ⟨[], by simp⟩
  · exact ⟨[v], rfl⟩
theorem mem_addN (ns : List ByteArray) (v : ByteArray) : v ∈ addN ns v := by
  unfold addN
  split
  · assumption
  · simp
theorem foldN_ext : ∀ (e ns : List ByteArray), ∃ m, e.foldl addN ns = ns ++ m
  | [], ns => ⟨[], by simp⟩
  | v :: e, ns => by
    obtain ⟨m, hm⟩ := addN_ext ns v
    obtain ⟨m2, h2⟩ := foldN_ext e (addN ns v)
    exact ⟨m ++ m2, by rw [List.foldl_cons, h2, hm, List.append_assoc]⟩
theorem foldN_nodup : ∀ (e ns : List ByteArray), ns.Nodup → (e.foldl addN ns).Nodup
  | [], ns, h => h
  | v :: e, ns, h => foldN_nodup e _ (addN_nodup h v)
theorem mem_foldN : ∀ (e ns : List ByteArray), ∀ v ∈ e, v ∈ e.foldl addN ns
  | [], ns, v, h => by cases h
  | u :: e, ns, v, h => by
    rw [List.foldl_cons]
    rcases List.mem_cons.1 h with rfl | h
    · obtain ⟨m, hm⟩ := foldN_ext e (addN ns v)
      rw [hm]
      exact List.mem_append_left _ (mem_addN ns v)
    · exact mem_foldN e _ v h
theorem foldN_mem : ∀ (e ns : List ByteArray), ∀ v ∈ e.foldl addN ns, v ∈ ns ∨ v ∈ e
  | [], ns, v, h => .inl h
  | u :: e, ns, v, h => by
    rw [List.foldl_cons] at h
    rcases foldN_mem e _ v h with h | h
    · unfold addN at h
      split at h
      · exact .inl h
      · rcases List.mem_append.1 h with h | h
        · exact .inl h
        · rw [List.mem_singleton] at h; exact .inr (by simp [h])
    · exact .inr (by simp [h])
theorem setN_bit (ns : List ByteArray) (i : Nat) : ∀ (e : List ByteArray) (s : Nat), (e.foldl (fun s v => s ||| bit (ns.idxOf v)) s).testBit i = true ↔ s.testBit i = true ∨ ∃ v ∈ e, ns.idxOf v = i
  | [], s => by simp
  | v :: e, s => by
    rw [List.foldl_cons, setN_bit ns i e, Nat.testBit_or, testBit_bit, Bool.or_eq_true, decide_eq_true_eq]
    simp [or_assoc]
theorem setN_iff (ns e : List ByteArray) (i : Nat) : (setN ns e).testBit i = true ↔ ∃ v ∈ e, ns.idxOf v = i := by
  unfold setN
  rw [setN_bit]
  simp
theorem setN_app {ns m e : List ByteArray} (h : ∀ v ∈ e, v ∈ ns) : setN (ns ++ m) e = setN ns e := by
  apply Nat.eq_of_testBit_eq
  intro i
  apply Bool.eq_iff_iff.2
  rw [setN_iff, setN_iff]
  constructor
  · rintro ⟨v, hv, hi⟩; exact ⟨v, hv, by rw [← hi, idxOf_app (h v hv)]⟩
  · rintro ⟨v, hv, hi⟩; exact ⟨v, hv, by rw [← hi, idxOf_app (h v hv)]⟩
theorem idxOf_inj {ns : List ByteArray} {u v : ByteArray} (hu : u ∈ ns) (h : ns.idxOf u = ns.idxOf v) : u = v := by
  have h1 := List.idxOf_lt_length_of_mem hu
  have h2 : ns.idxOf v < ns.length := by omega
  have e1 := List.getElem_idxOf h1
  have e2 := List.getElem_idxOf h2
  simp only [h] at e1
  rw [← e1, e2]
theorem setN_mem {ns e : List ByteArray} {v : ByteArray} (he : ∀ u ∈ e, u ∈ ns) : (setN ns e).testBit (ns.idxOf v) = true ↔ v ∈ e := by
  rw [setN_iff]
  constructor
  · rintro ⟨u, hu, hi⟩
    rw [← idxOf_inj (he u hu) hi]
    exact hu
  · exact fun h => ⟨v, h, rfl⟩
theorem setN_snoc (ns e : List ByteArray) (v : ByteArray) : setN ns (e ++ [v]) = setN ns e ||| bit (ns.idxOf v) := by
  unfold setN
  rw [List.foldl_append]
  rfl
theorem idxOf_addN (ns : List ByteArray) (v : ByteArray) : (addN ns v).idxOf v = ns.idxOf v := by
  unfold addN
  split
  · rfl
  · rename_i h
    rw [List.idxOf_append, if_neg h, List.idxOf_eq_length h]
    simp
theorem addN_length (ns : List ByteArray) (v : ByteArray) (hl : ns.length ≤ 12) : (addN ns v).length ≤ 12 ↔ ns.idxOf v < 12 := by
  unfold addN
  split
  · rename_i h
    have := List.idxOf_lt_length_of_mem h
    exact ⟨fun _ => by omega, fun _ => hl⟩
  · rename_i h
    rw [List.idxOf_eq_length h]
    simp
    omega
section
variable {p : ByteArray → Bool}
theorem readE_spec : ∀ (e pre ns : List ByteArray), ns.length ≤ 12 → (∀ v ∈ pre, v ∈ ns) → pre.Nodup →
    readE p e ns (setN ns pre) = if (e.all p && decide (pre ++ e).Nodup && decide ((e.foldl addN ns).length ≤ 12)) = true then some (e.foldl addN ns, setN (e.foldl addN ns) (pre ++ e)) else none
  | [], pre, ns, hl, hp, hd => by
    simp [readE, hl, hd]
  | v :: e, pre, ns, hl, hp, hd => by
    rw [readE]
    by_cases hc : (p v && decide (ns.idxOf v < 12) && !(setN ns pre).testBit (ns.idxOf v)) = true
    · rw [if_pos hc]
      simp only [Bool.and_eq_true, decide_eq_true_eq, Bool.not_eq_true'] at hc
      obtain ⟨⟨h1, h2⟩, h3⟩ := hc
      have hv : v ∉ pre := fun hv => by rw [(setN_mem hp).2 hv] at h3; cases h3
      obtain ⟨m, hm⟩ := addN_ext ns v
      have hp2 : ∀ u ∈ pre ++ [v], u ∈ addN ns v := by
        intro u hu
        rcases List.mem_append.1 hu with hu | hu
        · rw [hm]; exact List.mem_append_left _ (hp u hu)
        · rw [List.mem_singleton] at hu; rw [hu]; exact mem_addN ns v
      have hset : setN ns pre ||| bit (ns.idxOf v) = setN (addN ns v) (pre ++ [v]) := by
        rw [setN_snoc, idxOf_addN, hm, setN_app hp]
      have hd2 : (pre ++ [v]).Nodup := by
        rw [List.nodup_append]
        exact ⟨hd, by simp, fun a ha b hb => by rw [List.mem_singleton] at hb; rintro rfl; exact hv (hb ▸ ha)⟩
      rw [hset, readE_spec e (pre ++ [v]) (addN ns v) ((addN_length ns v hl).2 h2) hp2 hd2]
      simp only [List.all_cons, h1, Bool.true_and, List.append_assoc, List.singleton_append]
      rfl
    · rw [if_neg hc]
      refine (if_neg ?_).symm
      intro h
      apply hc
      simp only [List.all_cons, Bool.and_eq_true, decide_eq_true_eq, List.foldl_cons] at h
      obtain ⟨⟨⟨h1, _⟩, h2⟩, h3⟩ := h
      have hlen : (addN ns v).length ≤ 12 := by
        obtain ⟨m, hm⟩ := foldN_ext e (addN ns v)
        have h3 := of_decide_eq_true h3
        rw [hm, List.length_append] at h3
        omega
      have hv : v ∉ pre := by
        intro hv
        rw [List.nodup_append] at h2
        exact h2.2.2 v hv v (by simp) rfl
      have h4 : (setN ns pre).testBit (ns.idxOf v) = false := by
        apply Bool.eq_false_iff.2
        intro h; exact hv ((setN_mem hp).1 h)
      simp only [Bool.and_eq_true, decide_eq_true_eq, Bool.not_eq_true']
      exact ⟨⟨h1, (addN_length ns v hl).1 hlen⟩, h4⟩
theorem readL_spec : ∀ (l : List (List ByteArray)) (pre : List (List ByteArray)) (ns : List ByteArray), ns.length ≤ 12 → (∀ e ∈ pre, ∀ v ∈ e, v ∈ ns) →
    readL p l ns (pre.map (setN ns)) = if (l.all (unlikeR p) && decide ((l.flatten.foldl addN ns).length ≤ 12)) = true then some (l.flatten.foldl addN ns, (pre ++ l).map (setN (l.flatten.foldl addN ns))) else none
  | [], pre, ns, hl, hp => by simp [readL, hl]
  | e :: l, pre, ns, hl, hp => by
    rw [readL]
    have h0 := readE_spec (p := p) e [] ns hl (by simp) (by simp)
    rw [show setN ns [] = 0 from rfl, List.nil_append] at h0
    rw [h0]
    have hfl : (e :: l).flatten.foldl addN ns = l.flatten.foldl addN (e.foldl addN ns) := by rw [List.flatten_cons, List.foldl_append]
    rw [hfl]
    obtain ⟨m, hm⟩ := foldN_ext e ns
    obtain ⟨m2, hm2⟩ := foldN_ext l.flatten (e.foldl addN ns)
    by_cases hc : (e.all p && decide e.Nodup && decide ((e.foldl addN ns).length ≤ 12)) = true
    · rw [if_pos hc]
      simp only [Bool.and_eq_true, decide_eq_true_eq] at hc
      obtain ⟨⟨h1, h2⟩, h3⟩ := hc
      have hp2 : ∀ x ∈ pre ++ [e], ∀ v ∈ x, v ∈ e.foldl addN ns := by
        intro x hx v hv
        rcases List.mem_append.1 hx with hx | hx
        · rw [hm]; exact List.mem_append_left _ (hp x hx v hv)
        · rw [List.mem_singleton] at hx; subst hx; exact mem_foldN _ ns v hv
      have hmap : pre.map (setN ns) ++ [setN (e.foldl addN ns) e] = (pre ++ [e]).map (setN (e.foldl addN ns)) := by
        rw [List.map_append, List.map_singleton]
        congr 1
        apply List.map_congr_left
        intro x hx
        rw [hm, setN_app (hp x hx)]
      show readL p l (e.foldl addN ns) (pre.map (setN ns) ++ [setN (e.foldl addN ns) e]) = _
      rw [hmap, readL_spec l (pre ++ [e]) _ h3 hp2]
      have hu : unlikeR p e = true := by unfold unlikeR; simp only [Bool.and_eq_true, decide_eq_true_eq]; exact ⟨h1, h2⟩
      simp [hu]
    · rw [if_neg hc]
      show none = _
      refine (if_neg ?_).symm
      intro h
      apply hc
      simp only [List.all_cons, Bool.and_eq_true, decide_eq_true_eq] at h
      obtain ⟨⟨h1, _⟩, h3⟩ := h
      unfold unlikeR at h1
      rw [h1, Bool.true_and, decide_eq_true_eq]
      rw [hm2, List.length_append] at h3
      omega
theorem readG_spec (E : List (List ByteArray)) : readG p E = if mayR p E = true then some (varsR E, E.map (setN (varsR E))) else none := by
  unfold readG
  have h := readL_spec (p := p) E [] [] (by simp) (by simp)
  rw [List.map_nil, List.nil_append] at h
  rw [h]
  by_cases h8 : E.length ≤ 8
  · rw [if_pos h8]
    have hiff : mayR p E = (E.all (unlikeR p) && decide ((E.flatten.foldl addN []).length ≤ 12)) := by
      apply Bool.eq_iff_iff.2
      unfold mayR varsR
      simp only [Bool.and_eq_true, decide_eq_true_eq, List.all_eq_true]
      constructor
      · rintro ⟨⟨_, h1⟩, h2⟩; exact ⟨fun e he => (h1 e he).2, h2⟩
      · rintro ⟨h1, h2⟩
        refine ⟨⟨h8, fun e he => ⟨?_, h1 e he⟩⟩, h2⟩
        have hu := h1 e he
        unfold unlikeR at hu
        simp only [Bool.and_eq_true, decide_eq_true_eq] at hu
        have := List.Nodup.length_le_of_subset hu.2 (fun v hv => mem_foldN E.flatten [] v (List.mem_flatten.2 ⟨e, he, hv⟩))
        omega
    rw [hiff]
    rfl
  · rw [if_neg h8]
    refine (if_neg ?_).symm
    intro h
    unfold mayR at h
    simp only [Bool.and_eq_true, decide_eq_true_eq] at h
    exact h8 h.1.1
end
end Go.Proofs.Ytnocncmjdhlmkaa.hyp
