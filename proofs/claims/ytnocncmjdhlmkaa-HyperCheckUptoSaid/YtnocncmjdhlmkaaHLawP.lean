/- Laws of widths (plain): any turn, any order of the edges, an edge more. -/
import Derived.Test.YtnocncmjdhlmkaaHEdge
import Derived.Test.YtnocncmjdhlmkaaHypG
namespace Go.Proofs.Ytnocncmjdhlmkaa.hyp
open Go.ChangeShapes Go.WideShapes Go.ChangeAt Go.RowKit kit
set_option linter.unusedVariables false
set_option linter.unusedSimpArgs false
theorem le_of_iff {a b : Nat} (h : ∀ k, a ≤ k ↔ b ≤ k) : a = b := Nat.le_antisymm ((h b).2 (Nat.le_refl _)) ((h a).1 (Nat.le_refl _))
theorem wid_turn {E : List Nat} {all : Nat} (g : Good E all) (t u : Nat) : widN E t all = widN E u all :=
  le_of_iff fun k => (wid_iff g t k all all (Nat.le_refl _) g.hall (Sub.refl _)).trans (wid_iff g u k all all (Nat.le_refl _) g.hall (Sub.refl _)).symm
theorem vars_iff (E : List (List ByteArray)) (v : ByteArray) : v ∈ varsR E ↔ ∃ e ∈ E, v ∈ e := ⟨fun h => vars_mem h, fun ⟨e, he, hv⟩ => mem_vars he hv⟩
/-- The same edges in another order. -/
def SameE (E F : List (List ByteArray)) : Prop := E.length = F.length ∧ ∀ e, e ∈ E ↔ e ∈ F
theorem SameE.symm {E F : List (List ByteArray)} (h : SameE E F) : SameE F E := ⟨h.1.symm, fun e => (h.2 e).symm⟩
theorem SameE.vars {E F : List (List ByteArray)} (h : SameE E F) (v : ByteArray) : v ∈ varsR E ↔ v ∈ varsR F := by
  rw [vars_iff, vars_iff]
  exact ⟨fun ⟨e, he, hv⟩ => ⟨e, (h.2 e).1 he, hv⟩, fun ⟨e, he, hv⟩ => ⟨e, (h.2 e).2 he, hv⟩⟩
theorem SameE.len {E F : List (List ByteArray)} (h : SameE E F) : (varsR E).length = (varsR F).length :=
  List.Perm.length_eq ((List.perm_ext_iff_of_nodup vars_nodup vars_nodup).2 h.vars)
theorem SameE.may {E F : List (List ByteArray)} (h : SameE E F) (hm : mayR nameB E = true) : mayR nameB F = true := by
  unfold mayR at hm ⊢
  rw [Bool.and_eq_true, Bool.and_eq_true, List.all_eq_true] at hm ⊢
  obtain ⟨⟨h1, h2⟩, h3⟩ := hm
  rw [← h.1, ← h.len]
  exact ⟨⟨h1, fun e he => h2 e ((h.2 e).2 he)⟩, h3⟩
theorem all_bit (E : List (List ByteArray)) (i : Nat) : (allR E).testBit i = decide (i < (varsR E).length) := by unfold allR; rw [full_bit]
theorem getD_in {l : List ByteArray} {i : Nat} (h : i < l.length) : l.getD i ByteArray.empty = l[i] := by rw [List.getD_eq_getElem?_getD, List.getElem?_eq_getElem h, Option.getD_some]
theorem ren_map {ns ms : List ByteArray} (hn : ns.Nodup) (hm : ms.Nodup) (hv : ∀ v, v ∈ ns → v ∈ ms) {i : Nat} (hi : i < ns.length) :
    ms.idxOf (ns.getD i ByteArray.empty) < ms.length ∧ ns.idxOf (ms.getD (ms.idxOf (ns.getD i ByteArray.empty)) ByteArray.empty) = i := by
  rw [getD_in hi]
  have h1 := List.idxOf_lt_length_of_mem (hv _ (List.getElem_mem hi))
  refine ⟨h1, ?_⟩
  rw [getD_in h1, List.getElem_idxOf h1, List.Nodup.idxOf_getElem hn]
theorem set_bit {ns e : List ByteArray} (hn : ns.Nodup) (he : ∀ v ∈ e, v ∈ ns) {i : Nat} (hi : i < ns.length) : (setN ns e).testBit i = decide (ns[i] ∈ e) := by
  have h := setN_mem (v := ns[i]) he
  rw [List.Nodup.idxOf_getElem hn] at h
  apply Bool.eq_iff_iff.2
  rw [h, decide_eq_true_eq]
theorem same_ren {E F : List (List ByteArray)} (h : SameE E F) (hE : mayR nameB E = true) (hF : mayR nameB F = true) :
    Ren (setsR E) (setsR F) (allR E) (allR F) (fun i => (varsR F).idxOf ((varsR E).getD i ByteArray.empty)) (fun j => (varsR E).idxOf ((varsR F).getD j ByteArray.empty)) := by
  have gE := good_of hE
  have gF := good_of hF
  have key : ∀ (E F : List (List ByteArray)), SameE E F → mayR nameB E = true → ∀ e ∈ E, ∀ i, (allR E).testBit i = true → (setN (varsR F) e).testBit ((varsR F).idxOf ((varsR E).getD i ByteArray.empty)) = (setN (varsR E) e).testBit i := by
    intro E F h hE e he i hi
    rw [all_bit, decide_eq_true_eq] at hi
    rw [set_bit vars_nodup (fun v hv => mem_vars he hv) hi, getD_in hi]
    apply Bool.eq_iff_iff.2
    rw [setN_mem (fun v hv => mem_vars ((h.2 e).1 he) hv), decide_eq_true_eq]
  refine ⟨gE.hE, gF.hE, gE.hall, gF.hall, ?_, ?_, ?_, ?_, ?_, ?_⟩
  · intro e he i hi
    exact (gE.hcov i).2 ⟨e, he, hi⟩
  · intro e he i hi
    exact (gF.hcov i).2 ⟨e, he, hi⟩
  · intro i hi
    rw [all_bit, decide_eq_true_eq] at hi
    obtain ⟨h1, h2⟩ := ren_map (ms := varsR F) vars_nodup vars_nodup (fun v hv => (h.vars v).1 hv) hi
    exact ⟨by rw [all_bit, decide_eq_true_eq]; exact h1, h2⟩
  · intro i hi
    rw [all_bit, decide_eq_true_eq] at hi
    obtain ⟨h1, h2⟩ := ren_map (ms := varsR E) vars_nodup vars_nodup (fun v hv => (h.vars v).2 hv) hi
    exact ⟨by rw [all_bit, decide_eq_true_eq]; exact h1, h2⟩
  · intro e he
    obtain ⟨t, ht, rfl⟩ := List.mem_map.1 he
    exact ⟨_, List.mem_map.2 ⟨t, (h.2 t).1 ht, rfl⟩, fun i hi => key E F h hE t ht i hi⟩
  · intro f hf
    obtain ⟨t, ht, rfl⟩ := List.mem_map.1 hf
    exact ⟨_, List.mem_map.2 ⟨t, (h.2 t).2 ht, rfl⟩, fun i hi => key E F h hE t ((h.2 t).2 ht) i hi⟩
theorem same_le {E F : List (List ByteArray)} (h : SameE E F) (hE : mayR nameB E = true) (hF : mayR nameB F = true) (t k : Nat) (hw : widN (setsR E) t (allR E) ≤ k) : widN (setsR F) t (allR F) ≤ k := by
  have gE := good_of hE
  have gF := good_of hF
  have hr := same_ren h hE hF
  have h1 := (wid_iff gE t k _ _ (Nat.le_refl _) gE.hall (Sub.refl _)).1 hw
  exact (wid_iff gF t k _ _ (Nat.le_refl _) gF.hall (Sub.refl _)).2 (hr.wp h1 gE.hall (Sub.refl _) _ gF.hall (Sub.refl _) (fun i hi => by rw [hi]; exact (hr.hσ i hi).1))
/-- In another order the width is the same. -/
theorem same_wid {E F : List (List ByteArray)} (h : SameE E F) (hE : mayR nameB E = true) : mayR nameB F = true ∧ ∀ t, widN (setsR F) t (allR F) = widN (setsR E) t (allR E) := by
  have hF := h.may hE
  exact ⟨hF, fun t => le_of_iff fun k => ⟨same_le h.symm hF hE t k, same_le h hE hF t k⟩⟩
theorem addN_same {ns : List ByteArray} : ∀ e : List ByteArray, (∀ v ∈ e, v ∈ ns) → e.foldl addN ns = ns
  | [], _ => rfl
  | v :: e, h => by
    have h1 : addN ns v = ns := by unfold addN; rw [if_pos (h v (List.mem_cons_self ..))]
    rw [List.foldl_cons, h1]
    exact addN_same e fun u hu => h u (List.mem_cons_of_mem _ hu)
/-- An edge more of the same variables: variables and sets. -/
theorem vars_more {E : List (List ByteArray)} {p : List ByteArray} (hp : ∀ v ∈ p, v ∈ varsR E) : varsR (E ++ [p]) = varsR E := by
  unfold varsR
  rw [List.flatten_append, List.foldl_append]
  simp only [List.flatten_cons, List.flatten_nil, List.append_nil]
  exact addN_same p hp
theorem sets_more {E : List (List ByteArray)} {p : List ByteArray} (hp : ∀ v ∈ p, v ∈ varsR E) : setsR (E ++ [p]) = setsR E ++ [setN (varsR E) p] := by
  unfold setsR
  rw [vars_more hp, List.map_append]
  rfl
theorem all_more {E : List (List ByteArray)} {p : List ByteArray} (hp : ∀ v ∈ p, v ∈ varsR E) : allR (E ++ [p]) = allR E := by unfold allR; rw [vars_more hp]
theorem may_more {E : List (List ByteArray)} {p : List ByteArray} (hm : mayR nameB E = true) (h8 : E.length < 8) (hp : ∀ v ∈ p, v ∈ varsR E) (hl : p.length ≤ 12) (hn : p.Nodup) : mayR nameB (E ++ [p]) = true := by
  have hparts := may_parts hm
  have hnm : unlikeR nameB p = true := by
    unfold unlikeR
    rw [Bool.and_eq_true, List.all_eq_true, decide_eq_true_eq]
    refine ⟨fun v hv => ?_, hn⟩
    obtain ⟨e, he, hve⟩ := vars_mem (hp v hv)
    exact (hparts.2.1 e he).2.2 v hve
  unfold mayR at hm ⊢
  rw [vars_more hp]
  rw [Bool.and_eq_true, Bool.and_eq_true, List.all_eq_true] at hm ⊢
  refine ⟨⟨decide_eq_true (by rw [List.length_append]; simp; omega), fun e he => ?_⟩, hm.2⟩
  rcases List.mem_append.1 he with he | he
  · exact hm.1.2 e he
  · rw [List.mem_singleton.1 he, hnm, decide_eq_true hl]; rfl
theorem setN_mono {ns a b : List ByteArray} (h : ∀ v ∈ a, v ∈ b) : Sub (setN ns a) (setN ns b) := fun i hi => by
  obtain ⟨v, hv, e⟩ := (setN_iff ns a i).1 hi
  exact (setN_iff ns b i).2 ⟨v, h v hv, e⟩
/-- An edge more within another one changes nothing. -/
theorem part_wid {E : List (List ByteArray)} {p e : List ByteArray} (hm : mayR nameB E = true) (h8 : E.length < 8) (he : e ∈ E) (hp : ∀ v ∈ p, v ∈ e) (hn : p.Nodup) (hl : p.length ≤ 12) :
    mayR nameB (E ++ [p]) = true ∧ ∀ t, widN (setsR (E ++ [p])) t (allR (E ++ [p])) = widN (setsR E) t (allR E) := by
  have hpv : ∀ v ∈ p, v ∈ varsR E := fun v hv => mem_vars he (hp v hv)
  have hM := may_more hm h8 hpv hl hn
  have g := good_of hm
  have gM := good_of hM
  refine ⟨hM, fun t => ?_⟩
  have e1 := sets_more hpv
  have e2 := all_more hpv
  have w1 : Within (setsR E) (setsR (E ++ [p])) := fun x hx => .inr ⟨x, by rw [e1]; exact List.mem_append_left _ hx, Sub.refl _⟩
  have w2 : Within (setsR (E ++ [p])) (setsR E) := fun x hx => by
    rw [e1] at hx
    rcases List.mem_append.1 hx with hx | hx
    · exact .inr ⟨x, hx, Sub.refl _⟩
    · rw [List.mem_singleton.1 hx]
      exact .inr ⟨_, List.mem_map.2 ⟨e, he, rfl⟩, setN_mono hp⟩
  refine le_of_iff fun k => ?_
  rw [wid_iff gM t k _ _ (Nat.le_refl _) gM.hall (Sub.refl _), wid_iff g t k _ _ (Nat.le_refl _) g.hall (Sub.refl _), e2]
  exact ⟨fun h => h.within gM.hE g.hE w2 w1 g.hall, fun h => h.within g.hE gM.hE w1 w2 g.hall⟩
theorem wp_one {E : List Nat} {all f : Nat} (g : Good E all) (hf : f ∈ E) (hs : Sub all f) : ∀ n out, out ≤ n → out < 65536 → Sub out all → WP E 1 out := by
  intro n
  induction n with
  | zero =>
    intro out h _ _
    obtain rfl : out = 0 := by omega
    exact .nil
  | succ n ih =>
    intro out h ho hsub
    by_cases h0 : out = 0
    · subst h0; exact .nil
    · obtain ⟨v, hv⟩ : ∃ v, out.testBit v = true := Nat.exists_testBit_of_ne_zero h0
      have hv16 := lt16 ho hv
      have hlt := minus_bit_lt ho hv
      have hsub2 : Sub (minus out (bit v)) all := fun i hi => by
        rw [testBit_minus ho (bit_lt hv16), Bool.and_eq_true] at hi
        exact hsub i hi.1
      refine .step hv (ih _ (by omega) (minus_lt _ _ ho) hsub2) ⟨[f], by simp, fun e he => by rw [List.mem_singleton.1 he]; exact hf, fun x hx => ⟨f, by simp, ?_⟩⟩
      obtain ⟨e, he, hi⟩ := bag_in g hsub ho hv x hx
      exact hs x ((g.hcov x).2 ⟨e, he, hi⟩)
/-- One edge of all variables makes it 1, or 0 where there is none. -/
theorem all_wid {E : List (List ByteArray)} (hm : mayR nameB E = true) (h8 : E.length < 8) :
    mayR nameB (E ++ [varsR E]) = true ∧ ∀ t, widN (setsR (E ++ [varsR E])) t (allR (E ++ [varsR E])) = if varsR E = [] then 0 else 1 := by
  have hpv : ∀ v ∈ varsR E, v ∈ varsR E := fun v hv => hv
  have hM := may_more hm h8 hpv (may_parts hm).2.2 vars_nodup
  have gM := good_of hM
  refine ⟨hM, fun t => ?_⟩
  have e1 := sets_more hpv
  have e2 := all_more hpv
  by_cases h0 : varsR E = []
  · rw [if_pos h0, e2]
    have : allR E = 0 := by unfold allR; rw [h0]; rfl
    rw [this]
    rfl
  · rw [if_neg h0]
    have hne : allR (E ++ [varsR E]) ≠ 0 := by
      rw [e2]
      intro h
      have h1 := all_bit E 0
      rw [h, Nat.zero_testBit] at h1
      have := of_decide_eq_false h1.symm
      have := List.length_pos_iff.2 h0
      omega
    have h1 := wid_pos (turn := t) gM hne
    have hsub : Sub (allR (E ++ [varsR E])) (setN (varsR E) (varsR E)) := fun i hi => by
      rw [e2, all_bit, decide_eq_true_eq] at hi
      rw [set_bit vars_nodup hpv hi]
      exact decide_eq_true (List.getElem_mem hi)
    have h2 := (wid_iff gM t 1 _ _ (Nat.le_refl _) gM.hall (Sub.refl _)).2 (wp_one gM (by rw [e1]; simp) hsub _ _ (Nat.le_refl _) gM.hall (Sub.refl _))
    omega
/-- The width is at most the number of edges. -/
theorem wid_few {E : List (List ByteArray)} (hm : mayR nameB E = true) (t : Nat) : widN (setsR E) t (allR E) ≤ E.length := by
  have := wid_edges (good_of hm) t
  unfold setsR at this
  rw [List.length_map] at this
  exact this
theorem rev_same (E : List (List ByteArray)) : SameE E E.reverse := ⟨by simp, fun e => by simp⟩
end Go.Proofs.Ytnocncmjdhlmkaa.hyp
