/- A region that draws its order, where what is read is written at its end: what is known of the world (S) must hold only till one of the late operations (L) has come up. (Turned from the kit's law on regions with a condition on the world.) -/
import Derived.Test.YtnocncmjdhlmkaaKit
import Derived.Deep.RegionHeld
namespace Go.Proofs.Ytnocncmjdhlmkaa.kit
open Go
set_option linter.unusedVariables false
set_option linter.unusedSimpArgs false
section
variable {P : Program} {ops : Array Oper} {Q : Exit → Act → World → Prop} {md : Region.Mode} {S : World → Prop} {L : List Nat}
/-- None of the late ones has come up. -/
def young (L : List Nat) (listed : Array Bool) : Bool := L.all fun l => listed.getD l true == false
/-- Each late one waits for number i. -/
def waits (md : Region.Mode) (ops : Array Oper) (L : List Nat) (i : Nat) : Bool :=
  L.all fun l => l != i && match ops[l]? with | some o => o.after.any (fun e => Region.binds md e && e.on == i) | none => false
def wpAnyL (P : Program) (md : Region.Mode) (ops : Array Oper) (Q : Exit → Act → World → Prop) (S : World → Prop) (L : List Nat) : Nat → Array Bool → Act → World → Prop
  | 0, listed, a, w => Region.ready md ops listed = [] ∧ Q .normal a w
  | fuel + 1, listed, a, w =>
    (Region.ready md ops listed = [] → Q .normal a w) ∧
    ∀ i ∈ Region.ready md ops listed, wpOp P ops Q i (fun a' w' => (young L (listed.setIfInBounds i true) = true → S w') ∧ wpAnyL P md ops Q S L fuel (listed.setIfInBounds i true) a' w') a w
theorem wpAny_of_late : ∀ (fuel : Nat) (listed : Array Bool) (a : Act) (w : World), wpAnyL P md ops Q S L fuel listed a w → wpAny P md ops Q fuel listed a w
  | 0, _, _, _, h => h
  | fuel + 1, _, _, _, h => ⟨h.1, fun i hi => wpOp_mono (fun a' w' h' => wpAny_of_late fuel _ a' w' h'.2) (h.2 i hi)⟩
theorem young_set {listed : Array Bool} {j : Nat} (h : young L listed = true) (hj : ∀ l ∈ L, l ≠ j) : young L (listed.setIfInBounds j true) = true := by
  unfold young at *
  rw [List.all_eq_true] at *
  intro l hl
  have := h l hl
  rwa [getD_set_ne true (fun e => hj l hl e.symm)]
theorem wpAnyL_first {i : Nat} {oi : Oper} {v : Value} (hi : ops[i]? = some oi) (hsel : ∀ (j : Nat) (o : Oper) cs b, ops[j]? = some o → o.op ≠ .select cs b)
    (hQ : ∀ c a w, Q (.panic c) (a.put oi.dst v) w → Q (.panic c) a w) (hwt : waits md ops L i = true) :
    ∀ (fuel : Nat) (listed : Array Bool) (a : Act) (w : World),
      (∀ j oj, ops[j]? = some oj → j ≠ i → listed.getD j true = false → (∀ e ∈ oj.after, Region.binds md e = true → e.on ≠ i) → oi.apart ops oj = true) →
      i ∈ Region.ready md ops listed → YieldsIf P ops S oi v a → young L listed = true → S w →
      wpAnyL P md ops Q S L fuel (listed.setIfInBounds i true) (a.put oi.dst v) w → wpAnyL P md ops Q S L (fuel + 1) listed a w := by
  intro fuel
  have hLi : ∀ l ∈ L, l ≠ i := by
    intro l hl
    have := List.all_eq_true.1 hwt l hl
    simp only [Bool.and_eq_true, bne_iff_ne] at this
    exact this.1
  induction fuel with
  | zero =>
    intro listed a w _ hr hy hyo hS H
    refine ⟨fun h => (by rw [h] at hr; cases hr), fun j hj => ?_⟩
    by_cases hji : j = i
    · subst hji; exact hy.wpOp hi hS ⟨fun _ => hS, H⟩
    · have := ready_mono hj hji
      rw [H.1] at this
      cases this
  | succ fuel ih =>
    intro listed a w hfree hr hy hyo hS H
    refine ⟨fun h => (by rw [h] at hr; cases hr), fun j hj => ?_⟩
    by_cases hji : j = i
    · subst hji; exact hy.wpOp hi hS ⟨fun _ => hS, H⟩
    · have h1 := H.2 j (ready_mono hj hji)
      obtain ⟨hjun, oj, hoj, hall⟩ := mem_ready.1 hj
      have hnot : ∀ e ∈ oj.after, Region.binds md e = true → e.on ≠ i := fun e he hb heq => by
        have h1 := hall e he hb
        have h0 := (mem_ready.1 hr).1
        rw [heq] at h1
        rcases Nat.lt_or_ge i listed.size with h' | h'
        · simp [h'] at h0 h1; rw [h0] at h1; cases h1
        · simp [Array.getElem?_eq_none h'] at h1
      have hLj : ∀ l ∈ L, l ≠ j := by
        intro l hl e
        subst e
        have := List.all_eq_true.1 hwt l hl
        rw [hoj] at this
        simp only [Bool.and_eq_true, Array.any_eq_true] at this
        obtain ⟨_, k, hk, hb, hon⟩ := this
        exact hnot _ (Array.getElem_mem hk) hb (by simpa using hon)
      have h2 := wpOp_putIf hoj (hfree j oj hoj hji hjun hnot) (fun cs b => hsel i oi cs b hi) (fun cs b => hsel j oj cs b hoj) hQ hy h1
      have hfree' : ∀ k ok, ops[k]? = some ok → k ≠ i → (listed.setIfInBounds j true).getD k true = false →
          (∀ e ∈ ok.after, Region.binds md e = true → e.on ≠ i) → oi.apart ops ok = true := fun k ok hk hki hun hno => by
        refine hfree k ok hk hki ?_ hno
        by_cases hjk : j = k
        · subst hjk; exact hjun
        · rw [getD_set_ne true hjk] at hun; exact hun
      refine wpOp_mono (fun a' w' h3 => ?_) h2
      have hS' := h3.2.1 (young_set (young_set hyo hLi) hLj)
      refine ⟨fun _ => hS', ih (listed.setIfInBounds j true) a' w' hfree' (ready_mono hr (Ne.symm hji)) h3.1 (young_set hyo hLj) hS' ?_⟩
      rw [Array.setIfInBounds_comm _ _ hji]
      exact h3.2.2
theorem wpAnyL_take {i : Nat} {oi : Oper} {v : Value} {fuel : Nat} {listed : Array Bool} {a : Act} {w : World} (hi : ops[i]? = some oi)
    (hs : Region.noSelect ops = true) (hf : Region.free md ops listed i = true) (hr : (Region.ready md ops listed).contains i = true) (hwt : waits md ops L i = true) (hyo : young L listed = true)
    (hQ : ∀ c a w, Q (.panic c) (a.put oi.dst v) w → Q (.panic c) a w) (hy : YieldsIf P ops S oi v a) (hS : S w)
    (h : wpAnyL P md ops Q S L fuel (listed.setIfInBounds i true) (a.put oi.dst v) w) : wpAnyL P md ops Q S L (fuel + 1) listed a w :=
  wpAnyL_first hi (Region.noSelect_spec hs) hQ hwt fuel listed a w (Region.free_spec hi hf) (by simpa using hr) hy hyo hS h
theorem wpAnyL_done {listed : Array Bool} {a : Act} {w : World} (hr : Region.ready md ops listed = []) (h : Q .normal a w) :
    ∀ fuel, wpAnyL P md ops Q S L fuel listed a w
  | 0 => ⟨hr, h⟩
  | _ + 1 => ⟨fun _ => h, by rw [hr]; simp⟩
/-- One operation comes up, and none else may; it is no late one, or S holds behind it all the same. -/
theorem wpAnyL_ready {i : Nat} {o : Oper} {fuel : Nat} {listed : Array Bool} {a : Act} {w : World} (hr : Region.ready md ops listed = [i]) (ho : ops[i]? = some o)
    (h : ∀ K' : Act → World → Prop, Shut (∀ a w, S w → (S w → wpAnyL P md ops Q S L fuel (listed.setIfInBounds i true) a w) → K' a w) → if Region.wanted o (yielded ops a.tmps) = true then Oper.wp P o a w K' Q else K' (a.put o.dst undef) w) :
    wpAnyL P md ops Q S L (fuel + 1) listed a w := by
  refine ⟨fun h0 => (by rw [hr] at h0; cases h0), fun j hj => ?_⟩
  rw [hr, List.mem_singleton] at hj
  subst hj
  exact wpOp_step ho (fun K' hK => h K' (fun a w hS hW => hK a w ⟨fun _ => hS, hW hS⟩))
/-- A late one comes up, or one behind it. -/
theorem wpAnyL_late {i : Nat} {o : Oper} {fuel : Nat} {listed : Array Bool} {a : Act} {w : World} (hr : Region.ready md ops listed = [i]) (ho : ops[i]? = some o) (hyo : young L (listed.setIfInBounds i true) = false)
    (h : ∀ K' : Act → World → Prop, Shut (∀ a w, wpAnyL P md ops Q S L fuel (listed.setIfInBounds i true) a w → K' a w) → if Region.wanted o (yielded ops a.tmps) = true then Oper.wp P o a w K' Q else K' (a.put o.dst undef) w) :
    wpAnyL P md ops Q S L (fuel + 1) listed a w := by
  refine ⟨fun h0 => (by rw [hr] at h0; cases h0), fun j hj => ?_⟩
  rw [hr, List.mem_singleton] at hj
  subst hj
  exact wpOp_step ho (fun K' hK => h K' (fun a w hW => hK a w ⟨(fun h => absurd (hyo.symm.trans h) Bool.false_ne_true), hW⟩))
theorem wp_region_late {id : Nat} {a : Act} {w : World} (L : List Nat) (hm : P.follows .mixedOrders = true) (hS : S w.drew)
    (h : S w.drew → wpAnyL P .any ops Q S L ops.size (Array.replicate ops.size false) a w.drew) : (Code.region id ops true).wp P Q a w :=
  wp_region_any hm (wpAny_of_late _ _ _ _ (h hS))
end
end Go.Proofs.Ytnocncmjdhlmkaa.kit
