/- Edges in rows of one's own; widths of closed hypergraphs. -/
import Derived.Test.YtnocncmjdhlmkaaHWake
import Derived.Maps.AppendAt
namespace Go.Proofs.Ytnocncmjdhlmkaa.hyp
open Go.ChangeShapes Go.WideShapes Go.ChangeAt Go.RowKit kit
set_option linter.unusedVariables false
set_option linter.unusedSimpArgs false
/-- Edges in rows of one's own. -/
def EdgesO (w : World) (B : Nat) (v : Value) (E : List (List ByteArray)) : Prop :=
  ∃ vs : List Value, vs.length = E.length ∧ w.ownsRow B 35 1 v E.length vs ∧ ∀ j (h : j < E.length) (h' : j < vs.length), w.ownsRow B 9 1 vs[j] E[j].length (textsV E[j])
theorem EdgesO.nil (w : World) (B : Nat) : EdgesO w B (.slice none 0 0) [] := ⟨[], rfl, World.ownsRow_nil _ _ _ _, fun j h => by simp at h⟩
theorem EdgesO.below {w w' : World} {B : Nat} {v : Value} {E : List (List ByteArray)} (h : EdgesO w B v E) (hb : Below w.heap.size w w') : EdgesO w' B v E := by
  obtain ⟨vs, h1, h2, h3⟩ := h
  have hg := grown_below hb
  exact ⟨vs, h1, h2.kept hg (by cases v.ownBlock <;> simp), fun j hj hj' => (h3 j hj hj').kept hg (by cases vs[j].ownBlock <;> simp)⟩
theorem EdgesO.form {w : World} {B : Nat} {v : Value} {E : List (List ByteArray)} (h : EdgesO w B v E) : ∃ a c, v = .slice a E.length c := by
  obtain ⟨vs, h1, h2, h3⟩ := h
  exact own_form3 h2
/-- Another row of edges may grow. -/
theorem EdgesO.other {w w' : World} {B B' : Nat} {v u : Value} {E : List (List ByteArray)} {n : Nat} {xs : List Value} (h : EdgesO w B v E) (hr : w.ownsRow B' 35 1 u n xs) (hg : w.grownBy w' u.ownBlock) (hne : v.ownBlock = none ∨ v.ownBlock ≠ u.ownBlock) : EdgesO w' B v E := by
  obtain ⟨vs, h1, h2, h3⟩ := h
  exact ⟨vs, h1, h2.kept hg hne, fun j hj hj' => (h3 j hj hj').kept hg (own_apart3 (h3 j hj hj') hr (by decide))⟩
/-- An edge more. -/
theorem EdgesO.push {w w1 : World} {B : Nat} {v v' x : Value} {E : List (List ByteArray)} {xs : List Value} (h : EdgesO w B v E) (hrow : w.ownsRow B 35 1 v E.length xs) (o : Obj) (e : List ByteArray) (hx : w.ownsRow B 9 1 x e.length (textsV e))
    (h1 : w1.ownsRow B 35 1 v' (E.length + 1) (xs ++ [x])) (h2 : (w.alloc o).grownBy w1 v.ownBlock) : EdgesO w1 B v' (E ++ [e]) := by
  obtain ⟨vs, hl, hr, hel⟩ := h
  obtain rfl := own_unique hr hrow
  have hrowa := hr.alloc o
  refine ⟨vs ++ [x], by rw [List.length_append, List.length_append, hl]; rfl, by rw [List.length_append]; exact h1, fun j hj hj' => ?_⟩
  by_cases hjb : j < E.length
  · have h3 := hel j hjb (by omega)
    simp only [List.getElem_append_left hjb, List.getElem_append_left (show j < vs.length by omega)]
    exact (h3.alloc o).kept h2 (own_apart3 (h3.alloc o) hrowa (by decide))
  · have hje : j = E.length := by rw [List.length_append] at hj; simp at hj; omega
    subst hje
    simp only [List.getElem_append_right (Nat.le_refl _), Nat.sub_self, List.getElem_cons_zero]
    have e0 : (vs ++ [x])[E.length]'hj' = x := by
      rw [List.getElem_append_right (by omega)]
      simp [hl]
    rw [e0]
    exact (hx.alloc o).kept h2 (own_apart3 (hx.alloc o) hrowa (by decide))
theorem EdgesO.read {w : World} {B : Nat} {v : Value} {E : List (List ByteArray)} (h : EdgesO w B v E) (hs : ∀ e ∈ E, ∀ s ∈ e, s.size ≤ maxLen) : EdgesA w w.heap.size v E := by
  obtain ⟨vs, h1, h2, h3⟩ := h
  refine ⟨vs, h1, own_row (by rw [h1]; exact h2), fun j hj hj' => ⟨own_row (by rw [textsV_length]; exact h3 j hj hj'), hs _ (List.getElem_mem hj)⟩⟩
/-- A new block is a row of one's own. -/
theorem own_new {w : World} {B b : Nat} {cs : Array Value} {t : TypeId} (h : Blk w b cs t) (hB : B ≤ b) (hm : cs.size ≤ maxLen) : w.ownsRow B t 1 (.slice (some ⟨b, 0, none⟩) cs.size cs.size) cs.size cs.toList :=
  ⟨by simp, .inr ⟨b, cs.size, cs, rfl, hB, h.eq, Nat.le_refl _, hm, by simp, List.take_of_length_le (by simp)⟩⟩
/-- Of no more than so much, by an order of taking out. -/
def upB (E : List Nat) (k : Nat) : List Nat → Nat → Bool
  | [], out => out == 0
  | v :: vs, out => out.testBit v && decide (pop (coverN E (bagN E (minus out (bit v)) v)) ≤ k) && upB E k vs (minus out (bit v))
theorem upB_le {E : List Nat} {k turn : Nat} (hE : E.length ≤ 8) : ∀ (vs : List Nat) (out : Nat), out < 65536 → upB E k vs out = true → widN E turn out ≤ k
  | [], out, ho, h => by
    have : out = 0 := by simpa [upB] using h
    subst this
    exact Nat.zero_le _
  | v :: vs, out, ho, h => by
    rw [upB, Bool.and_eq_true, Bool.and_eq_true, decide_eq_true_eq] at h
    have h0 : out ≠ 0 := by
      intro e
      rw [e] at h
      simp at h
    have h1 := upB_le (turn := turn) hE vs _ (minus_lt _ _ ho) h.2
    have h2 := ((widN_le E turn hE _ out (Nat.le_refl _) ho).2 h0).2.2 v h.1.1
    unfold costN at h2
    omega
theorem wid_pos {E : List Nat} {all turn : Nat} (g : Good E all) (h0 : all ≠ 0) : 1 ≤ widN E turn all := by
  rcases Nat.eq_zero_or_pos (widN E turn all) with h | h
  · have h1 := (wid_iff g turn 0 all all (Nat.le_refl _) g.hall (Sub.refl _)).1 (by omega)
    cases h1 with
    | nil => exact absurd rfl h0
    | step hv hr hc =>
      rename_i v
      obtain ⟨l, hl, -, h3⟩ := hc
      have h4 : (bagN E (minus all (bit v)) v).testBit v = true := by
        have hv16 := lt16 g.hall hv
        rw [bagN_iff g.hE (minus_lt _ _ g.hall) hv16]
        refine ⟨start_sound v (by rw [testBit_bit]; simp), ?_⟩
        rw [testBit_minus g.hall (bit_lt hv16), testBit_bit]
        simp
      obtain ⟨e, he, -⟩ := h3 v h4
      rw [List.eq_nil_of_length_eq_zero (by omega : l.length = 0)] at he
      simp at he
  · exact h
/-- Acyclic, just where the width is at most 1. -/
theorem acy_iff {E : List (List ByteArray)} (turn : Nat) (hm : mayR nameB E = true) : gyo (varsR E).length (setsR E) = [] ↔ widN (setsR E) turn (allR E) ≤ 1 := by
  have g := good_of hm
  rw [wid_iff g turn 1 _ _ (Nat.le_refl _) g.hall (Sub.refl _), ← uni_sets hm]
  refine gyo_iff (by have := (may_parts hm).2.2; omega) _ _ (Nat.le_refl _) g.hE (fun e he i hi => ?_)
  have h1 := (g.hcov i).2 ⟨e, he, hi⟩
  unfold allR at h1
  rw [full_bit, decide_eq_true_eq] at h1
  exact h1
def nm (j : Nat) : ByteArray := ⟨#[UInt8.ofNat (97 + j)]⟩
def chainE (k : Nat) : List (List ByteArray) := (List.range k).map fun j => [nm j, nm (j + 1)]
def ringE (k : Nat) : List (List ByteArray) := (List.range k).map fun j => [nm j, nm ((j + 1) % 7)]
def pairsU : Nat → Nat → List (List ByteArray)
  | 0, k => (List.range k).map fun j => [nm j, nm 0]
  | i + 1, k => pairsU i i ++ (List.range k).map fun j => [nm j, nm (i + 1)]
theorem chainE_succ (k : Nat) : chainE (k + 1) = chainE k ++ [[nm k, nm (k + 1)]] := by unfold chainE; rw [List.range_succ, List.map_append]; rfl
theorem ringE_succ (k : Nat) : ringE (k + 1) = ringE k ++ [[nm k, nm ((k + 1) % 7)]] := by unfold ringE; rw [List.range_succ, List.map_append]; rfl
theorem pairsU_succ (i k : Nat) : pairsU i (k + 1) = pairsU i k ++ [[nm k, nm i]] := by
  cases i with
  | zero => unfold pairsU; rw [List.range_succ, List.map_append]; rfl
  | succ i => rw [pairsU, pairsU, List.range_succ, List.map_append, List.append_assoc]; rfl
theorem pairsU_next (i : Nat) : pairsU (i + 1) 0 = pairsU i i := by rw [pairsU]; simp
theorem chain_may : mayR nameB (chainE 7) = true := by decide +kernel
theorem ring_may : mayR nameB (ringE 7) = true := by decide +kernel
theorem pairs_may : mayR nameB (pairsU 3 3) = true := by decide +kernel
theorem chain_wid : widR (chainE 7) = some 1 := by
  unfold widR
  rw [if_pos chain_may]
  have h1 := wid_pos (turn := 0) (good_of chain_may) (by decide +kernel)
  have h2 := (acy_iff 0 chain_may).1 (by decide +kernel)
  rw [show widN (setsR (chainE 7)) 0 (allR (chainE 7)) = 1 by omega]
theorem ring_wid : widR (ringE 7) = some 2 := by
  unfold widR
  rw [if_pos ring_may]
  have h1 : ¬ widN (setsR (ringE 7)) 0 (allR (ringE 7)) ≤ 1 := fun h => absurd ((acy_iff 0 ring_may).2 h) (by decide +kernel)
  have h2 := upB_le (E := setsR (ringE 7)) (k := 2) (turn := 0) (by decide +kernel) [0, 1, 2, 3, 4, 5, 6] (allR (ringE 7)) (by decide +kernel) (by decide +kernel)
  rw [show widN (setsR (ringE 7)) 0 (allR (ringE 7)) = 2 by omega]
theorem pairs_wid : widR (pairsU 3 3) = some 2 := by
  unfold widR
  rw [if_pos pairs_may]
  have h1 : ¬ widN (setsR (pairsU 3 3)) 0 (allR (pairsU 3 3)) ≤ 1 := fun h => absurd ((acy_iff 0 pairs_may).2 h) (by decide +kernel)
  have h2 := upB_le (E := setsR (pairsU 3 3)) (k := 2) (turn := 0) (by decide +kernel) [0, 1, 2, 3] (allR (pairsU 3 3)) (by decide +kernel) (by decide +kernel)
  rw [show widN (setsR (pairsU 3 3)) 0 (allR (pairsU 3 3)) = 2 by omega]
theorem nil_wid : widR [] = some 0 := by decide +kernel
end Go.Proofs.Ytnocncmjdhlmkaa.hyp
