/- Texts EncInj, SortP, one behind the other. -/
import Derived.Test.YtidplkfhodpdhaaGreatDoorVPlain
import Derived.Test.YtidplkfhodpdhaaGreatDoorValBA
import Derived.Test.YtidplkfhodpdhaaGreatDoorTabPA
namespace Go.Proofs.YtidplkfhodpdhaaGreatDoor.val
open Go.RowKit dec
set_option linter.unusedVariables false
set_option linter.unusedSimpArgs false
end Go.Proofs.YtidplkfhodpdhaaGreatDoor.val
namespace Go.Proofs.YtidplkfhodpdhaaGreatDoor.tab
open Go.RowKit dec val
set_option linter.unusedVariables false
set_option linter.unusedSimpArgs false
theorem getD_at {α : Type} {d : α} (l : List α) {j : Nat} (h : j < l.length) : l.getD j d = l[j] := by
 rw [List.getD_eq_getElem?_getD, List.getElem?_eq_getElem h]; rfl
def insPos (s : Bool) (l : List (List V)) (r : List V) : Nat → Nat
 | 0 => 0
 | k + 1 => if 0 < ordL s (l.getD k []) r then insPos s l r k else k + 1
def insR (s : Bool) (l : List (List V)) (r : List V) : List (List V) := l.take (insPos s l r l.length) ++ r :: l.drop (insPos s l r l.length)
def sortR (s : Bool) (l : List (List V)) : List (List V) := l.foldl (insR s) []
theorem insPos_le (s : Bool) (l : List (List V)) (r : List V) : ∀ k, insPos s l r k ≤ k
 | 0 => Nat.le_refl _
 | k + 1 => by
  unfold insPos
  split
  ·have := insPos_le s l r k; omega
  ·omega
theorem insPos_ahead (s : Bool) (l : List (List V)) (r : List V) : ∀ k, 0 < insPos s l r k → ¬ 0 < ordL s (l.getD (insPos s l r k - 1) []) r
 | 0, h => by simp [insPos] at h
 | k + 1, h => by
  unfold insPos at h ⊢
  split
  ·rename_i hc
   rw [if_pos hc] at h
   exact insPos_ahead s l r k h
  ·rename_i hc
   exact hc
theorem insPos_behind (s : Bool) (l : List (List V)) (r : List V) : ∀ k j, insPos s l r k ≤ j → j < k → 0 < ordL s (l.getD j []) r
 | 0, j, _, h => by omega
 | k + 1, j, h, hj => by
  unfold insPos at h
  split at h
  ·rename_i hc
   by_cases e : j = k
   ·rw [e]; exact hc
   ·exact insPos_behind s l r k j h (by omega)
  ·omega
theorem insR_perm (s : Bool) (l : List (List V)) (r : List V) : (insR s l r).Perm (l ++ [r]) := by
 unfold insR
 refine List.perm_middle.trans ?_
 rw [List.take_append_drop]
 exact List.perm_append_comm (l₁ := [r]) (l₂ := l)
theorem insR_sorted (s : Bool) (l : List (List V)) (r : List V) (h : l.Pairwise (fun a b => ordL s a b ≤ 0)) : (insR s l r).Pairwise (fun a b => ordL s a b ≤ 0) := by
 unfold insR
 have hle := insPos_le s l r l.length
 have hA := insPos_ahead s l r l.length
 have hB := insPos_behind s l r l.length
 generalize insPos s l r l.length = k at *
 have htr : ∀ a b c : List V, ordL s a b ≤ 0 → ordL s b c ≤ 0 → ordL s a c ≤ 0 := fun a b c h1 h2 => by
  have ht := ordL_tri s a b c
  have hi := ordL_in s a c
  unfold Tri at ht
  unfold In1 at hi
  omega
 rw [List.pairwise_iff_getElem] at h
 rw [List.pairwise_append, List.pairwise_cons]
 have hi : ∀ a b : List V, In1 (ordL s a b) := ordL_in s
 refine ⟨?_, ⟨?_, ?_⟩, ?_⟩
 ·rw [List.pairwise_iff_getElem]
  intro i j hi hj hij
  rw [List.getElem_take, List.getElem_take]
  exact h i j _ _ hij
 ·intro b hb
  obtain ⟨j, hj, rfl⟩ := List.getElem_of_mem hb
  rw [List.getElem_drop]
  rw [List.length_drop] at hj
  have := hB (k + j) (by omega) (by omega)
  rw [getD_at _ (by omega)] at this
  have := ordL_neg s (l[k + j]'(by omega)) r
  omega
 ·rw [List.pairwise_iff_getElem]
  intro i j hi hj hij
  rw [List.getElem_drop, List.getElem_drop]
  exact h _ _ _ _ (by omega)
 ·intro a ha b hb
  obtain ⟨i, hi, rfl⟩ := List.getElem_of_mem ha
  rw [List.length_take] at hi
  rw [List.getElem_take]
  have h1 : ordL s (l[i]'(by omega)) r ≤ 0 := by
   have h0 : 0 < k := by omega
   have := hA h0
   rw [getD_at _ (by omega)] at this
   by_cases e : i = k - 1
   ·have e2 : l[i]'(by omega) = l[k - 1]'(by omega) := by congr
    rw [e2]; omega
   ·exact htr _ (l[k - 1]'(by omega)) _ (h i (k - 1) (by omega) (by omega) (by omega)) (by omega)
  rcases List.mem_cons.1 hb with rfl | hb
  ·exact h1
  ·obtain ⟨j, hj, rfl⟩ := List.getElem_of_mem hb
   rw [List.length_drop] at hj
   rw [List.getElem_drop]
   exact h i (k + j) (by omega) (by omega) (by omega)
theorem sortR_fold (s : Bool) : ∀ (l out : List (List V)), out.Pairwise (fun a b => ordL s a b ≤ 0) → (l.foldl (insR s) out).Pairwise (fun a b => ordL s a b ≤ 0) ∧ (l.foldl (insR s) out).Perm (out ++ l)
 | [], out, h => ⟨h, by simp⟩
 | r :: l, out, h => by
  obtain ⟨h1, h2⟩ := sortR_fold s l (insR s out r) (insR_sorted s out r h)
  rw [List.foldl_cons]
  refine ⟨h1, h2.trans ?_⟩
  have := (insR_perm s out r).append_right l
  simpa using this
theorem sortR_sorted (s : Bool) (l : List (List V)) : (sortR s l).Pairwise (fun a b => ordL s a b ≤ 0) := (sortR_fold s l [] List.Pairwise.nil).1
theorem sortR_perm (s : Bool) (l : List (List V)) : (sortR s l).Perm l := by
 have := (sortR_fold s l [] List.Pairwise.nil).2
 simpa [sortR] using this
theorem sortR_len (s : Bool) (l : List (List V)) : (sortR s l).length = l.length := (sortR_perm s l).length_eq
end Go.Proofs.YtidplkfhodpdhaaGreatDoor.tab
