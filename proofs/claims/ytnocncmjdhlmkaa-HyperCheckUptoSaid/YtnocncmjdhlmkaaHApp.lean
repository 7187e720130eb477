/- Texts behind a row of one's own, as a law for the walk. -/
import Derived.Test.YtnocncmjdhlmkaaHCopy
namespace Go.Proofs.Ytnocncmjdhlmkaa.hyp
open Go.ChangeShapes Go.WideShapes Go.ChangeAt Go.RowKit kit
set_option linter.unusedVariables false
set_option linter.unusedSimpArgs false
theorem wpList_app_texts {w : World} {ops : Array Oper} {rest : List Oper} {o : Oper} {a : Act} {Q : Exit → Act → World → Prop} (hgd : o.guard = none) (s x : Operand)
    (ho : o.op = .call { callee := .builtin .append, args := #[s, x], argTypes := #[35, 35] })
    (B : Nat) (v y : Value) (n : Nat) (xs M : List Value) (hs : a.eval s = v) (hown : w.ownsRow B 9 1 v n xs) (hx : a.eval x = y) (ht : RowA w w.heap.size y M) (hone : ∀ u ∈ M, u.oneCell' = true)
    (hlen : n + M.length ≤ 1000000000) (hB : B ≤ w.heap.size)
    (h : ∀ v' w', w'.ownsRow B 9 1 v' (n + M.length) (xs ++ M) → w.grownBy w' v.ownBlock → wpList Try.prog ops Q rest (a.put o.dst v') w') : wpList Try.prog ops Q (o :: rest) a w := by
  obtain ⟨i0, hi, hz0, hz1, hz2⟩ := info_parts infoStr
  rcases ht with ⟨ao, cap, rfl, rfl⟩ | ⟨b, off, cap, rfl, h0, hc, hb, hj⟩
  · rcases ao with _ | ad
    · have hrun := run_append_none (P := Try.prog) w B 35 o.type 9 i0 1 Try.underlying35 hi v n xs hown cap
      refine wpList_append_run hgd s x 35 35 ho v v (.slice none 0 cap) w hs hx hrun ?_
      exact h v w (by simpa using hown) ⟨rfl, rfl, rfl, Nat.le_refl _, fun _ _ _ => rfl⟩
    · exact wpList_append_own _ hgd s x 35 ho B 9 i0 (.string ByteArray.empty) 1 16 Try.underlying35 hi hz0 hz1 hz2 rfl (by decide) v n xs hs hown ad 0 cap [] hx rfl (fun j u h => by simp at h) (fun u h => by cases h) (by unfold maxLen; simp at hlen; omega) (by simp at hlen; omega) hB (fun v' w' h1 h2 _ => h v' w' h1 h2)
  · exact wpList_append_own _ hgd s x 35 ho B 9 i0 (.string ByteArray.empty) 1 16 Try.underlying35 hi hz0 hz1 hz2 rfl (by decide) v n xs hs hown ⟨b, off, none⟩ M.length cap M hx (by simp) (RowA.news hj) hone (by unfold maxLen; omega) (by omega) hB (fun v' w' h1 h2 _ => h v' w' h1 h2)
end Go.Proofs.Ytnocncmjdhlmkaa.hyp
