/- Plain: how long rows' keys are, where tables are light. -/
import Derived.Test.YtjpondgobogkeaaGreatDoorTabMayA
import Derived.Test.YtjpondgobogkeaaGreatDoorTabSameA
import Derived.Test.YtjpondgobogkeaaGreatDoorTabPA
namespace Go.Proofs.YtjpondgobogkeaaGreatDoor.tab
open Go.RowKit dec val
set_option linter.unusedVariables false
set_option linter.unusedSimpArgs false
mutual
theorem encV_le9 : ∀ v, (encV v).length ≤ 9 * wtV v
  | .mk k b n t x l => by
    have hl := encL_le9 l
    rw [encV_mk, wtV, List.length_cons]
    have h1 : (txL t).length = 4 + t.size := by unfold txL; rw [List.length_append, bigL_len]; simp
    have h2 : (txL x).length = 4 + x.size := by unfold txL; rw [List.length_append, bigL_len]; simp
    split
    · simp; omega
    split
    · rw [bigL_len]; omega
    split
    · rw [h1]; omega
    split
    · rw [List.length_append, h1, h2]; omega
    split
    · rw [List.length_append, bigL_len]; omega
    · simp; omega
theorem encL_le9 : ∀ l, (encL l).length ≤ 9 * wtL l
  | [] => by simp [encL]
  | v :: r => by rw [encL, wtL, List.length_append]; have := encV_le9 v; have := encL_le9 r; omega
end
mutual
theorem wtV_size : ∀ v, wtV v ≤ 127 * sizeV v
  | .mk k b n t x l => by
    have := wtL_size l
    rw [wtV, sizeV]
    omega
theorem wtL_size : ∀ l, wtL l ≤ 127 * sizeL l
  | [] => by simp [wtL]
  | v :: r => by rw [wtL, sizeL]; have := wtV_size v; have := wtL_size r; omega
end
theorem sizeR_mem {r : List V} {l : List (List V)} (h : r ∈ l) : 1 + sizeL r ≤ sizeR l := by
  induction l with
  | nil => cases h
  | cons u l ih =>
    rw [sizeR]
    rcases List.mem_cons.1 h with rfl | h
    · omega
    · have := ih h; omega
theorem wt_light {A B : Tab} (h : lightT A B = true) : (∀ r ∈ A.rows, wtL r ≤ 381000) ∧ ∀ r ∈ B.rows, wtL r ≤ 381000 := by
  unfold lightT at h
  simp only [Bool.and_eq_true, decide_eq_true_eq] at h
  refine ⟨fun r hr => ?_, fun r hr => ?_⟩
  · have := sizeR_mem hr; have := wtL_size r; omega
  · have := sizeR_mem hr; have := wtL_size r; omega
theorem wtL_app (a b : List V) : wtL (a ++ b) = wtL a + wtL b := by
  induction a with
  | nil => simp [wtL]
  | cons v r ih => rw [List.cons_append, wtL, wtL, ih]; omega
theorem wtL_perm {a b : List V} (h : a.Perm b) : wtL a = wtL b := by
  induction h with
  | nil => rfl
  | cons x _ ih => rw [wtL, wtL, ih]
  | swap x y l => simp only [wtL]; omega
  | trans _ _ h1 h2 => rw [h1, h2]
theorem wt_or (F : List ByteArray) (f g : ByteArray → V) : wtL (F.map fun x => orN (f x) (g x)) ≤ wtL (F.map f) + wtL (F.map g) := by
  induction F with
  | nil => simp [wtL]
  | cons x F ih =>
    rw [List.map_cons, List.map_cons, List.map_cons, wtL, wtL, wtL]
    have h : wtV (orN (f x) (g x)) ≤ wtV (f x) + wtV (g x) := by unfold orN; split <;> omega
    omega
theorem wt_null (m : List ByteArray) {ns : List ByteArray} {r : List V} (hl : r.length = ns.length) (h : ∀ x ∈ m, x ∉ ns) : wtL (m.map (cellF ns r)) = m.length := by
  induction m with
  | nil => rfl
  | cons x m ih =>
    rw [List.map_cons, wtL, cell_out hl (h x (by simp)), ih fun y hy => h y (by simp [hy])]
    have h1 : wtV nullV = 1 := rfl
    rw [h1, List.length_cons]
    omega
/-- What stands at the variables of two tables, in one of them. -/
theorem wt_cells {A B : List ByteArray} {r : List V} (hA : A.Nodup) (hl : r.length = A.length) : wtL ((B.foldl addN A).map (cellF A r)) ≤ wtL r + (B.foldl addN A).length := by
  obtain ⟨m, hm⟩ := foldN_prefix B A
  have hn := foldN_nodup B A hA
  rw [hm] at hn ⊢
  rw [List.nodup_append] at hn
  rw [List.map_append, wtL_app, cells_row hA hl, wt_null m hl fun x hx h => hn.2.2 x h x hx rfl, List.length_append]
  omega
theorem fold_perm {A B : List ByteArray} (hA : A.Nodup) (hB : B.Nodup) : (B.foldl addN A).Perm (A.foldl addN B) := by
  rw [List.perm_ext_iff_of_nodup (foldN_nodup _ _ hA) (foldN_nodup _ _ hB)]
  intro x
  rw [mem_foldN, mem_foldN]
  exact Or.comm
theorem wt_join {A B : List ByteArray} {r s : List V} (hA : A.Nodup) (hB : B.Nodup) (hr : r.length = A.length) (hs : s.length = B.length) : wtL (joinR A B r s) ≤ wtL r + wtL s + 2 * (B.foldl addN A).length := by
  have h1 := wt_cells (B := B) hA hr
  have h2 := wt_cells (B := A) hB hs
  have h3 := wtL_perm ((fold_perm hA hB).map (cellF B s))
  have h4 := (fold_perm hA hB).length_eq
  have h5 := wt_or (B.foldl addN A) (cellF A r) (cellF B s)
  unfold joinR
  omega
theorem key_light {A : Tab} (h : ∀ r ∈ A.rows, wtL r ≤ 1100000) : KeyL A := fun r hr => by
  have := encL_le9 r
  have := h r hr
  omega
theorem rowsJ_mem {a b : Tab} {x : List V} (h : x ∈ joinRows a b) : ∃ r ∈ a.rows, ∃ s ∈ b.rows, x = joinR a.vars b.vars r s := by
  unfold joinRows at h
  obtain ⟨r, hr, h2⟩ := List.mem_flatMap.1 h
  obtain ⟨s, hs, h3⟩ := List.mem_filterMap.1 h2
  by_cases hc : compat a.vars b.vars r s = true
  · rw [if_pos hc] at h3
    injection h3 with h3
    exact ⟨r, hr, s, hs, h3.symm⟩
  · rw [if_neg hc] at h3; cases h3
theorem rowL_of {n : Nat} {r : List V} (h : rowB n r = true) : r.length = n := by unfold rowB at h; rw [Bool.and_eq_true, decide_eq_true_eq] at h; exact h.1
theorem wt_joinT {A B : Tab} (ha : mayT A = true) (hb : mayT B = true) (hl : A.vars.length + B.vars.length ≤ 64) {p q : Nat} (h1 : ∀ r ∈ A.rows, wtL r ≤ p) (h2 : ∀ r ∈ B.rows, wtL r ≤ q) : ∀ r ∈ (joinT A B).rows, wtL r ≤ p + q + 128 := by
  intro x hx
  obtain ⟨hnA, hrA⟩ := may_rows ha
  obtain ⟨hnB, hrB⟩ := may_rows hb
  obtain ⟨-, -, hdA⟩ := names_parts hnA
  obtain ⟨-, -, hdB⟩ := names_parts hnB
  have hf := foldN_len B.vars A.vars
  unfold joinT at hx
  rw [if_pos (by omega)] at hx
  obtain ⟨r, hr, s, hs, rfl⟩ := rowsJ_mem hx
  have := wt_join hdA hdB (rowL_of (hrA r hr)) (rowL_of (hrB s hs))
  have := h1 r hr
  have := h2 s hs
  omega
theorem join_perm {a b : Tab} (ha : mayT a = true) (hb : mayT b = true) (hl : a.vars.length + b.vars.length ≤ 64) :
    (joinT a b).rows.Perm (projT (joinT b a) (joinT a b).vars).rows := by
  have hab : (b.vars.foldl addN a.vars).length ≤ 64 := Nat.le_trans (foldN_len _ _) hl
  have hba : (a.vars.foldl addN b.vars).length ≤ 64 := Nat.le_trans (foldN_len _ _) (by omega)
  have hv : (joinT a b).vars = b.vars.foldl addN a.vars := by unfold joinT; rw [if_pos hab]
  have e1 : (joinT a b).rows = joinRows a b := by unfold joinT; rw [if_pos hab]
  have e2 : (projT (joinT b a) (joinT a b).vars).rows = (joinRows b a).map fun r => (b.vars.foldl addN a.vars).map (cellF (a.vars.foldl addN b.vars) r) := by
    unfold projT
    rw [hv]
    unfold joinT
    rw [if_pos hba]
  rw [e1, e2]
  unfold joinRows
  rw [List.map_flatMap]
  refine (flat_swap (fun r s => if compat a.vars b.vars r s = true then some (joinR a.vars b.vars r s) else none) a.rows b.rows).trans (List.Perm.of_eq ?_)
  refine flat_congr fun s hs => ?_
  rw [List.map_filterMap]
  refine filter_congr2 fun r hr => ?_
  rw [compat_comm b.vars a.vars s r]
  by_cases hc : compat a.vars b.vars r s = true
  · rw [if_pos hc, if_pos hc, Option.map_some, join_turn ((may_rows ha).2 r hr) ((may_rows hb).2 s hs) hc]
  · rw [if_neg hc, if_neg hc]; rfl
end Go.Proofs.YtjpondgobogkeaaGreatDoor.tab
