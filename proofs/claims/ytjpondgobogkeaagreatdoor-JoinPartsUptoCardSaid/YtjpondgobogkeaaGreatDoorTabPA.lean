/- Texts TabP, TabQ, TabJoinP, TabNestP, one behind the other. -/
import Derived.Test.YtjpondgobogkeaaGreatDoorVBytes
/- Plain: tables as data; what is made of them; laws of joins. -/
namespace Go.Proofs.YtjpondgobogkeaaGreatDoor.tab
open Go.RowKit dec val
set_option linter.unusedVariables false
set_option linter.unusedSimpArgs false
/-! ### Texts that can be told apart -/
instance decText : DecidableEq ByteArray := fun a b => decidable_of_iff (a.data.toList = b.data.toList) ⟨fun h => by
  cases a; cases b
  simp only [ByteArray.mk.injEq]
  exact Array.toList_inj.1 h, fun h => by rw [h]⟩
instance beqText : BEq ByteArray := ⟨fun a b => decide (a = b)⟩
instance lawText : LawfulBEq ByteArray where
  eq_of_beq h := of_decide_eq_true h
  rfl := decide_eq_true rfl
def addN (ns : List ByteArray) (v : ByteArray) : List ByteArray := if v ∈ ns then ns else ns ++ [v]
theorem mem_addN {ns : List ByteArray} {v x : ByteArray} : x ∈ addN ns v ↔ x ∈ ns ∨ x = v := by
  unfold addN
  by_cases h : v ∈ ns
  · rw [if_pos h]
    constructor
    · exact .inl
    · rintro (h1 | rfl)
      · exact h1
      · exact h
  · rw [if_neg h]; simp
theorem addN_nodup {ns : List ByteArray} (h : ns.Nodup) (v : ByteArray) : (addN ns v).Nodup := by
  unfold addN
  by_cases hv : v ∈ ns
  · rw [if_pos hv]; exact h
  · rw [if_neg hv]
    rw [List.nodup_append]
    refine ⟨h, by simp, fun a ha b hb => ?_⟩
    have : b = v := by simpa using hb
    rw [this]
    rintro rfl
    exact hv ha
theorem mem_foldN {x : ByteArray} : ∀ (b a : List ByteArray), x ∈ b.foldl addN a ↔ x ∈ a ∨ x ∈ b
  | [], a => by simp
  | v :: b, a => by
    rw [List.foldl_cons, mem_foldN b (addN a v), mem_addN, List.mem_cons]
    constructor
    · rintro ((h | h) | h)
      · exact .inl h
      · exact .inr (.inl h)
      · exact .inr (.inr h)
    · rintro (h | h | h)
      · exact .inl (.inl h)
      · exact .inl (.inr h)
      · exact .inr h
theorem foldN_nodup : ∀ (b a : List ByteArray), a.Nodup → (b.foldl addN a).Nodup
  | [], a, h => h
  | v :: b, a, h => foldN_nodup b (addN a v) (addN_nodup h v)
theorem foldN_prefix : ∀ (b a : List ByteArray), ∃ m, b.foldl addN a = a ++ m
  | [], a => ⟨[], by simp⟩
  | v :: b, a => by
    obtain ⟨m, h⟩ := foldN_prefix b (addN a v)
    rw [List.foldl_cons, h]
    unfold addN
    by_cases hv : v ∈ a
    · rw [if_pos hv]; exact ⟨m, rfl⟩
    · rw [if_neg hv]; exact ⟨v :: m, by simp⟩
theorem foldN_self : ∀ (b a : List ByteArray), (∀ x ∈ b, x ∈ a) → b.foldl addN a = a
  | [], a, h => rfl
  | v :: b, a, h => by
    have hv : addN a v = a := by unfold addN; rw [if_pos (h v (by simp))]
    rw [List.foldl_cons, hv]
    exact foldN_self b a (fun x hx => h x (by simp [hx]))
theorem foldN_len : ∀ (b a : List ByteArray), (b.foldl addN a).length ≤ a.length + b.length
  | [], a => by simp
  | v :: b, a => by
    have := foldN_len b (addN a v)
    have h2 : (addN a v).length ≤ a.length + 1 := by unfold addN; split <;> simp
    rw [List.foldl_cons, List.length_cons]
    omega
/-! ### Values that are none -/
def nullV : V := .mk 0 false 0 ⟨#[]⟩ ⟨#[]⟩ []
def isN (v : V) : Bool := decide (kindV v = 0)
theorem emp_nil {s : ByteArray} (h : emp s = true) : s = ⟨#[]⟩ := by
  have h0 : s.size = 0 := of_decide_eq_true h
  cases s with
  | mk d =>
    have : d = #[] := Array.eq_empty_of_size_eq_zero h0
    rw [this]
theorem may_null {v : V} (hm : mayV v = true) (h : isN v = true) : v = nullV := by
  cases v with
  | mk k b n t x l =>
    have hk : k = 0 := of_decide_eq_true h
    subst hk
    have h1 : chkW (fun l => l.all (chkV 59)) (.mk 0 b n t x l) = true := hm
    unfold chkW at h1
    simp only [if_true, Bool.and_eq_true, decide_eq_true_eq, Bool.not_eq_true'] at h1
    obtain ⟨⟨⟨⟨h2, h3⟩, h4⟩, h5⟩, h6⟩ := h1
    rw [h2, h3, emp_nil h4, emp_nil h5, List.eq_nil_of_length_eq_zero h6]
    rfl
theorem null_isN : isN nullV = true := rfl
/-! ### Tables -/
structure Tab where
  vars : List ByteArray
  rows : List (List V)
def namesB (l : List ByteArray) : Bool := decide (l.length ≤ 64) && l.all val.nameB && decide l.Nodup
def rowB (n : Nat) (r : List V) : Bool := decide (r.length = n) && r.all mayV
def mayT (t : Tab) : Bool := namesB t.vars && t.rows.all (rowB t.vars.length)
/-- What a row has of a variable. -/
def cellF (ns : List ByteArray) (r : List V) (x : ByteArray) : V := r.getD (ns.idxOf x) nullV
def orN (a b : V) : V := if isN a = true then b else a
def okC (a b : V) : Bool := isN a || (isN b || sameP a b)
def compat (A B : List ByteArray) (r s : List V) : Bool := B.all fun x => !decide (x ∈ A) || okC (cellF A r x) (cellF B s x)
def shared (A B : List ByteArray) (r s : List V) : Bool := B.any fun x => decide (x ∈ A) && (!isN (cellF A r x) && !isN (cellF B s x))
def joinR (A B : List ByteArray) (r s : List V) : List V := (B.foldl addN A).map fun x => orN (cellF A r x) (cellF B s x)
def joinRows (a b : Tab) : List (List V) := a.rows.flatMap fun r => b.rows.filterMap fun s => if compat a.vars b.vars r s = true then some (joinR a.vars b.vars r s) else none
def joinT (a b : Tab) : Tab := if (b.vars.foldl addN a.vars).length ≤ 64 then ⟨b.vars.foldl addN a.vars, joinRows a b⟩ else ⟨[], []⟩
def projT (a : Tab) (vs : List ByteArray) : Tab := ⟨vs, a.rows.map fun r => vs.map (cellF a.vars r)⟩
def unionT (a b : Tab) : Tab :=
  if (b.vars.foldl addN a.vars).length ≤ 64 then ⟨b.vars.foldl addN a.vars, (a.rows.map fun r => (b.vars.foldl addN a.vars).map (cellF a.vars r)) ++ b.rows.map fun s => (b.vars.foldl addN a.vars).map (cellF b.vars s)⟩ else ⟨[], []⟩
def minusT (a b : Tab) : Tab := ⟨a.vars, a.rows.filter fun r => !b.rows.any fun s => compat a.vars b.vars r s && shared a.vars b.vars r s⟩
/-! ### Bags of keys -/
/-- How often a key is told. -/
def cntK (k : List UInt8) (l : List (List UInt8)) : Nat := l.countP fun x => decide (x = k)
/-- Keys taken out of a bag one by one. -/
def drain : (List UInt8 → Nat) → List (List UInt8) → Bool
  | _, [] => true
  | c, k :: l => if c k = 0 then false else drain (fun x => if x = k then c k - 1 else c x) l
theorem drain_iff : ∀ (l : List (List UInt8)) (c : List UInt8 → Nat), drain c l = true ↔ ∀ k, cntK k l ≤ c k
  | [], c => by simp [drain, cntK]
  | a :: l, c => by
    rw [drain]
    by_cases h0 : c a = 0
    · rw [if_pos h0]
      constructor
      · intro h; cases h
      · intro h
        have h1 := h a
        unfold cntK at h1
        rw [List.countP_cons_of_pos (by simp)] at h1
        omega
    · rw [if_neg h0, drain_iff l]
      constructor
      · intro h k
        have h1 := h k
        unfold cntK at h1 ⊢
        by_cases hk : k = a
        · subst hk
          rw [if_pos rfl] at h1
          rw [List.countP_cons_of_pos (by simp)]
          omega
        · rw [if_neg hk] at h1
          rw [List.countP_cons_of_neg (by simpa using fun e => hk e.symm)]
          exact h1
      · intro h k
        have h1 := h k
        unfold cntK at h1 ⊢
        by_cases hk : k = a
        · subst hk
          rw [if_pos rfl]
          rw [List.countP_cons_of_pos (by simp)] at h1
          omega
        · rw [if_neg hk]
          rw [List.countP_cons_of_neg (by simpa using fun e => hk e.symm)] at h1
          exact h1
/-- Two tables are the same bag. -/
def sameT (a b : Tab) : Bool := mayT a && mayT b && decide (a.vars = b.vars) && decide (a.rows.length = b.rows.length) && drain (fun k => cntK k (a.rows.map encL)) (b.rows.map encL)
theorem same_perm {a b : Tab} (ha : mayT a = true) (hb : mayT b = true) (hv : a.vars = b.vars) (hp : a.rows.Perm b.rows) : sameT a b = true := by
  unfold sameT
  rw [ha, hb, decide_eq_true hv, decide_eq_true hp.length_eq]
  have : drain (fun k => cntK k (a.rows.map encL)) (b.rows.map encL) = true := by
    rw [drain_iff]
    intro k
    unfold cntK
    rw [(hp.map encL).countP_eq]
    exact Nat.le_refl _
  rw [this]
  rfl
/-! ### Laws of joins -/
theorem flat_congr {α β : Type} {f g : α → List β} : ∀ {M : List α}, (∀ a ∈ M, f a = g a) → M.flatMap f = M.flatMap g
  | [], _ => rfl
  | a :: M, h => by
    rw [List.flatMap_cons, List.flatMap_cons, h a (by simp), flat_congr fun b hb => h b (by simp [hb])]
theorem filter_congr2 {α β : Type} {f g : α → Option β} : ∀ {M : List α}, (∀ a ∈ M, f a = g a) → M.filterMap f = M.filterMap g
  | [], _ => rfl
  | a :: M, h => by
    rw [List.filterMap_cons, List.filterMap_cons, h a (by simp), filter_congr2 fun b hb => h b (by simp [hb])]
theorem flat_append {α β : Type} (g h : α → List β) : ∀ M : List α, (M.flatMap fun s => g s ++ h s).Perm (M.flatMap g ++ M.flatMap h)
  | [] => by simp
  | s :: M => by
    rw [List.flatMap_cons, List.flatMap_cons, List.flatMap_cons]
    have ih := flat_append g h M
    refine (List.Perm.append_left _ ih).trans ?_
    rw [List.append_assoc, List.append_assoc]
    refine List.Perm.append_left _ ?_
    rw [← List.append_assoc, ← List.append_assoc]
    exact List.Perm.append_right _ List.perm_append_comm
theorem filter_flat {α β : Type} (g : α → Option β) : ∀ M : List α, M.filterMap g = M.flatMap fun s => (g s).toList
  | [] => rfl
  | s :: M => by
    rw [List.filterMap_cons, List.flatMap_cons, filter_flat g M]
    cases g s <;> rfl
theorem flat_swap {α β γ : Type} (f : α → β → Option γ) : ∀ (L : List α) (M : List β), (L.flatMap fun r => M.filterMap fun s => f r s).Perm (M.flatMap fun s => L.filterMap fun r => f r s)
  | [], M => by simp
  | r :: L, M => by
    rw [List.flatMap_cons]
    have ih := flat_swap f L M
    have e : (fun s => (r :: L).filterMap fun r => f r s) = fun s => (f r s).toList ++ L.filterMap fun r => f r s := by
      funext s
      rw [List.filterMap_cons]
      cases f r s <;> rfl
    rw [e]
    refine (List.Perm.append_left _ ih).trans ?_
    refine List.Perm.trans ?_ (flat_append _ _ M).symm
    exact List.Perm.append_right _ (List.Perm.of_eq (filter_flat (fun s => f r s) M))
theorem cell_in {ns : List ByteArray} {r : List V} (hl : r.length = ns.length) {x : ByteArray} (h : x ∈ ns) : cellF ns r x ∈ r := by
  unfold cellF
  have h1 : ns.idxOf x < r.length := by rw [hl]; exact List.idxOf_lt_length_of_mem h
  rw [List.getD_eq_getElem?_getD, List.getElem?_eq_getElem h1]
  exact List.getElem_mem h1
theorem cell_out {ns : List ByteArray} {r : List V} (hl : r.length = ns.length) {x : ByteArray} (h : x ∉ ns) : cellF ns r x = nullV := by
  unfold cellF
  rw [List.getD_eq_getElem?_getD, List.getElem?_eq_none (by rw [hl, List.idxOf_eq_length h]; exact Nat.le_refl _)]
  rfl
theorem cell_may {ns : List ByteArray} {r : List V} (hr : rowB ns.length r = true) (x : ByteArray) : mayV (cellF ns r x) = true := by
  unfold rowB at hr
  rw [Bool.and_eq_true, decide_eq_true_eq, List.all_eq_true] at hr
  by_cases h : x ∈ ns
  · exact hr.2 _ (cell_in hr.1 h)
  · rw [cell_out hr.1 h]; decide
/-- A row told by its own variables. -/
theorem cells_row {ns : List ByteArray} {r : List V} (hn : ns.Nodup) (hl : r.length = ns.length) : ns.map (cellF ns r) = r := by
  apply List.ext_getElem
  · simp [hl]
  · intro j h1 h2
    rw [List.getElem_map]
    unfold cellF
    have hj : j < ns.length := by simpa using h1
    have e : ns.idxOf ns[j] = j := List.Nodup.idxOf_getElem hn j hj
    rw [e, List.getD_eq_getElem?_getD, List.getElem?_eq_getElem h2]
    rfl
theorem cell_map {ns : List ByteArray} {f : ByteArray → V} {x : ByteArray} (h : x ∈ ns) : cellF ns (ns.map f) x = f x := by
  unfold cellF
  have h1 := List.idxOf_lt_length_of_mem h
  rw [List.getD_eq_getElem?_getD, List.getElem?_eq_getElem (by simpa using h1), List.getElem_map, Option.getD_some, List.getElem_idxOf]
theorem orN_comm {a b : V} (ha : mayV a = true) (hb : mayV b = true) (h : okC a b = true) : orN a b = orN b a := by
  unfold orN
  unfold okC at h
  by_cases h1 : isN a = true
  · rw [if_pos h1]
    by_cases h2 : isN b = true
    · rw [if_pos h2, may_null ha h1, may_null hb h2]
    · rw [if_neg h2]
  · rw [if_neg h1]
    by_cases h2 : isN b = true
    · rw [if_pos h2]
    · rw [if_neg h2]
      rw [Bool.or_eq_true, Bool.or_eq_true] at h
      rcases h with h | h | h
      · exact absurd h h1
      · exact absurd h h2
      · exact (sameP_iff a b).1 h
theorem okC_comm (a b : V) : okC a b = okC b a := by
  unfold okC
  have e : sameP a b = sameP b a := by
    rw [Bool.eq_iff_iff, sameP_iff, sameP_iff]
    exact ⟨Eq.symm, Eq.symm⟩
  rw [e]
  cases isN a <;> cases isN b <;> rfl
theorem compat_iff (A B : List ByteArray) (r s : List V) : compat A B r s = true ↔ ∀ x, x ∈ A → x ∈ B → okC (cellF A r x) (cellF B s x) = true := by
  unfold compat
  rw [List.all_eq_true]
  constructor
  · intro h x ha hb
    have := h x hb
    rw [Bool.or_eq_true, Bool.not_eq_true', decide_eq_false_iff_not] at this
    rcases this with h1 | h1
    · exact absurd ha h1
    · exact h1
  · intro h x hb
    by_cases ha : x ∈ A
    · rw [h x ha hb, Bool.or_true]
    · rw [decide_eq_false ha]; rfl
theorem compat_comm (A B : List ByteArray) (r s : List V) : compat A B r s = compat B A s r := by
  rw [Bool.eq_iff_iff, compat_iff, compat_iff]
  constructor
  · intro h x hb ha; rw [okC_comm]; exact h x ha hb
  · intro h x ha hb; rw [okC_comm]; exact h x hb ha
/-- A joined row, told from the other side. -/
theorem join_turn {A B : List ByteArray} {r s : List V} (hr : rowB A.length r = true) (hs : rowB B.length s = true) (hc : compat A B r s = true) :
    joinR A B r s = (B.foldl addN A).map (cellF (A.foldl addN B) (joinR B A s r)) := by
  unfold joinR
  refine List.map_congr_left fun x hx => ?_
  have hx2 : x ∈ A.foldl addN B := by
    rw [mem_foldN] at hx ⊢
    exact hx.symm
  rw [cell_map hx2]
  by_cases ha : x ∈ A
  · by_cases hb : x ∈ B
    · exact orN_comm (cell_may hr x) (cell_may hs x) ((compat_iff A B r s).1 hc x ha hb)
    · have hl : s.length = B.length := by unfold rowB at hs; rw [Bool.and_eq_true, decide_eq_true_eq] at hs; exact hs.1
      rw [cell_out hl hb]
      unfold orN
      rw [if_pos null_isN]
      by_cases h : isN (cellF A r x) = true
      · rw [if_pos h, may_null (cell_may hr x) h]
      · rw [if_neg h]
  · have hl : r.length = A.length := by unfold rowB at hr; rw [Bool.and_eq_true, decide_eq_true_eq] at hr; exact hr.1
    rw [cell_out hl ha]
    unfold orN
    rw [if_pos null_isN]
    by_cases h : isN (cellF B s x) = true
    · rw [if_pos h, may_null (cell_may hs x) h]
    · rw [if_neg h]
theorem orN_may {a b : V} (ha : mayV a = true) (hb : mayV b = true) : mayV (orN a b) = true := by
  unfold orN
  split
  · exact hb
  · exact ha
theorem joinR_may {A B : List ByteArray} {r s : List V} (hr : rowB A.length r = true) (hs : rowB B.length s = true) : rowB (B.foldl addN A).length (joinR A B r s) = true := by
  unfold rowB joinR
  rw [Bool.and_eq_true, decide_eq_true_eq, List.all_eq_true]
  refine ⟨by simp, fun v hv => ?_⟩
  obtain ⟨x, -, rfl⟩ := List.mem_map.1 hv
  exact orN_may (cell_may hr x) (cell_may hs x)
theorem may_rows {t : Tab} (h : mayT t = true) : namesB t.vars = true ∧ ∀ r ∈ t.rows, rowB t.vars.length r = true := by
  unfold mayT at h
  rw [Bool.and_eq_true, List.all_eq_true] at h
  exact h
theorem names_parts {l : List ByteArray} (h : namesB l = true) : l.length ≤ 64 ∧ (∀ x ∈ l, val.nameB x = true) ∧ l.Nodup := by
  unfold namesB at h
  rw [Bool.and_eq_true, Bool.and_eq_true, decide_eq_true_eq, decide_eq_true_eq, List.all_eq_true] at h
  exact ⟨h.1.1, h.1.2, h.2⟩
theorem names_fold {A B : List ByteArray} (ha : namesB A = true) (hb : namesB B = true) (hl : (B.foldl addN A).length ≤ 64) : namesB (B.foldl addN A) = true := by
  obtain ⟨-, a2, a3⟩ := names_parts ha
  obtain ⟨-, b2, b3⟩ := names_parts hb
  unfold namesB
  rw [Bool.and_eq_true, Bool.and_eq_true, decide_eq_true_eq, decide_eq_true_eq, List.all_eq_true]
  refine ⟨⟨hl, fun x hx => ?_⟩, foldN_nodup _ _ a3⟩
  rcases (mem_foldN B A).1 hx with h | h
  · exact a2 x h
  · exact b2 x h
theorem joinT_may {a b : Tab} (ha : mayT a = true) (hb : mayT b = true) : mayT (joinT a b) = true := by
  obtain ⟨a1, a2⟩ := may_rows ha
  obtain ⟨b1, b2⟩ := may_rows hb
  unfold joinT
  by_cases hl : (b.vars.foldl addN a.vars).length ≤ 64
  · rw [if_pos hl]
    unfold mayT
    rw [Bool.and_eq_true, List.all_eq_true]
    refine ⟨names_fold a1 b1 hl, fun x hx => ?_⟩
    obtain ⟨r, hr, h2⟩ := List.mem_flatMap.1 hx
    obtain ⟨s, hs, h3⟩ := List.mem_filterMap.1 h2
    by_cases hc : compat a.vars b.vars r s = true
    · rw [if_pos hc] at h3
      cases h3
      exact joinR_may (a2 r hr) (b2 s hs)
    · rw [if_neg hc] at h3; cases h3
  · rw [if_neg hl]; decide
theorem projT_may {a : Tab} {vs : List ByteArray} (ha : mayT a = true) (hv : namesB vs = true) : mayT (projT a vs) = true := by
  obtain ⟨a1, a2⟩ := may_rows ha
  unfold projT mayT
  rw [Bool.and_eq_true, List.all_eq_true]
  refine ⟨hv, fun x hx => ?_⟩
  obtain ⟨r, hr, rfl⟩ := List.mem_map.1 hx
  unfold rowB
  rw [Bool.and_eq_true, decide_eq_true_eq, List.all_eq_true]
  refine ⟨by simp, fun v hv => ?_⟩
  obtain ⟨y, -, rfl⟩ := List.mem_map.1 hv
  exact cell_may (a2 r hr) y
/-- A join goes in any order. -/
theorem join_comm {a b : Tab} (ha : mayT a = true) (hb : mayT b = true) (hl : a.vars.length + b.vars.length ≤ 64) :
    sameT (joinT a b) (projT (joinT b a) (joinT a b).vars) = true := by
  have hab : (b.vars.foldl addN a.vars).length ≤ 64 := Nat.le_trans (foldN_len _ _) hl
  have hba : (a.vars.foldl addN b.vars).length ≤ 64 := Nat.le_trans (foldN_len _ _) (by omega)
  have hj := joinT_may ha hb
  have hv : (joinT a b).vars = b.vars.foldl addN a.vars := by unfold joinT; rw [if_pos hab]
  have hn : namesB (joinT a b).vars = true := (may_rows hj).1
  refine same_perm hj (projT_may (joinT_may hb ha) hn) rfl ?_
  have e1 : (joinT a b).rows = joinRows a b := by unfold joinT; rw [if_pos hab]
  have e2 : (projT (joinT b a) (joinT a b).vars).rows = (joinRows b a).map fun r => (b.vars.foldl addN a.vars).map (cellF (a.vars.foldl addN b.vars) r) := by
    unfold projT
    rw [hv]
    unfold joinT
    rw [if_pos hba]
  rw [e1, e2]
  unfold joinRows
  rw [List.map_flatMap]
  refine (flat_swap (fun r s => if compat a.vars b.vars r s = true then some (joinR a.vars b.vars r s) else none) a.rows b.rows).trans (List.Perm.of_eq ?_)
  refine flat_congr fun s hs => ?_
  rw [List.map_filterMap]
  refine filter_congr2 fun r hr => ?_
  rw [compat_comm b.vars a.vars s r]
  by_cases hc : compat a.vars b.vars r s = true
  · rw [if_pos hc, if_pos hc, Option.map_some, join_turn ((may_rows ha).2 r hr) ((may_rows hb).2 s hs) hc]
  · rw [if_neg hc, if_neg hc]; rfl
def unitT : Tab := ⟨[], [[]]⟩
def zeroT : Tab := ⟨[], []⟩
theorem unit_may : mayT unitT = true := by decide
theorem join_unit {a : Tab} (ha : mayT a = true) : joinT a unitT = a := by
  obtain ⟨a1, a2⟩ := may_rows ha
  obtain ⟨h64, -, hnd⟩ := names_parts a1
  unfold joinT
  have hv : unitT.vars.foldl addN a.vars = a.vars := rfl
  rw [hv, if_pos h64]
  have : joinRows a unitT = a.rows := by
    unfold joinRows
    have e : ∀ r ∈ a.rows, (unitT.rows.filterMap fun s => if compat a.vars unitT.vars r s = true then some (joinR a.vars unitT.vars r s) else none) = [r] := fun r hr => by
      have hr2 := a2 r hr
      have hlen : r.length = a.vars.length := by unfold rowB at hr2; rw [Bool.and_eq_true, decide_eq_true_eq] at hr2; exact hr2.1
      have hc : compat a.vars unitT.vars r [] = true := rfl
      have hj : joinR a.vars unitT.vars r [] = r := by
        unfold joinR
        rw [hv]
        have h3 : (a.vars.map fun x => orN (cellF a.vars r x) (cellF unitT.vars [] x)) = a.vars.map (cellF a.vars r) := by
          refine List.map_congr_left fun x hx => ?_
          unfold orN
          by_cases h : isN (cellF a.vars r x) = true
          · rw [if_pos h, may_null (cell_may hr2 x) h]; rfl
          · rw [if_neg h]
        rw [h3, cells_row hnd hlen]
      show List.filterMap _ [[]] = [r]
      rw [List.filterMap_cons, if_pos hc, hj]
      rfl
    rw [flat_congr e]
    simp
  rw [this]
theorem unit_join {a : Tab} (ha : mayT a = true) : joinT unitT a = a := by
  obtain ⟨a1, a2⟩ := may_rows ha
  obtain ⟨h64, -, hnd⟩ := names_parts a1
  have hfold : ∀ (l m : List ByteArray), (m ++ l).Nodup → l.foldl addN m = m ++ l := by
    intro l
    induction l with
    | nil => intro m _; simp
    | cons v l ih =>
      intro m hm
      have hv : v ∉ m := fun h => by
        rw [List.nodup_append] at hm
        exact hm.2.2 v h v (by simp) rfl
      have e : addN m v = m ++ [v] := by unfold addN; rw [if_neg hv]
      rw [List.foldl_cons, e, ih (m ++ [v]) (by simpa using hm)]
      simp
  have hv : a.vars.foldl addN unitT.vars = a.vars := by
    exact hfold a.vars [] (by simpa using hnd)
  unfold joinT
  rw [hv, if_pos h64]
  have : joinRows unitT a = a.rows := by
    unfold joinRows
    have e : ∀ s ∈ a.rows, (if compat unitT.vars a.vars [] s = true then some (joinR unitT.vars a.vars [] s) else none) = some s := fun s hs => by
      have hs2 := a2 s hs
      have hlen : s.length = a.vars.length := by unfold rowB at hs2; rw [Bool.and_eq_true, decide_eq_true_eq] at hs2; exact hs2.1
      have hc : compat unitT.vars a.vars [] s = true := by
        rw [compat_iff]
        intro x hx
        cases hx
      have hj : joinR unitT.vars a.vars [] s = s := by
        unfold joinR
        rw [hv]
        have h3 : (a.vars.map fun x => orN (cellF unitT.vars [] x) (cellF a.vars s x)) = a.vars.map (cellF a.vars s) := by
          refine List.map_congr_left fun x hx => ?_
          unfold orN
          rw [if_pos (show isN (cellF unitT.vars [] x) = true from rfl)]
        rw [h3, cells_row hnd hlen]
      rw [if_pos hc, hj]
    show List.flatMap _ [[]] = a.rows
    rw [List.flatMap_cons, List.flatMap_nil, List.append_nil, filter_congr2 e]
    exact List.filterMap_some
  rw [this]
theorem join_zero (a : Tab) : (joinT a zeroT).rows = [] := by
  unfold joinT
  split
  · show joinRows a zeroT = []
    unfold joinRows
    simp [zeroT]
  · rfl
theorem same_self {a : Tab} (ha : mayT a = true) : sameT a a = true := same_perm ha ha rfl (List.Perm.refl _)
end Go.Proofs.YtjpondgobogkeaaGreatDoor.tab

/- Plain: laws of unions, differences, projections, distinct rows. -/
namespace Go.Proofs.YtjpondgobogkeaaGreatDoor.tab
open Go.RowKit dec val
set_option linter.unusedVariables false
set_option linter.unusedSimpArgs false
theorem row_len {n : Nat} {r : List V} (h : rowB n r = true) : r.length = n := by unfold rowB at h; rw [Bool.and_eq_true, decide_eq_true_eq] at h; exact h.1
theorem map_rows {t : Tab} (h : mayT t = true) : t.rows.map (fun r => t.vars.map (cellF t.vars r)) = t.rows := by
  obtain ⟨h1, h2⟩ := may_rows h
  obtain ⟨-, -, hn⟩ := names_parts h1
  have e : ∀ r ∈ t.rows, t.vars.map (cellF t.vars r) = r := fun r hr => cells_row hn (row_len (h2 r hr))
  rw [List.map_congr_left e, List.map_id']
theorem fold_self (l : List ByteArray) : l.foldl addN l = l := foldN_self l l (fun _ h => h)
/-- A union of two tables with the same variables. -/
theorem union_same {a b : Tab} (ha : mayT a = true) (hb : mayT b = true) (hv : b.vars = a.vars) : unionT a b = ⟨a.vars, a.rows ++ b.rows⟩ := by
  have h64 := (names_parts (may_rows ha).1).1
  unfold unionT
  rw [hv, fold_self, if_pos h64, map_rows ha]
  have h2 := map_rows hb
  rw [hv] at h2
  rw [h2]
theorem half_may {b : Tab} (hb : mayT b = true) {l : List (List V)} (hl : ∀ r ∈ l, r ∈ b.rows) : mayT ⟨b.vars, l⟩ = true := by
  obtain ⟨h1, h2⟩ := may_rows hb
  unfold mayT
  rw [Bool.and_eq_true, List.all_eq_true]
  exact ⟨h1, fun r hr => h2 r (hl r hr)⟩
theorem union_halves {b : Tab} (hb : mayT b = true) (n : Nat) : unionT ⟨b.vars, b.rows.take n⟩ ⟨b.vars, b.rows.drop n⟩ = b := by
  rw [union_same (half_may hb fun r hr => List.mem_of_mem_take hr) (half_may hb fun r hr => List.mem_of_mem_drop hr) rfl]
  show Tab.mk b.vars (b.rows.take n ++ b.rows.drop n) = b
  rw [List.take_append_drop]
theorem minus_may {a : Tab} (b : Tab) (ha : mayT a = true) : mayT (minusT a b) = true := half_may ha fun r hr => (List.mem_filter.1 hr).1
theorem minus_halves (a b : Tab) (n : Nat) : minusT a b = minusT (minusT a ⟨b.vars, b.rows.take n⟩) ⟨b.vars, b.rows.drop n⟩ := by
  unfold minusT
  simp only [List.filter_filter]
  congr 1
  refine List.filter_congr fun r hr => ?_
  have e : b.rows.any (fun s => compat a.vars b.vars r s && shared a.vars b.vars r s) = ((b.rows.take n).any (fun s => compat a.vars b.vars r s && shared a.vars b.vars r s) || (b.rows.drop n).any (fun s => compat a.vars b.vars r s && shared a.vars b.vars r s)) := by
    rw [← List.any_append, List.take_append_drop]
  rw [e, Bool.not_or, Bool.and_comm]
theorem join_halves {a b : Tab} (ha : mayT a = true) (hb : mayT b = true) (hl : a.vars.length + b.vars.length ≤ 64) (n : Nat) :
    sameT (joinT a b) (unionT (joinT a ⟨b.vars, b.rows.take n⟩) (joinT a ⟨b.vars, b.rows.drop n⟩)) = true := by
  have h64 : (b.vars.foldl addN a.vars).length ≤ 64 := Nat.le_trans (foldN_len _ _) hl
  have hb1 : mayT ⟨b.vars, b.rows.take n⟩ = true := half_may hb fun r hr => List.mem_of_mem_take hr
  have hb2 : mayT ⟨b.vars, b.rows.drop n⟩ = true := half_may hb fun r hr => List.mem_of_mem_drop hr
  have j1 := joinT_may ha hb1
  have j2 := joinT_may ha hb2
  have e1 : joinT a ⟨b.vars, b.rows.take n⟩ = ⟨b.vars.foldl addN a.vars, joinRows a ⟨b.vars, b.rows.take n⟩⟩ := if_pos h64
  have e2 : joinT a ⟨b.vars, b.rows.drop n⟩ = ⟨b.vars.foldl addN a.vars, joinRows a ⟨b.vars, b.rows.drop n⟩⟩ := if_pos h64
  have e0 : joinT a b = ⟨b.vars.foldl addN a.vars, joinRows a b⟩ := if_pos h64
  rw [union_same j1 j2 (by rw [e1, e2])]
  have hp : (joinT a b).rows.Perm ((joinT a ⟨b.vars, b.rows.take n⟩).rows ++ (joinT a ⟨b.vars, b.rows.drop n⟩).rows) := by
    rw [e0, e1, e2]
    unfold joinRows
    refine List.Perm.trans (List.Perm.of_eq ?_) (flat_append _ _ a.rows)
    refine flat_congr fun r hr => ?_
    rw [← List.filterMap_append, List.take_append_drop]
  refine same_perm (joinT_may ha hb) ?_ (by rw [e0, e1]) hp
  unfold mayT
  rw [Bool.and_eq_true, List.all_eq_true]
  refine ⟨(may_rows j1).1, fun r hr => ?_⟩
  rcases List.mem_append.1 hr with h | h
  · exact (may_rows j1).2 r h
  · have := (may_rows j2).2 r h
    rw [e2] at this
    rw [e1]
    exact this
theorem unionT_may {a b : Tab} (ha : mayT a = true) (hb : mayT b = true) : mayT (unionT a b) = true := by
  obtain ⟨a1, a2⟩ := may_rows ha
  obtain ⟨b1, b2⟩ := may_rows hb
  unfold unionT
  by_cases hl : (b.vars.foldl addN a.vars).length ≤ 64
  · rw [if_pos hl]
    unfold mayT
    rw [Bool.and_eq_true, List.all_eq_true]
    refine ⟨names_fold a1 b1 hl, fun x hx => ?_⟩
    have hrow : ∀ (ns : List ByteArray) (r : List V), rowB ns.length r = true → rowB (b.vars.foldl addN a.vars).length ((b.vars.foldl addN a.vars).map (cellF ns r)) = true := fun ns r h => by
      unfold rowB
      rw [Bool.and_eq_true, decide_eq_true_eq, List.all_eq_true]
      refine ⟨by simp, fun v hv => ?_⟩
      obtain ⟨y, -, rfl⟩ := List.mem_map.1 hv
      exact cell_may h y
    rcases List.mem_append.1 hx with h | h
    · obtain ⟨r, hr, rfl⟩ := List.mem_map.1 h
      exact hrow _ _ (a2 r hr)
    · obtain ⟨s, hs, rfl⟩ := List.mem_map.1 h
      exact hrow _ _ (b2 s hs)
  · rw [if_neg hl]; decide
theorem union_comm {a b : Tab} (ha : mayT a = true) (hb : mayT b = true) (hl : a.vars.length + b.vars.length ≤ 64) :
    sameT (unionT a b) (projT (unionT b a) (unionT a b).vars) = true := by
  have hab : (b.vars.foldl addN a.vars).length ≤ 64 := Nat.le_trans (foldN_len _ _) hl
  have hba : (a.vars.foldl addN b.vars).length ≤ 64 := Nat.le_trans (foldN_len _ _) (by omega)
  have hu := unionT_may ha hb
  have e0 : unionT a b = ⟨b.vars.foldl addN a.vars, (a.rows.map fun r => (b.vars.foldl addN a.vars).map (cellF a.vars r)) ++ b.rows.map fun s => (b.vars.foldl addN a.vars).map (cellF b.vars s)⟩ := if_pos hab
  have e1 : unionT b a = ⟨a.vars.foldl addN b.vars, (b.rows.map fun r => (a.vars.foldl addN b.vars).map (cellF b.vars r)) ++ a.rows.map fun s => (a.vars.foldl addN b.vars).map (cellF a.vars s)⟩ := if_pos hba
  refine same_perm hu (projT_may (unionT_may hb ha) (may_rows hu).1) rfl ?_
  unfold projT
  rw [e0, e1]
  simp only [List.map_append, List.map_map]
  have hr : ∀ (ns : List ByteArray) (r : List V), ((fun r => (b.vars.foldl addN a.vars).map (cellF (a.vars.foldl addN b.vars) r)) ∘ fun r => (a.vars.foldl addN b.vars).map (cellF ns r)) r = (b.vars.foldl addN a.vars).map (cellF ns r) := fun ns r => by
    refine List.map_congr_left fun x hx => ?_
    exact cell_map (by rw [mem_foldN] at hx ⊢; exact hx.symm)
  rw [List.map_congr_left fun r _ => hr b.vars r, List.map_congr_left fun r _ => hr a.vars r]
  exact List.perm_append_comm
theorem proj_proj (a : Tab) {vs : List ByteArray} (h : ∀ x ∈ vs, x ∈ a.vars) : projT (projT a a.vars) vs = projT a vs := by
  unfold projT
  simp only [List.map_map]
  congr 1
  refine List.map_congr_left fun r hr => ?_
  refine List.map_congr_left fun x hx => ?_
  exact cell_map (h x hx)
/-- Of rows with the same key the first. -/
def distF : List (List UInt8) → List (List V) → List (List V)
  | _, [] => []
  | seen, r :: l => if encL r ∈ seen then distF seen l else r :: distF (encL r :: seen) l
def distT (a : Tab) : Tab := ⟨a.vars, distF [] a.rows⟩
theorem distF_mem : ∀ (l : List (List V)) (seen : List (List UInt8)), ∀ r ∈ distF seen l, r ∈ l
  | [], _, r, h => by simp [distF] at h
  | a :: l, seen, r, h => by
    rw [distF] at h
    split at h
    · exact List.mem_cons_of_mem _ (distF_mem l _ r h)
    · rcases List.mem_cons.1 h with rfl | h
      · simp
      · exact List.mem_cons_of_mem _ (distF_mem l _ r h)
theorem distF_seen : ∀ (l : List (List V)) (seen : List (List UInt8)), (∀ r ∈ l, encL r ∈ seen) → distF seen l = []
  | [], _, _ => rfl
  | a :: l, seen, h => by
    rw [distF, if_pos (h a (by simp))]
    exact distF_seen l seen fun r hr => h r (by simp [hr])
theorem distF_app : ∀ (l m : List (List V)) (seen : List (List UInt8)), (∀ r ∈ m, r ∈ l ∨ encL r ∈ seen) → distF seen (l ++ m) = distF seen l
  | [], m, seen, h => by
    rw [List.nil_append, distF]
    exact distF_seen m seen fun r hr => by
      rcases h r hr with h1 | h1
      · cases h1
      · exact h1
  | a :: l, m, seen, h => by
    rw [List.cons_append, distF, distF]
    by_cases ha : encL a ∈ seen
    · rw [if_pos ha, if_pos ha]
      refine distF_app l m seen fun r hr => ?_
      rcases h r hr with h1 | h1
      · rcases List.mem_cons.1 h1 with rfl | h2
        · exact .inr ha
        · exact .inl h2
      · exact .inr h1
    · rw [if_neg ha, if_neg ha]
      rw [distF_app l m _ fun r hr => ?_]
      rcases h r hr with h1 | h1
      · rcases List.mem_cons.1 h1 with rfl | h2
        · exact .inr (by simp)
        · exact .inl h2
      · exact .inr (by simp [h1])
theorem dist_may {a : Tab} (ha : mayT a = true) : mayT (distT a) = true := half_may ha fun r hr => distF_mem _ _ r hr
theorem dist_union {a : Tab} (ha : mayT a = true) : sameT (distT (unionT a a)) (distT a) = true := by
  have e : distT (unionT a a) = distT a := by
    rw [union_same ha ha rfl]
    unfold distT
    simp only
    rw [distF_app a.rows a.rows [] fun r hr => .inl hr]
  rw [e]
  exact same_self (dist_may ha)
end Go.Proofs.YtjpondgobogkeaaGreatDoor.tab

/- Plain: the rows of a join, step by step. -/
namespace Go.Proofs.YtjpondgobogkeaaGreatDoor.tab
open Go.RowKit dec val
set_option linter.unusedVariables false
set_option linter.unusedSimpArgs false
/-- What one pair of rows gives. -/
def pairJ (A B : List ByteArray) (r s : List V) : Option (List V) := if compat A B r s = true then some (joinR A B r s) else none
/-- The rows after i rows of a, and j rows of b with the next. -/
def rowsIJ (a b : Tab) (i j : Nat) : List (List V) :=
  ((a.rows.take i).flatMap fun r => b.rows.filterMap (pairJ a.vars b.vars r)) ++ (b.rows.take j).filterMap (pairJ a.vars b.vars (a.rows.getD i []))
theorem rowsIJ_zero (a b : Tab) : rowsIJ a b 0 0 = [] := by simp [rowsIJ]
theorem rowsIJ_end (a b : Tab) : rowsIJ a b a.rows.length 0 = joinRows a b := by
  unfold rowsIJ joinRows
  rw [List.take_length, List.take_zero, List.filterMap_nil, List.append_nil]
  rfl
theorem rowsIJ_next (a b : Tab) {i : Nat} (h : i < a.rows.length) : rowsIJ a b (i + 1) 0 = rowsIJ a b i b.rows.length := by
  unfold rowsIJ
  rw [List.take_succ_eq_append_getElem h, List.flatMap_append, List.take_zero, List.filterMap_nil, List.append_nil, List.take_length]
  simp [h]
theorem rowsIJ_yes (a b : Tab) {i j : Nat} (h : i < a.rows.length) (hj : j < b.rows.length) (hc : compat a.vars b.vars a.rows[i] b.rows[j] = true) : rowsIJ a b i (j + 1) = rowsIJ a b i j ++ [joinR a.vars b.vars a.rows[i] b.rows[j]] := by
  unfold rowsIJ
  rw [List.take_succ_eq_append_getElem hj, List.filterMap_append, ← List.append_assoc]
  congr 1
  simp [h, pairJ, hc]
theorem rowsIJ_no (a b : Tab) {i j : Nat} (h : i < a.rows.length) (hj : j < b.rows.length) (hc : compat a.vars b.vars a.rows[i] b.rows[j] = false) : rowsIJ a b i (j + 1) = rowsIJ a b i j := by
  unfold rowsIJ
  rw [List.take_succ_eq_append_getElem hj, List.filterMap_append, ← List.append_assoc]
  simp [h, pairJ, hc]
theorem rowsIJ_len (a b : Tab) : ∀ (i j : Nat), i < a.rows.length → j ≤ b.rows.length → (rowsIJ a b i j).length ≤ i * b.rows.length + j
  | 0, j, h, hj => by
    unfold rowsIJ
    simp only [List.take_zero, List.flatMap_nil, List.nil_append]
    refine Nat.le_trans (List.length_filterMap_le _ _) ?_
    rw [List.length_take]
    omega
  | i + 1, j, h, hj => by
    have ih := rowsIJ_len a b i b.rows.length (by omega) (Nat.le_refl _)
    rw [← rowsIJ_next a b (by omega)] at ih
    have e : (rowsIJ a b (i + 1) j).length ≤ (rowsIJ a b (i + 1) 0).length + j := by
      unfold rowsIJ
      rw [List.length_append, List.take_zero, List.filterMap_nil, List.append_nil]
      have := List.length_filterMap_le (pairJ a.vars b.vars (a.rows.getD (i + 1) [])) (b.rows.take j)
      rw [List.length_take] at this
      omega
    rw [Nat.add_mul, Nat.one_mul]
    omega
end Go.Proofs.YtjpondgobogkeaaGreatDoor.tab

/- Plain: each joined row's cells are one row's or the other's; what stands where in a join. -/
namespace Go.Proofs.YtjpondgobogkeaaGreatDoor.tab
open Go.RowKit dec val
set_option linter.unusedVariables false
set_option linter.unusedSimpArgs false
theorem rowsIJ_prefix (a b : Tab) {i j : Nat} (h : i < a.rows.length) (hj : j ≤ b.rows.length) : ∃ m, joinRows a b = rowsIJ a b i j ++ m := by
  have e : joinRows a b = a.rows.flatMap fun r => b.rows.filterMap (pairJ a.vars b.vars r) := rfl
  rw [e]
  unfold rowsIJ
  refine ⟨(b.rows.drop j).filterMap (pairJ a.vars b.vars (a.rows.getD i [])) ++ (a.rows.drop (i + 1)).flatMap fun r => b.rows.filterMap (pairJ a.vars b.vars r), ?_⟩
  rw [List.append_assoc]
  conv => lhs; rw [← List.take_append_drop i a.rows]
  rw [List.flatMap_append]
  congr 1
  rw [List.drop_eq_getElem_cons h, List.flatMap_cons, ← List.append_assoc, ← List.filterMap_append, List.take_append_drop]
  simp [h]
theorem row_at (a b : Tab) {i j : Nat} (h : i < a.rows.length) (hj : j < b.rows.length) (hc : compat a.vars b.vars a.rows[i] b.rows[j] = true) :
    ∃ hn : (rowsIJ a b i j).length < (joinRows a b).length, (joinRows a b)[(rowsIJ a b i j).length] = joinR a.vars b.vars a.rows[i] b.rows[j] := by
  obtain ⟨m, hm⟩ := rowsIJ_prefix a b h (show j + 1 ≤ b.rows.length from hj)
  rw [rowsIJ_yes a b h hj hc, List.append_assoc] at hm
  have hl : (rowsIJ a b i j).length < (joinRows a b).length := by rw [hm]; simp
  refine ⟨hl, ?_⟩
  have := List.getElem_of_eq hm hl
  rw [this, List.getElem_append_right (Nat.le_refl _)]
  simp
theorem nest_a {A B : List ByteArray} {r s : List V} {x : ByteArray} (h : isN (cellF A r x) = false) : orN (cellF A r x) (cellF B s x) = cellF A r x := by
  unfold orN
  rw [h]; rfl
theorem nest_b {A B : List ByteArray} {r s : List V} {x : ByteArray} (hl : r.length = A.length) (hc : compat A B r s = true) (hb : x ∈ B) (h : isN (cellF B s x) = false) : orN (cellF A r x) (cellF B s x) = cellF B s x := by
  unfold orN
  by_cases h1 : isN (cellF A r x) = true
  · rw [if_pos h1]
  · rw [if_neg h1]
    by_cases ha : x ∈ A
    · have := (compat_iff A B r s).1 hc x ha hb
      unfold okC at this
      rw [h, Bool.eq_false_iff.2 h1] at this
      exact (sameP_iff _ _).1 (by simpa using this)
    · rw [cell_out hl ha] at h1
      exact absurd null_isN h1
theorem joinR_at (A B : List ByteArray) (r s : List V) (v : Nat) (h : v < (B.foldl addN A).length) : ∃ h2 : v < (joinR A B r s).length, (joinR A B r s)[v] = orN (cellF A r (B.foldl addN A)[v]) (cellF B s (B.foldl addN A)[v]) :=
  ⟨by unfold joinR; simpa using h, by unfold joinR; rw [List.getElem_map]⟩
/-- The place of a text, and the cell there. -/
theorem cell_at {ns : List ByteArray} {r : List V} (hl : r.length = ns.length) {x : ByteArray} (h : x ∈ ns) : ∃ h2 : ns.idxOf x < r.length, r[ns.idxOf x] = cellF ns r x := by
  have h2 : ns.idxOf x < r.length := by rw [hl]; exact List.idxOf_lt_length_of_mem h
  refine ⟨h2, ?_⟩
  unfold cellF
  rw [List.getD_eq_getElem?_getD, List.getElem?_eq_getElem h2]
  rfl
theorem nest_pack {A B J : Tab} (hJv : J.vars = B.vars.foldl addN A.vars) (hJr : J.rows = joinRows A B) (i k : Nat) (hi : i < A.rows.length) (hk : k < B.rows.length) (hc : compat A.vars B.vars A.rows[i] B.rows[k] = true) :
    ∃ hn : (rowsIJ A B i k).length < J.rows.length, J.rows[(rowsIJ A B i k).length].length = J.vars.length ∧ ∀ v (hv : v < J.vars.length) (hv2 : v < J.rows[(rowsIJ A B i k).length].length), J.rows[(rowsIJ A B i k).length][v] = orN (cellF A.vars A.rows[i] J.vars[v]) (cellF B.vars B.rows[k] J.vars[v]) := by
  obtain ⟨h1, h2⟩ := row_at A B hi hk hc
  have hn : (rowsIJ A B i k).length < J.rows.length := by rw [hJr]; exact h1
  have e : J.rows[(rowsIJ A B i k).length] = joinR A.vars B.vars A.rows[i] B.rows[k] := (List.getElem_of_eq hJr hn).trans h2
  refine ⟨hn, ?_, fun v hv hv2 => ?_⟩
  · rw [e, hJv]; unfold joinR; rw [List.length_map]
  · have hv3 : v < (B.vars.foldl addN A.vars).length := by rw [← hJv]; exact hv
    obtain ⟨h4, h5⟩ := joinR_at A.vars B.vars A.rows[i] B.rows[k] v hv3
    have e2 : J.vars[v] = (B.vars.foldl addN A.vars)[v] := List.getElem_of_eq hJv hv
    rw [e2]
    exact (List.getElem_of_eq e hv2).trans h5
end Go.Proofs.YtjpondgobogkeaaGreatDoor.tab
