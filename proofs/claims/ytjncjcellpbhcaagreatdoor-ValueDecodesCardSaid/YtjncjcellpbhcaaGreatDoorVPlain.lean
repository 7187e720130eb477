/- Texts VOrd, VLaw, VWt, one behind the other. -/
import Derived.Test.YtjncjcellpbhcaaGreatDoorValChk
import Derived.Test.YtjncjcellpbhcaaGreatDoorDecC
/- Plain: values in order: the specifications, and that they order. -/
namespace Go.Proofs.YtjncjcellpbhcaaGreatDoor.val
open Go.RowKit dec
set_option linter.unusedVariables false
set_option linter.unusedSimpArgs false
/-! ### Bytes -/
theorem bl_irr : ∀ a : List UInt8, Op.bytesLess a a = false
  | [] => rfl
  | a :: r => by simp [Op.bytesLess, bl_irr r]
theorem bl_tri : ∀ a b : List UInt8, Op.bytesLess a b = true ∨ a = b ∨ Op.bytesLess b a = true
  | [], [] => .inr (.inl rfl)
  | [], b :: s => .inl rfl
  | a :: r, [] => .inr (.inr rfl)
  | a :: r, b :: s => by
    simp only [Op.bytesLess, Bool.or_eq_true, Bool.and_eq_true, decide_eq_true_eq, beq_iff_eq]
    rcases bl_tri r s with h | h | h
    · by_cases e : a = b
      · exact .inl (.inr ⟨e, h⟩)
      · rcases Nat.lt_or_gt_of_ne (fun h => e (UInt8.toNat_inj.1 h)) with h2 | h2
        · exact .inl (.inl (UInt8.lt_iff_toNat_lt.2 h2))
        · exact .inr (.inr (.inl (UInt8.lt_iff_toNat_lt.2 h2)))
    · by_cases e : a = b
      · exact .inr (.inl (by rw [e, h]))
      · rcases Nat.lt_or_gt_of_ne (fun h => e (UInt8.toNat_inj.1 h)) with h2 | h2
        · exact .inl (.inl (UInt8.lt_iff_toNat_lt.2 h2))
        · exact .inr (.inr (.inl (UInt8.lt_iff_toNat_lt.2 h2)))
    · by_cases e : a = b
      · exact .inr (.inr (.inr ⟨e.symm, h⟩))
      · rcases Nat.lt_or_gt_of_ne (fun h => e (UInt8.toNat_inj.1 h)) with h2 | h2
        · exact .inl (.inl (UInt8.lt_iff_toNat_lt.2 h2))
        · exact .inr (.inr (.inl (UInt8.lt_iff_toNat_lt.2 h2)))
theorem bl_trans : ∀ a b c : List UInt8, Op.bytesLess a b = true → Op.bytesLess b c = true → Op.bytesLess a c = true
  | _, _, [], _, h => by cases ‹List UInt8› <;> simp [Op.bytesLess] at h
  | _, [], _ :: _, h, _ => by cases ‹List UInt8› <;> simp [Op.bytesLess] at h
  | [], _ :: _, _ :: _, _, _ => rfl
  | a :: r, b :: s, c :: t, h, k => by
    simp only [Op.bytesLess, Bool.or_eq_true, Bool.and_eq_true, decide_eq_true_eq, beq_iff_eq] at h k ⊢
    rcases h with h | ⟨rfl, h⟩
    · rcases k with k | ⟨rfl, k⟩
      · exact .inl (UInt8.lt_trans h k)
      · exact .inl h
    · rcases k with k | ⟨rfl, k⟩
      · exact .inl k
      · exact .inr ⟨rfl, bl_trans r s t h k⟩
theorem bl_asym (a b : List UInt8) (h : Op.bytesLess a b = true) : Op.bytesLess b a = false := by
  apply Bool.eq_false_iff.2
  intro k
  have := bl_trans a b a h k
  rw [bl_irr] at this
  cases this
/-- The order of two texts. -/
def cmpL (a b : List UInt8) : Int := if Op.bytesLess a b then -1 else if Op.bytesLess b a then 1 else 0
def cmpT (a b : ByteArray) : Int := cmpL a.toList b.toList
/-! ### Three in a row -/
def Tri (p q r : Int) : Prop := (p ≤ 0 → q ≤ 0 → r ≤ 0) ∧ (p < 0 → q ≤ 0 → r < 0) ∧ (p ≤ 0 → q < 0 → r < 0) ∧ (p = 0 → q = 0 → r = 0)
def orI (p q : Int) : Int := if p = 0 then q else p
def In1 (p : Int) : Prop := p = -1 ∨ p = 0 ∨ p = 1
theorem Tri.or {p q r p' q' r' : Int} (h : Tri p q r) (k : p = 0 → q = 0 → r = 0 → Tri p' q' r') : Tri (orI p p') (orI q q') (orI r r') := by
  unfold Tri orI at *
  by_cases hp : p = 0
  · by_cases hq : q = 0
    · have hr : r = 0 := h.2.2.2 hp hq
      rw [if_pos hp, if_pos hq, if_pos hr]
      exact k hp hq hr
    · rw [if_pos hp, if_neg hq]
      by_cases hr : r = 0
      · rw [if_pos hr]; omega
      · rw [if_neg hr]; omega
  · rw [if_neg hp]
    by_cases hq : q = 0
    · rw [if_pos hq]
      by_cases hr : r = 0
      · rw [if_pos hr]; omega
      · rw [if_neg hr]; omega
    · rw [if_neg hq]
      by_cases hr : r = 0
      · rw [if_pos hr]; omega
      · rw [if_neg hr]; omega
theorem orI_neg (p q : Int) : orI (-p) (-q) = - orI p q := by
  unfold orI
  by_cases h : p = 0
  · rw [if_pos h, if_pos (by omega)]
  · rw [if_neg h, if_neg (by omega)]
theorem In1.or {p q : Int} (h : In1 p) (k : In1 q) : In1 (orI p q) := by
  unfold orI
  split
  · exact k
  · exact h
theorem orI_zero (p q : Int) : orI p q = 0 ↔ p = 0 ∧ q = 0 := by
  unfold orI
  split
  · rename_i h; simp [h]
  · rename_i h; simp [h]
theorem orI_lt {p q : Int} (h : orI p q < 0) : p ≤ 0 ∧ (p = 0 → q < 0) := by
  unfold orI at h
  split at h
  · rename_i e; omega
  · rename_i e; omega
theorem cmpI_neg (x y : Int) : cmpI y x = - cmpI x y := by
  unfold cmpI
  by_cases h : x = y
  · rw [if_pos h, if_pos h.symm]; rfl
  · rw [if_neg h, if_neg (fun e => h e.symm)]
    by_cases h2 : x < y
    · rw [if_pos h2, if_neg (by omega)]; rfl
    · rw [if_neg h2, if_pos (by omega)]
theorem cmpI_in (x y : Int) : In1 (cmpI x y) := by
  unfold cmpI In1
  split
  · omega
  · split <;> omega
theorem cmpI_lt (x y : Int) : cmpI x y < 0 ↔ x < y := by
  unfold cmpI
  split
  · omega
  · split <;> omega
theorem cmpI_zero (x y : Int) : cmpI x y = 0 ↔ x = y := by
  unfold cmpI
  split
  · omega
  · split <;> omega
theorem cmpI_le (x y : Int) : cmpI x y ≤ 0 ↔ x ≤ y := by
  unfold cmpI
  split
  · omega
  · split <;> omega
theorem cmpI_tri (x y z : Int) : Tri (cmpI x y) (cmpI y z) (cmpI x z) := by
  unfold Tri
  simp only [cmpI_lt, cmpI_le, cmpI_zero]
  omega
theorem cmpI_self (x : Int) : cmpI x x = 0 := (cmpI_zero x x).2 rfl
theorem cmpL_neg (x y : List UInt8) : cmpL y x = - cmpL x y := by
  unfold cmpL
  cases h : Op.bytesLess x y
  · cases h2 : Op.bytesLess y x <;> simp
  · rw [bl_asym x y h]; simp
theorem cmpL_in (x y : List UInt8) : In1 (cmpL x y) := by
  unfold cmpL In1
  split
  · omega
  · split <;> omega
theorem cmpL_lt (x y : List UInt8) : cmpL x y < 0 ↔ Op.bytesLess x y = true := by
  unfold cmpL
  split
  · simp [*]
  · rename_i h
    split <;> simp [h]
theorem cmpL_zero (x y : List UInt8) : cmpL x y = 0 ↔ x = y := by
  constructor
  · intro h
    rcases bl_tri x y with e | e | e
    · have := (cmpL_lt x y).2 e; omega
    · exact e
    · have := (cmpL_lt y x).2 e
      rw [cmpL_neg] at this; omega
  · rintro rfl
    unfold cmpL
    rw [bl_irr]; rfl
theorem cmpL_tri (x y z : List UInt8) : Tri (cmpL x y) (cmpL y z) (cmpL x z) := by
  have key : ∀ a b : List UInt8, cmpL a b ≤ 0 ↔ Op.bytesLess a b = true ∨ a = b := by
    intro a b
    have h1 := cmpL_lt a b
    have h2 := cmpL_zero a b
    constructor
    · intro h
      by_cases e : cmpL a b = 0
      · exact .inr (h2.1 e)
      · exact .inl (h1.1 (by omega))
    · rintro (h | h)
      · have := h1.2 h; omega
      · have := h2.2 h; omega
  unfold Tri
  simp only [key, cmpL_lt, cmpL_zero]
  refine ⟨?_, ?_, ?_, ?_⟩
  · rintro (h | rfl) (k | rfl)
    · exact .inl (bl_trans _ _ _ h k)
    · exact .inl h
    · exact .inl k
    · exact .inr rfl
  · rintro h (k | rfl)
    · exact bl_trans _ _ _ h k
    · exact h
  · rintro (h | rfl) k
    · exact bl_trans _ _ _ h k
    · exact k
  · rintro rfl rfl; rfl
theorem toList_inj {a b : ByteArray} (h : a.toList = b.toList) : a = b := by
  rw [Go.ByteArray.toList_eq, Go.ByteArray.toList_eq] at h
  exact ba_ext h
theorem cmpT_zero (a b : ByteArray) : cmpT a b = 0 ↔ a = b := by
  unfold cmpT
  rw [cmpL_zero]
  exact ⟨toList_inj, fun h => by rw [h]⟩
/-! ### Values -/
def b2i (b : Bool) : Int := if b then 1 else 0
def isNum (k : Int) : Bool := decide (k = 2 ∨ k = 3)
/-- A number, in parts of 10^-20. -/
def numV (k n : Int) (t : ByteArray) : Int := if k = 2 then n * E20 else if chk t.data.toList then zof t.data.toList else 0
def rankV (s : Bool) (k : Int) : Int :=
  if k = 5 then 1 else if k = 6 then 2 else if k = 7 then 3 else if k = 9 then 4 else if k = 8 then 5 else if k = 10 then 6 else if k = 4 then 7 else if k = 1 then 8
  else if k = 2 ∨ k = 3 then 9 else if k = 0 then (if s then 0 else 10) else 11
/-- The order of two values of one rank, by what lists say of their elements. -/
def ordW (f : List V → List V → Int) : V → V → Int
  | .mk k b n t x l, .mk k2 b2 n2 t2 x2 l2 =>
    if isNum k then orI (cmpI (numV k n t) (numV k2 n2 t2)) (if k = 2 ∨ k2 = 2 then cmpI k k2 else cmpT t t2)
    else if k = 5 then f l l2
    else if k = 6 ∨ k = 7 then cmpI n n2
    else if k = 1 then cmpI (b2i b) (b2i b2)
    else orI (cmpT t t2) (cmpT x x2)
mutual
def ordV (s : Bool) : V → V → Int
  | .mk k b n t x l, .mk k2 b2 n2 t2 x2 l2 =>
    orI (cmpI (rankV s k) (rankV s k2))
      (if isNum k then orI (cmpI (numV k n t) (numV k2 n2 t2)) (if k = 2 ∨ k2 = 2 then cmpI k k2 else cmpT t t2)
      else if k = 5 then ordL s l l2
      else if k = 6 ∨ k = 7 then cmpI n n2
      else if k = 1 then cmpI (b2i b) (b2i b2)
      else orI (cmpT t t2) (cmpT x x2))
def ordL (s : Bool) : List V → List V → Int
  | [], [] => 0
  | [], _ :: _ => -1
  | _ :: _, [] => 1
  | v :: l, u :: m => orI (ordV s v u) (ordL s l m)
end
/-! Equality, of values that may be. -/
mutual
def sameP : V → V → Bool
  | .mk k b n t x l, .mk k2 b2 n2 t2 x2 l2 => decide (k = k2) && (decide (b = b2) && (decide (n = n2) && (decide (t.data.toList = t2.data.toList) && (decide (x.data.toList = x2.data.toList) && sameL l l2))))
def sameL : List V → List V → Bool
  | [], [] => true
  | [], _ :: _ => false
  | _ :: _, [] => false
  | v :: l, u :: m => sameP v u && sameL l m
end
mutual
theorem sameP_iff : ∀ v u : V, sameP v u = true ↔ v = u
  | .mk k b n t x l, .mk k2 b2 n2 t2 x2 l2 => by
    rw [sameP]
    simp only [Bool.and_eq_true, decide_eq_true_eq, sameL_iff l l2, V.mk.injEq]
    constructor
    · rintro ⟨h1, h2, h3, h4, h5, h6⟩; exact ⟨h1, h2, h3, ba_ext h4, ba_ext h5, h6⟩
    · rintro ⟨h1, h2, h3, h4, h5, h6⟩; exact ⟨h1, h2, h3, by rw [h4], by rw [h5], h6⟩
theorem sameL_iff : ∀ l m : List V, sameL l m = true ↔ l = m
  | [], [] => by rw [sameL]; simp
  | [], _ :: _ => by rw [sameL]; simp
  | _ :: _, [] => by rw [sameL]; simp
  | v :: l, u :: m => by rw [sameL, Bool.and_eq_true, sameP_iff v u, sameL_iff l m]; simp
end
def aliS (k k2 : Int) (same : Bool) : Int :=
  if (k = 5 ∨ k = 6 ∨ k = 7) ∨ (k2 = 5 ∨ k2 = 6 ∨ k2 = 7) then 2
  else if same then 1
  else if (k = 10 ∧ (k2 = 2 ∨ k2 = 3 ∨ k2 = 10 ∨ k2 = 4 ∨ k2 = 1)) ∨ (k2 = 10 ∧ (k = 2 ∨ k = 3 ∨ k = 10 ∨ k = 4 ∨ k = 1)) then 2 else 0
mutual
def eqlV (s : Bool) : V → V → Int
  | .mk k b n t x l, .mk k2 b2 n2 t2 x2 l2 =>
    if k = 0 ∨ k2 = 0 then 2
    else if isNum k && isNum k2 then b2i (decide (numV k n t = numV k2 n2 t2))
    else if s then aliS k k2 (sameP (.mk k b n t x l) (.mk k2 b2 n2 t2 x2 l2))
    else if k = 5 ∧ k2 = 5 then (if l.length = l2.length then eqlL s l l2 else 0)
    else b2i (sameP (.mk k b n t x l) (.mk k2 b2 n2 t2 x2 l2))
def eqlL (s : Bool) : List V → List V → Int
  | v :: l, u :: m => if eqlV s v u = 0 then 0 else if eqlL s l m = 0 then 0 else if eqlV s v u = 2 then 2 else eqlL s l m
  | _, _ => 1
end
def kindV : V → Int | .mk k _ _ _ _ _ => k
def equalV (s : Bool) (v u : V) : Int := if mayV v && mayV u then eqlV s v u else 2
def lessW : V → V → Int
  | .mk k b n t x l, .mk k2 b2 n2 t2 x2 l2 =>
    if isNum k && isNum k2 then b2i (decide (numV k n t < numV k2 n2 t2))
    else if k = 4 ∧ k2 = 4 then b2i (Op.bytesLess t.toList t2.toList)
    else if k = 1 ∧ k2 = 1 then b2i (!b && b2)
    else 2
def lessV (v u : V) : Int := if mayV v && mayV u then lessW v u else 2
/-! ### How many, how deep -/
mutual
def sizeV : V → Nat
  | .mk _ _ _ t x l => 1 + t.size / 64 + x.size / 64 + sizeL l
def sizeL : List V → Nat
  | [] => 0
  | v :: r => sizeV v + sizeL r
end
mutual
def deepV (d : Nat) : V → Bool
  | .mk _ _ _ _ _ l => decide (d ≤ 100) && deepL (d + 1) l
def deepL (d : Nat) : List V → Bool
  | [] => true
  | v :: r => deepV d v && deepL d r
end
end Go.Proofs.YtjncjcellpbhcaaGreatDoor.val

/- Plain: what the order and the equality of values hold. -/
namespace Go.Proofs.YtjncjcellpbhcaaGreatDoor.val
open Go.RowKit dec
set_option linter.unusedVariables false
set_option linter.unusedSimpArgs false
theorem rank_1 (s : Bool) (k : Int) : rankV s k = 1 ↔ k = 5 := by unfold rankV; repeat' split <;> omega
theorem rank_2 (s : Bool) (k : Int) : rankV s k = 2 ↔ k = 6 := by unfold rankV; repeat' split <;> omega
theorem rank_3 (s : Bool) (k : Int) : rankV s k = 3 ↔ k = 7 := by unfold rankV; repeat' split <;> omega
theorem rank_4 (s : Bool) (k : Int) : rankV s k = 4 ↔ k = 9 := by unfold rankV; repeat' split <;> omega
theorem rank_5 (s : Bool) (k : Int) : rankV s k = 5 ↔ k = 8 := by unfold rankV; repeat' split <;> omega
theorem rank_6 (s : Bool) (k : Int) : rankV s k = 6 ↔ k = 10 := by unfold rankV; repeat' split <;> omega
theorem rank_7 (s : Bool) (k : Int) : rankV s k = 7 ↔ k = 4 := by unfold rankV; repeat' split <;> omega
theorem rank_8 (s : Bool) (k : Int) : rankV s k = 8 ↔ k = 1 := by unfold rankV; repeat' split <;> omega
theorem rank_9 (s : Bool) (k : Int) : rankV s k = 9 ↔ (k = 2 ∨ k = 3) := by unfold rankV; repeat' split <;> omega
theorem rank_in (s : Bool) (k : Int) : 0 ≤ rankV s k ∧ rankV s k ≤ 11 := by unfold rankV; repeat' split <;> omega
theorem rank_null (s : Bool) : rankV s 0 = if s then 0 else 10 := by cases s <;> rfl
theorem rank_0 (k : Int) : rankV true k = 0 ↔ k = 0 := by unfold rankV; simp only [if_true]; repeat' split <;> omega
theorem rank_10 (k : Int) : rankV false k = 10 ↔ k = 0 := by unfold rankV; simp only [Bool.false_eq_true, if_false]; repeat' split <;> omega
theorem isNum_iff (k : Int) : isNum k = true ↔ (k = 2 ∨ k = 3) := by unfold isNum; exact decide_eq_true_iff
/-- What one rank has in common. -/
structure Cls (k k2 : Int) : Prop where
  num : isNum k2 = isNum k
  c5 : k2 = 5 ↔ k = 5
  c6 : k2 = 6 ↔ k = 6
  c7 : k2 = 7 ↔ k = 7
  c1 : k2 = 1 ↔ k = 1
theorem cls {s : Bool} {k k2 : Int} (h : rankV s k = rankV s k2) : Cls k k2 := by
  refine ⟨?_, ?_, ?_, ?_, ?_⟩
  · have h1 := rank_9 s k
    have h2 := rank_9 s k2
    rw [Bool.eq_iff_iff, isNum_iff, isNum_iff, ← h1, ← h2, h]
  · rw [← rank_1 s k, ← rank_1 s k2, h]
  · rw [← rank_2 s k, ← rank_2 s k2, h]
  · rw [← rank_3 s k, ← rank_3 s k2, h]
  · rw [← rank_8 s k, ← rank_8 s k2, h]
theorem orI_skip {p a b : Int} (h : p ≠ 0) : orI p a = orI p b := by unfold orI; rw [if_neg h, if_neg h]
theorem cmpT_neg (x y : ByteArray) : cmpT y x = - cmpT x y := cmpL_neg _ _
theorem cmpT_in (x y : ByteArray) : In1 (cmpT x y) := cmpL_in _ _
theorem cmpT_tri (x y z : ByteArray) : Tri (cmpT x y) (cmpT y z) (cmpT x z) := cmpL_tri _ _ _
theorem In1.neg {p : Int} (h : In1 p) : In1 (-p) := by unfold In1 at *; omega
/-- What two elements of one rank are held by, without lists. -/
def restV (k n : Int) (b : Bool) (t x : ByteArray) (f : Int) (k2 n2 : Int) (b2 : Bool) (t2 x2 : ByteArray) : Int :=
  if isNum k then orI (cmpI (numV k n t) (numV k2 n2 t2)) (if k = 2 ∨ k2 = 2 then cmpI k k2 else cmpT t t2)
  else if k = 5 then f
  else if k = 6 ∨ k = 7 then cmpI n n2
  else if k = 1 then cmpI (b2i b) (b2i b2)
  else orI (cmpT t t2) (cmpT x x2)
theorem ordV_mk (s : Bool) (k : Int) (b : Bool) (n : Int) (t x : ByteArray) (l : List V) (k2 : Int) (b2 : Bool) (n2 : Int) (t2 x2 : ByteArray) (l2 : List V) :
    ordV s (.mk k b n t x l) (.mk k2 b2 n2 t2 x2 l2) = orI (cmpI (rankV s k) (rankV s k2)) (restV k n b t x (ordL s l l2) k2 n2 b2 t2 x2) := by
  rw [ordV]; rfl
theorem rest_neg {k k2 : Int} (hc : Cls k k2) {f g : Int} (hf : g = -f) (n : Int) (b : Bool) (t x : ByteArray) (n2 : Int) (b2 : Bool) (t2 x2 : ByteArray) :
    restV k2 n2 b2 t2 x2 g k n b t x = - restV k n b t x f k2 n2 b2 t2 x2 := by
  unfold restV
  rw [hc.num]
  cases hn : isNum k
  · simp only [Bool.false_eq_true, if_false]
    by_cases h5 : k = 5
    · rw [if_pos h5, if_pos (hc.c5.2 h5)]; exact hf
    rw [if_neg h5, if_neg (fun e => h5 (hc.c5.1 e))]
    by_cases h6 : k = 6 ∨ k = 7
    · rw [if_pos h6, if_pos (h6.imp hc.c6.2 hc.c7.2)]; exact cmpI_neg _ _
    rw [if_neg h6, if_neg (fun e => h6 (e.imp hc.c6.1 hc.c7.1))]
    by_cases h1 : k = 1
    · rw [if_pos h1, if_pos (hc.c1.2 h1)]; exact cmpI_neg _ _
    rw [if_neg h1, if_neg (fun e => h1 (hc.c1.1 e)), cmpT_neg t t2, cmpT_neg x x2]
    exact orI_neg _ _
  · simp only [if_true]
    rw [cmpI_neg (numV k n t), ← orI_neg]
    congr 1
    by_cases h2 : k = 2 ∨ k2 = 2
    · rw [if_pos h2, if_pos h2.symm]; exact cmpI_neg _ _
    · rw [if_neg h2, if_neg (fun e => h2 e.symm)]; exact cmpT_neg _ _
theorem rest_in {k : Int} {f : Int} (hf : In1 f) (n : Int) (b : Bool) (t x : ByteArray) (k2 n2 : Int) (b2 : Bool) (t2 x2 : ByteArray) : In1 (restV k n b t x f k2 n2 b2 t2 x2) := by
  unfold restV
  split
  · refine (cmpI_in _ _).or ?_
    split
    · exact cmpI_in _ _
    · exact cmpT_in _ _
  · split
    · exact hf
    · split
      · exact cmpI_in _ _
      · split
        · exact cmpI_in _ _
        · exact (cmpT_in _ _).or (cmpT_in _ _)
theorem kinds_tri (k k2 k3 : Int) (hk : k = 2 ∨ k = 3) (hk2 : k2 = 2 ∨ k2 = 3) (hk3 : k3 = 2 ∨ k3 = 3) (p q r : Int) (h : Tri p q r) :
    Tri (if k = 2 ∨ k2 = 2 then cmpI k k2 else p) (if k2 = 2 ∨ k3 = 2 then cmpI k2 k3 else q) (if k = 2 ∨ k3 = 2 then cmpI k k3 else r) := by
  rcases hk with rfl | rfl <;> rcases hk2 with rfl | rfl <;> rcases hk3 with rfl | rfl <;> simp [cmpI] <;> unfold Tri at * <;> omega
theorem rest_tri {k k2 k3 : Int} (h2 : Cls k k2) (h3 : Cls k k3) {f g h : Int} (hf : k = 5 → Tri f g h) (n : Int) (b : Bool) (t x : ByteArray) (n2 : Int) (b2 : Bool) (t2 x2 : ByteArray) (n3 : Int) (b3 : Bool) (t3 x3 : ByteArray) :
    Tri (restV k n b t x f k2 n2 b2 t2 x2) (restV k2 n2 b2 t2 x2 g k3 n3 b3 t3 x3) (restV k n b t x h k3 n3 b3 t3 x3) := by
  unfold restV
  have hn3 := h3.num
  have hn2 := h2.num
  rw [hn2]
  cases hn : isNum k
  · simp only [Bool.false_eq_true, if_false]
    by_cases h5 : k = 5
    · have h25 : k2 = 5 := h2.c5.2 h5
      rw [if_pos h5, if_pos h25, if_pos h5]; exact hf h5
    have h25 : ¬ k2 = 5 := fun e => h5 (h2.c5.1 e)
    rw [if_neg h5, if_neg h25, if_neg h5]
    by_cases h6 : k = 6 ∨ k = 7
    · have h26 : k2 = 6 ∨ k2 = 7 := h6.imp h2.c6.2 h2.c7.2
      rw [if_pos h6, if_pos h26, if_pos h6]; exact cmpI_tri _ _ _
    have h26 : ¬ (k2 = 6 ∨ k2 = 7) := fun e => h6 (e.imp h2.c6.1 h2.c7.1)
    rw [if_neg h6, if_neg h26, if_neg h6]
    by_cases h1 : k = 1
    · have h21 : k2 = 1 := h2.c1.2 h1
      rw [if_pos h1, if_pos h21, if_pos h1]; exact cmpI_tri _ _ _
    have h21 : ¬ k2 = 1 := fun e => h1 (h2.c1.1 e)
    rw [if_neg h1, if_neg h21, if_neg h1]
    exact (cmpT_tri _ _ _).or fun _ _ _ => cmpT_tri _ _ _
  · simp only [if_true]
    refine (cmpI_tri _ _ _).or fun _ _ _ => ?_
    rw [hn] at hn2 hn3
    exact kinds_tri k k2 k3 ((isNum_iff k).1 hn) ((isNum_iff k2).1 hn2) ((isNum_iff k3).1 hn3) _ _ _ (cmpT_tri _ _ _)
mutual
theorem ordV_neg (s : Bool) : ∀ v u : V, ordV s u v = - ordV s v u
  | .mk k b n t x l, .mk k2 b2 n2 t2 x2 l2 => by
    rw [ordV_mk, ordV_mk, cmpI_neg (rankV s k) (rankV s k2)]
    by_cases hr : rankV s k = rankV s k2
    · rw [rest_neg (cls hr) (ordL_neg s l l2) n b t x n2 b2 t2 x2, orI_neg]
    · have h0 : cmpI (rankV s k) (rankV s k2) ≠ 0 := fun e => hr ((cmpI_zero _ _).1 e)
      rw [← orI_neg]
      exact orI_skip (by omega)
theorem ordL_neg (s : Bool) : ∀ v u : List V, ordL s u v = - ordL s v u
  | [], [] => by rw [ordL]; rfl
  | [], _ :: _ => by rw [ordL, ordL]; rfl
  | _ :: _, [] => by rw [ordL, ordL]
  | v :: l, u :: m => by rw [ordL, ordL, ordV_neg s v u, ordL_neg s l m, orI_neg]
end
mutual
theorem ordV_in (s : Bool) : ∀ v u : V, In1 (ordV s v u)
  | .mk k b n t x l, .mk k2 b2 n2 t2 x2 l2 => by
    rw [ordV_mk]
    exact (cmpI_in _ _).or (rest_in (ordL_in s l l2) ..)
theorem ordL_in (s : Bool) : ∀ v u : List V, In1 (ordL s v u)
  | [], [] => by rw [ordL]; exact .inr (.inl rfl)
  | [], _ :: _ => by rw [ordL]; exact .inl rfl
  | _ :: _, [] => by rw [ordL]; exact .inr (.inr rfl)
  | v :: l, u :: m => by rw [ordL]; exact (ordV_in s v u).or (ordL_in s l m)
end
mutual
theorem ordV_tri (s : Bool) : ∀ v u w : V, Tri (ordV s v u) (ordV s u w) (ordV s v w)
  | .mk k b n t x l, .mk k2 b2 n2 t2 x2 l2, .mk k3 b3 n3 t3 x3 l3 => by
    rw [ordV_mk, ordV_mk, ordV_mk]
    refine (cmpI_tri _ _ _).or fun h1 h2 h3 => ?_
    exact rest_tri (cls ((cmpI_zero _ _).1 h1)) (cls ((cmpI_zero _ _).1 h3)) (fun _ => ordL_tri s l l2 l3) ..
theorem ordL_tri (s : Bool) : ∀ v u w : List V, Tri (ordL s v u) (ordL s u w) (ordL s v w)
  | [], [], [] => by simp only [ordL]; unfold Tri; omega
  | [], [], _ :: _ => by simp only [ordL]; unfold Tri; omega
  | [], _ :: _, [] => by simp only [ordL]; unfold Tri; omega
  | [], _ :: _, _ :: _ => by simp only [ordL]; unfold Tri; omega
  | _ :: _, [], [] => by simp only [ordL]; unfold Tri; omega
  | _ :: _, [], _ :: _ => by simp only [ordL]; unfold Tri; omega
  | _ :: _, _ :: _, [] => by simp only [ordL]; unfold Tri; omega
  | v :: l, u :: m, w :: o => by
    rw [ordL, ordL, ordL]
    exact (ordV_tri s v u w).or fun _ _ _ => ordL_tri s l m o
end
theorem ordV_self (s : Bool) (v : V) : ordV s v v = 0 := by have := ordV_neg s v v; omega
/-! ### Of values that may be: nought just where they are the same -/
theorem chkV_W (d : Nat) : ∃ f : List V → Bool, chkV d = chkW f ∧ ∀ l, f l = true → ∃ d', d = d' + 1 ∧ l.all (chkV d') = true := by
  cases d with
  | zero => exact ⟨_, rfl, fun l h => by cases h⟩
  | succ d => exact ⟨_, rfl, fun l h => ⟨d, rfl, h⟩⟩
theorem chkW_facts {f : List V → Bool} {k : Int} {b : Bool} {n : Int} {t x : ByteArray} {l : List V} (h : chkW f (.mk k b n t x l) = true) :
    (k ≠ 1 → b = false) ∧ (k ≠ 2 → k ≠ 6 → k ≠ 7 → n = 0) ∧ (k = 0 ∨ k = 1 ∨ k = 2 ∨ k = 5 ∨ k = 6 ∨ k = 7 → t.size = 0) ∧ (k ≠ 10 → x.size = 0) ∧ (k ≠ 5 → l = []) ∧ (k = 3 → chk t.data.toList = true) ∧ (k = 5 → f l = true) ∧ (0 ≤ k ∧ k ≤ 10) := by
  rcases kinds k with rfl | rfl | rfl | rfl | rfl | rfl | rfl | rfl | rfl | rfl | rfl | ⟨h0, h1, h2, h3, h4, h5, h6, h7, h8, h9, h10⟩
  iterate 11
    · simp [chkW, emp] at h
      simp [h]
  · rw [chkW_other f k h0 h1 h2 h3 h4 h5 h6 h7 h8 h9 h10] at h
    cases h
theorem size0 {t : ByteArray} (h : t.size = 0) : t = ⟨#[]⟩ := by
  apply ba_ext
  exact List.eq_nil_of_length_eq_zero (by simpa using h)
theorem E20_inj {n m : Int} (h : n * E20 = m * E20) : n = m := by
  have hp := E20_pos
  exact Int.eq_of_mul_eq_mul_right (by omega) h
theorem ordL_zero (s : Bool) (P : V → Prop) : ∀ l m : List V, (∀ v ∈ l, ∀ u ∈ m, ordV s v u = 0 → v = u) → ordL s l m = 0 → l = m
  | [], [], _, _ => rfl
  | [], _ :: _, _, h => by rw [ordL] at h; omega
  | _ :: _, [], _, h => by rw [ordL] at h; omega
  | v :: l, u :: m, hv, h => by
    rw [ordL, orI_zero] at h
    rw [hv v (by simp) u (by simp) h.1, ordL_zero s P l m (fun v hv' u hu => hv v (by simp [hv']) u (by simp [hu])) h.2]
theorem ordV_same (s : Bool) : ∀ d v u, chkV d v = true → chkV d u = true → ordV s v u = 0 → v = u := by
  intro d
  induction d using Nat.strongRecOn with
  | ind d ih =>
    intro v u hv hu h
    obtain ⟨f, hf, hfl⟩ := chkV_W d
    rw [hf] at hv hu
    obtain ⟨k, b, n, t, x, l⟩ := v
    obtain ⟨k2, b2, n2, t2, x2, l2⟩ := u
    rw [ordV_mk, orI_zero] at h
    obtain ⟨hr, h⟩ := h
    have hr := (cmpI_zero _ _).1 hr
    have hc := cls hr
    obtain ⟨a1, a2, a3, a4, a5, a6, a7, a8⟩ := chkW_facts hv
    obtain ⟨c1, c2, c3, c4, c5, c6, c7, c8⟩ := chkW_facts hu
    unfold restV at h
    cases hn : isNum k
    · have hnk : ¬ (k = 2 ∨ k = 3) := fun e => by rw [(isNum_iff k).2 e] at hn; cases hn
      have hnk2 : ¬ (k2 = 2 ∨ k2 = 3) := fun e => by have := hc.num; rw [(isNum_iff k2).2 e, hn] at this; cases this
      have hkk : k = k2 := by
        have q1 := rank_1 s k; have q2 := rank_2 s k; have q3 := rank_3 s k; have q4 := rank_4 s k; have q5 := rank_5 s k; have q6 := rank_6 s k; have q7 := rank_7 s k; have q8 := rank_8 s k
        have r1 := rank_1 s k2; have r2 := rank_2 s k2; have r3 := rank_3 s k2; have r4 := rank_4 s k2; have r5 := rank_5 s k2; have r6 := rank_6 s k2; have r7 := rank_7 s k2; have r8 := rank_8 s k2
        rw [← hr] at r1 r2 r3 r4 r5 r6 r7 r8
        omega
      subst hkk
      rw [hn] at h
      simp only [Bool.false_eq_true, if_false] at h
      by_cases h5 : k = 5
      · subst h5
        rw [if_pos rfl] at h
        obtain ⟨d', hd, hl⟩ := hfl l (a7 rfl)
        obtain ⟨d2, hd2, hl2⟩ := hfl l2 (c7 rfl)
        obtain rfl : d' = d2 := by omega
        have hll : l = l2 := ordL_zero s (fun _ => True) l l2 (fun v hv u hu => ih d' (by omega) v u (List.all_eq_true.1 hl v hv) (List.all_eq_true.1 hl2 u hu)) h
        rw [a1 (by decide), c1 (by decide), a2 (by decide) (by decide) (by decide), c2 (by decide) (by decide) (by decide), size0 (a3 (by decide)), size0 (c3 (by decide)), size0 (a4 (by decide)), size0 (c4 (by decide)), hll]
      rw [if_neg h5] at h
      have e5 := a5 h5
      have f5 := c5 h5
      by_cases h6 : k = 6 ∨ k = 7
      · rw [if_pos h6, cmpI_zero] at h
        rw [a1 (by omega), c1 (by omega), h, size0 (a3 (by omega)), size0 (c3 (by omega)), size0 (a4 (by omega)), size0 (c4 (by omega)), e5, f5]
      rw [if_neg h6] at h
      by_cases h1 : k = 1
      · subst h1
        rw [if_pos rfl, cmpI_zero] at h
        have hb : b = b2 := by cases b <;> cases b2 <;> simp [b2i] at h <;> rfl
        rw [hb, a2 (by decide) (by decide) (by decide), c2 (by decide) (by decide) (by decide), size0 (a3 (by decide)), size0 (c3 (by decide)), size0 (a4 (by decide)), size0 (c4 (by decide)), e5, f5]
      rw [if_neg h1, orI_zero, cmpT_zero, cmpT_zero] at h
      rw [h.1, h.2, a1 h1, c1 h1, a2 (by omega) (by omega) (by omega), c2 (by omega) (by omega) (by omega), e5, f5]
    · rw [hn] at h
      have hk := (isNum_iff k).1 hn
      have hk2 : k2 = 2 ∨ k2 = 3 := (isNum_iff k2).1 (hc.num.trans hn)
      simp only [if_true] at h
      rw [orI_zero, cmpI_zero] at h
      obtain ⟨h, h'⟩ := h
      by_cases h2 : k = 2 ∨ k2 = 2
      · rw [if_pos h2, cmpI_zero] at h'
        subst h'
        obtain rfl : k = 2 := by omega
        have hnn : n = n2 := E20_inj (by unfold numV at h; simpa using h)
        rw [hnn, a1 (by decide), c1 (by decide), size0 (a3 (by decide)), size0 (c3 (by decide)), size0 (a4 (by decide)), size0 (c4 (by decide)), a5 (by decide), c5 (by decide)]
      · rw [if_neg h2, cmpT_zero] at h'
        obtain rfl : k = 3 := by omega
        obtain rfl : k2 = 3 := by omega
        rw [h', a1 (by decide), c1 (by decide), a2 (by decide) (by decide) (by decide), c2 (by decide) (by decide) (by decide), size0 (a4 (by decide)), size0 (c4 (by decide)), a5 (by decide), c5 (by decide)]
theorem ord_same (s : Bool) (v u : V) (hv : mayV v = true) (hu : mayV u = true) : ordV s v u = 0 ↔ v = u :=
  ⟨ordV_same s 60 v u hv hu, fun h => by rw [h]; exact ordV_self s u⟩
/-! ### Less, and none -/
theorem b2i_1 (b : Bool) : b2i b = 1 ↔ b = true := by cases b <;> simp [b2i]
theorem lessW_ord (s : Bool) : ∀ v u : V, lessW v u = 1 → ordV s v u = -1
  | .mk k b n t x l, .mk k2 b2 n2 t2 x2 l2 => by
    intro h
    unfold lessW at h
    dsimp only at h
    rw [ordV_mk]
    by_cases hn : (isNum k && isNum k2) = true
    · rw [if_pos hn, b2i_1, decide_eq_true_iff] at h
      rw [Bool.and_eq_true] at hn
      have r1 := (rank_9 s k).2 ((isNum_iff k).1 hn.1)
      have r2 := (rank_9 s k2).2 ((isNum_iff k2).1 hn.2)
      rw [r1, r2]
      unfold restV
      rw [if_pos hn.1]
      have hc : cmpI (numV k n t) (numV k2 n2 t2) = -1 := by unfold cmpI; rw [if_neg (by omega), if_pos h]
      rw [hc]; rfl
    rw [if_neg hn] at h
    by_cases h4 : k = 4 ∧ k2 = 4
    · obtain ⟨rfl, rfl⟩ := h4
      rw [if_pos ⟨rfl, rfl⟩, b2i_1] at h
      rw [cmpI_self]
      unfold restV
      rw [if_neg (by decide), if_neg (by decide), if_neg (by decide), if_neg (by decide)]
      have hc : cmpT t t2 = -1 := by unfold cmpT cmpL; rw [if_pos h]
      rw [hc]; rfl
    rw [if_neg h4] at h
    by_cases h1 : k = 1 ∧ k2 = 1
    · obtain ⟨rfl, rfl⟩ := h1
      rw [if_pos ⟨rfl, rfl⟩, b2i_1, Bool.and_eq_true] at h
      obtain ⟨h, rfl⟩ := h
      obtain rfl : b = false := by simpa using h
      rw [cmpI_self]
      unfold restV
      rw [if_neg (by decide), if_neg (by decide), if_neg (by decide), if_pos rfl]
      rfl
    rw [if_neg h1] at h
    omega
theorem lessV_ord (s : Bool) (v u : V) (h : lessV v u = 1) : ordV s v u = -1 := by
  unfold lessV at h
  split at h
  · exact lessW_ord s v u h
  · omega
def nullV : V := .mk 0 false 0 ⟨#[]⟩ ⟨#[]⟩ []
theorem null_last (v : V) (h : 0 < ordV false v nullV) : kindV v < 1 ∨ 10 < kindV v := by
  obtain ⟨k, b, n, t, x, l⟩ := v
  unfold nullV at h
  rw [ordV_mk, rank_null] at h
  simp only [Bool.false_eq_true, if_false] at h
  show k < 1 ∨ 10 < k
  apply Classical.byContradiction
  intro hk
  have hr := rank_in false k
  have h10 := rank_10 k
  have h11 : rankV false k ≠ 11 := by unfold rankV; repeat' split <;> omega
  have hlt : cmpI (rankV false k) 10 = -1 := by unfold cmpI; rw [if_neg (by omega), if_pos (by omega)]
  rw [hlt] at h
  revert h
  unfold orI
  rw [if_neg (by decide)]
  omega
theorem bl_nil (a : List UInt8) : Op.bytesLess a [] = false := by cases a <;> rfl
theorem null_first (v : V) : ¬ ordV true v nullV < 0 := by
  obtain ⟨k, b, n, t, x, l⟩ := v
  unfold nullV
  rw [ordV_mk, rank_null]
  simp only [if_true]
  have hr := rank_in true k
  have h0 := rank_0 k
  have hp : 0 ≤ cmpI (rankV true k) 0 := by
    have := cmpI_lt (rankV true k) 0
    omega
  by_cases hk : k = 0
  · subst hk
    intro h
    obtain ⟨_, h⟩ := orI_lt h
    have h := h ((cmpI_zero _ _).2 (h0.2 rfl))
    unfold restV at h
    rw [if_neg (by decide), if_neg (by decide), if_neg (by decide), if_neg (by decide)] at h
    have p0 : ∀ y : ByteArray, 0 ≤ cmpT y ⟨#[]⟩ := by
      intro y
      unfold cmpT cmpL
      rw [show ByteArray.toList ⟨#[]⟩ = [] from by rw [Go.ByteArray.toList_eq], bl_nil, if_neg (by decide)]
      split <;> omega
    have := p0 t
    have := p0 x
    obtain ⟨h1, h2⟩ := orI_lt h
    have := h2 (by omega)
    omega
  · have : cmpI (rankV true k) 0 ≠ 0 := fun e => hk (h0.1 ((cmpI_zero _ _).1 e))
    unfold orI
    rw [if_neg this]
    omega
/-! ### Equality -/
theorem sameP_sym (v u : V) : sameP u v = sameP v u := by rw [Bool.eq_iff_iff, sameP_iff, sameP_iff]; exact ⟨Eq.symm, Eq.symm⟩
theorem sameP_self (v : V) : sameP v v = true := (sameP_iff v v).2 rfl
theorem aliS_sym (k k2 : Int) (q : Bool) : aliS k2 k q = aliS k k2 q := by
  unfold aliS
  by_cases h : (k = 5 ∨ k = 6 ∨ k = 7) ∨ (k2 = 5 ∨ k2 = 6 ∨ k2 = 7)
  · rw [if_pos h, if_pos h.symm]
  rw [if_neg h, if_neg (fun e => h e.symm)]
  cases q
  · simp only [Bool.false_eq_true, if_false]
    by_cases h2 : (k = 10 ∧ (k2 = 2 ∨ k2 = 3 ∨ k2 = 10 ∨ k2 = 4 ∨ k2 = 1)) ∨ (k2 = 10 ∧ (k = 2 ∨ k = 3 ∨ k = 10 ∨ k = 4 ∨ k = 1))
    · rw [if_pos h2, if_pos h2.symm]
    · rw [if_neg h2, if_neg (fun e => h2 e.symm)]
  · rfl
theorem aliS_in (k k2 : Int) (q : Bool) : aliS k k2 q = 0 ∨ aliS k k2 q = 1 ∨ aliS k k2 q = 2 := by
  unfold aliS
  repeat' split
  all_goals simp
theorem b2i_in (b : Bool) : b2i b = 0 ∨ b2i b = 1 ∨ b2i b = 2 := by cases b <;> simp [b2i]
mutual
theorem eqlV_sym (s : Bool) : ∀ v u : V, eqlV s u v = eqlV s v u
  | .mk k b n t x l, .mk k2 b2 n2 t2 x2 l2 => by
    rw [eqlV, eqlV]
    rw [sameP_sym (.mk k b n t x l) (.mk k2 b2 n2 t2 x2 l2), aliS_sym k k2, eqlL_sym s l l2]
    by_cases h0 : k = 0 ∨ k2 = 0
    · rw [if_pos h0, if_pos h0.symm]
    rw [if_neg h0, if_neg (fun e => h0 e.symm), Bool.and_comm (isNum k2)]
    by_cases hn : (isNum k && isNum k2) = true
    · rw [if_pos hn, if_pos hn]
      congr 1
      rw [decide_eq_decide]
      exact eq_comm
    rw [if_neg hn, if_neg hn]
    cases s
    · simp only [Bool.false_eq_true, if_false]
      by_cases h5 : k = 5 ∧ k2 = 5
      · rw [if_pos h5, if_pos h5.symm]
        by_cases hl : l.length = l2.length
        · rw [if_pos hl, if_pos hl.symm]
        · rw [if_neg hl, if_neg (fun e => hl e.symm)]
      · rw [if_neg h5, if_neg (fun e => h5 e.symm)]
    · rfl
theorem eqlL_sym (s : Bool) : ∀ v u : List V, eqlL s u v = eqlL s v u
  | [], [] => rfl
  | [], _ :: _ => by rw [eqlL, eqlL] <;> simp
  | _ :: _, [] => by rw [eqlL, eqlL] <;> simp
  | v :: l, u :: m => by rw [eqlL, eqlL, eqlV_sym s v u, eqlL_sym s l m]
end
mutual
theorem eqlV_in (s : Bool) : ∀ v u : V, eqlV s v u = 0 ∨ eqlV s v u = 1 ∨ eqlV s v u = 2
  | .mk k b n t x l, .mk k2 b2 n2 t2 x2 l2 => by
    rw [eqlV]
    have := eqlL_in s l l2
    repeat' split
    all_goals first | exact b2i_in _ | exact aliS_in _ _ _ | assumption | simp
theorem eqlL_in (s : Bool) : ∀ v u : List V, eqlL s v u = 0 ∨ eqlL s v u = 1 ∨ eqlL s v u = 2
  | [], [] => by rw [eqlL] <;> simp
  | [], _ :: _ => by rw [eqlL] <;> simp
  | _ :: _, [] => by rw [eqlL] <;> simp
  | v :: l, u :: m => by
    rw [eqlL]
    have := eqlL_in s l m
    repeat' split
    all_goals first | assumption | simp
end
mutual
theorem eqlV_self (s : Bool) : ∀ v : V, eqlV s v v ≠ 0
  | .mk k b n t x l => by
    rw [eqlV]
    have := eqlL_self s l
    rw [sameP_self, if_pos rfl, decide_eq_true rfl]
    unfold aliS
    repeat' split
    all_goals first | assumption | (simp [b2i]; done) | contradiction
theorem eqlL_self (s : Bool) : ∀ v : List V, eqlL s v v ≠ 0
  | [] => by rw [eqlL] <;> simp
  | v :: l => by
    rw [eqlL]
    have h1 := eqlV_self s v
    have h2 := eqlL_self s l
    rw [if_neg h1, if_neg h2]
    split
    · simp
    · exact h2
end
theorem eqlV_plain (s : Bool) : ∀ v : V, 1 ≤ kindV v → kindV v ≤ 4 → eqlV s v v = 1
  | .mk k b n t x l => by
    intro h1 h4
    have h1 : 1 ≤ k := h1
    have h4 : k ≤ 4 := h4
    rw [eqlV, if_neg (by omega), sameP_self, decide_eq_true rfl]
    split
    · rfl
    · rename_i hn
      split
      · unfold aliS
        rw [if_neg (by omega), if_pos rfl]
      · rw [if_neg (by omega)]; rfl
/-- Of equal ones neither is below. -/
theorem eql_less (s : Bool) : ∀ v u : V, eqlV s v u = 1 → lessW v u ≠ 1
  | .mk k b n t x l, .mk k2 b2 n2 t2 x2 l2 => by
    intro h hl
    rw [eqlV] at h
    unfold lessW at hl
    dsimp only at hl
    split at h
    · omega
    by_cases hn : (isNum k && isNum k2) = true
    · rw [if_pos hn, b2i_1, decide_eq_true_iff] at h hl
      omega
    rw [if_neg hn] at h hl
    by_cases h4 : k = 4 ∧ k2 = 4
    · obtain ⟨rfl, rfl⟩ := h4
      rw [if_pos ⟨rfl, rfl⟩, b2i_1] at hl
      have hs : sameP (.mk 4 b n t x l) (.mk 4 b2 n2 t2 x2 l2) = true := by
        cases s
        · simp only [Bool.false_eq_true, if_false] at h
          rw [if_neg (by decide), b2i_1] at h
          exact h
        · simp only [if_true] at h
          unfold aliS at h
          rw [if_neg (by decide)] at h
          split at h
          · assumption
          · rw [if_neg (by decide)] at h; omega
      have he := (sameP_iff _ _).1 hs
      injection he with _ _ _ e4
      rw [e4, bl_irr] at hl
      cases hl
    rw [if_neg h4] at hl
    by_cases h1 : k = 1 ∧ k2 = 1
    · obtain ⟨rfl, rfl⟩ := h1
      rw [if_pos ⟨rfl, rfl⟩, b2i_1] at hl
      have hs : sameP (.mk 1 b n t x l) (.mk 1 b2 n2 t2 x2 l2) = true := by
        cases s
        · simp only [Bool.false_eq_true, if_false] at h
          rw [if_neg (by decide), b2i_1] at h
          exact h
        · simp only [if_true] at h
          unfold aliS at h
          rw [if_neg (by decide)] at h
          split at h
          · assumption
          · rw [if_neg (by decide)] at h; omega
      have he := (sameP_iff _ _).1 hs
      injection he with _ e2
      rw [e2] at hl
      cases b2 <;> simp at hl
    rw [if_neg h1] at hl
    omega
theorem less_asym : ∀ v u : V, lessW v u = 1 → lessW u v = 0
  | .mk k b n t x l, .mk k2 b2 n2 t2 x2 l2 => by
    intro h
    unfold lessW at h ⊢
    dsimp only at h ⊢
    by_cases hn : (isNum k && isNum k2) = true
    · rw [if_pos hn, b2i_1, decide_eq_true_iff] at h
      rw [Bool.and_comm, if_pos hn, decide_eq_false (by omega)]; rfl
    rw [if_neg hn] at h
    rw [Bool.and_comm, if_neg hn]
    by_cases h4 : k = 4 ∧ k2 = 4
    · rw [if_pos h4, b2i_1] at h
      rw [if_pos h4.symm, bl_asym _ _ h]; rfl
    rw [if_neg h4] at h
    rw [if_neg (fun e => h4 e.symm)]
    by_cases h1 : k = 1 ∧ k2 = 1
    · rw [if_pos h1, b2i_1] at h
      rw [if_pos h1.symm]
      cases b <;> cases b2 <;> simp at h ⊢ <;> rfl
    rw [if_neg h1] at h
    omega
theorem equalV_sym (s : Bool) (v u : V) : equalV s u v = equalV s v u := by unfold equalV; rw [eqlV_sym s v u, Bool.and_comm]
theorem equalV_in (s : Bool) (v u : V) : equalV s v u = 0 ∨ equalV s v u = 1 ∨ equalV s v u = 2 := by
  unfold equalV
  split
  · exact eqlV_in s v u
  · simp
theorem equalV_less (s : Bool) (v u : V) (h : equalV s v u = 1) : lessV v u ≠ 1 := by
  unfold equalV at h
  unfold lessV
  split at h
  · rename_i hm
    rw [if_pos hm]
    exact eql_less s v u h
  · omega
theorem equalV_self (s : Bool) (v : V) : equalV s v v ≠ 0 := by
  unfold equalV
  split
  · exact eqlV_self s v
  · simp
theorem equalV_plain (s : Bool) (v : V) (hm : mayV v = true) (h1 : 1 ≤ kindV v) (h4 : kindV v ≤ 4) : equalV s v v = 1 := by
  unfold equalV
  rw [hm]
  exact eqlV_plain s v h1 h4
theorem lessV_asym (v u : V) (h : lessV v u = 1) : lessV u v = 0 := by
  unfold lessV at h ⊢
  rw [Bool.and_comm]
  split at h
  · rename_i hm
    rw [if_pos hm]
    exact less_asym v u h
  · omega
end Go.Proofs.YtjncjcellpbhcaaGreatDoor.val

/- How much values weigh, out of a reading. -/
namespace Go.Proofs.YtjncjcellpbhcaaGreatDoor.val
open Go.ChangeShapes Go.WideShapes Go.ChangeAt Go.RowKit kit
set_option linter.unusedVariables false
set_option linter.unusedSimpArgs false
mutual
/-- How many values and letters. -/
def wtV : V → Nat
  | .mk _ _ _ t x l => 1 + t.size + x.size + wtL l
def wtL : List V → Nat
  | [] => 0
  | v :: r => wtV v + wtL r
end
mutual
theorem sizeV_wt : ∀ v, sizeV v ≤ wtV v
  | .mk _ _ _ t x l => by rw [sizeV, wtV]; have := sizeL_wt l; omega
theorem sizeL_wt : ∀ l, sizeL l ≤ wtL l
  | [] => by rw [sizeL, wtL]; omega
  | v :: r => by rw [sizeL, wtL]; have := sizeV_wt v; have := sizeL_wt r; omega
end
theorem wtL_mem {v : V} {l : List V} (h : v ∈ l) : wtV v ≤ wtL l := by
  induction l with
  | nil => cases h
  | cons u r ih =>
    rw [wtL]
    rcases List.mem_cons.1 h with rfl | h
    · omega
    · have := ih h; omega
theorem wtV_one (v : V) : 1 ≤ wtV v := by
  cases v; rw [wtV]; omega
theorem wtL_len (l : List V) : l.length ≤ wtL l := by
  induction l with
  | nil => simp
  | cons v r ih => rw [wtL, List.length_cons]; have := wtV_one v; omega
theorem wtL_le {H : Type} : ∀ (l : List V) (ds : List (DataW H)) (hlen : ds.length = l.length) (h : ∀ j (h1 : j < l.length) (h2 : j < ds.length), wtV l[j] ≤ Rows.uptoBulk ds[j]), wtL l ≤ Rows.uptoBulkAll ds
  | [], [], _, _ => by simp [wtL]
  | v :: l, d :: ds, hlen, h => by
    rw [wtL, Rows.uptoBulkAll]
    have h0 := h 0 (by simp) (by simp)
    have := wtL_le l ds (by simpa using hlen) (fun j h1 h2 => h (j + 1) (by simpa using h1) (by simpa using h2))
    simp at h0
    omega
section
variable {H : Type} {enc : TypeId × Value → H} {W : World} {N : Nat}
set_option maxRecDepth 100000 in
/-- Six cells that are read as a value, and its weight. -/
theorem ea_of_trodW {fuel : Nat} {cs : List Value} {y : DataW H × List MemPlace} {b off o : Nat}
    (ih : ∀ m, m < fuel → ∀ {cs x}, DataW.trod enc Tryz.prog W 0 (fun _ => true) true m 24 cs = some x → Bd N x.1 → ∃ s l, cs = [s] ∧ LA W N s l ∧ wtL l + 1 ≤ Rows.uptoBulk x.1)
    (h : DataW.trod enc Tryz.prog W 0 (fun _ => true) true fuel 26 cs = some y) (hB : Bd N y.1) (hc : ∀ i, i < 6 → W.cell? ⟨b, off + o + i, none⟩ = cs[i]?) : ∃ v, EA W N (some ⟨b, off, none⟩) o v ∧ wtV v ≤ Rows.uptoBulk y.1 := by
  obtain ⟨xs, n', rfl, rfl, hcl, hxl, hf⟩ := DataW.trod_struct Tryz.underlying26 h
  have hC : Tryz.prog.cellsOf 26 = 6 := by kernel_rfl
  have hC1 : Tryz.prog.cellsOf 3 = 1 := by kernel_rfl
  have hC2 : Tryz.prog.cellsOf 4 = 1 := by kernel_rfl
  have hC3 : Tryz.prog.cellsOf 2 = 1 := by kernel_rfl
  have hC4 : Tryz.prog.cellsOf 9 = 1 := by kernel_rfl
  have hC5 : Tryz.prog.cellsOf 24 = 1 := by kernel_rfl
  rw [hC] at hcl
  match cs, hcl with
  | [c0, c1, c2, c3, c4, c5], _ =>
    match xs, hxl with
    | [y0, y1, y2, y3, y4, y5], _ =>
      have f0 := hf 0 _ rfl
      have f1 := hf 1 _ rfl
      have f2 := hf 2 _ rfl
      have f3 := hf 3 _ rfl
      have f4 := hf 4 _ rfl
      have f5 := hf 5 _ rfl
      simp [hC1, hC2, hC3, hC4, hC5] at f0 f1 f2 f3 f4 f5
      obtain ⟨k, e0, g0, w0⟩ := DataW.trod_int Tryz.underlying3 f0
      obtain ⟨bo, e1, g1⟩ := DataW.trod_bool Tryz.underlying4 f1
      obtain ⟨n, e2, g2, w2⟩ := DataW.trod_int Tryz.underlying2 f2
      obtain ⟨t, e3, g3, w3⟩ := DataW.trod_string Tryz.underlying9 f3
      obtain ⟨x, e4, g4, w4⟩ := DataW.trod_string Tryz.underlying9 f4
      obtain ⟨s, l, e5, hs, hwt⟩ := ih n' (by omega) f5 (hB.agg (by simp))
      have hb3 : Bd N y3.1 := hB.agg (by simp)
      have hb4 : Bd N y4.1 := hB.agg (by simp)
      simp at e0 e1 e2 e3 e4 e5
      subst e0 e1 e2 e3 e4 e5
      rw [g3] at hb3
      rw [g4] at hb4
      have c0 := hc 0 (by decide)
      have c1 := hc 1 (by decide)
      have c2 := hc 2 (by decide)
      have c3 := hc 3 (by decide)
      have c4 := hc 4 (by decide)
      have c5 := hc 5 (by decide)
      have hlt : b < W.heap.size := by
        obtain ⟨ob, ho, _⟩ := cells_of_cell c0
        exact (Array.getElem?_eq_some_iff.1 ho).1
      refine ⟨.mk k bo n t x l, .mk b off o k bo n t x l _ ⟨hlt, c0, c1, c2, c3, c4, c5⟩ (wf64 w0) (wf64 w2) (hb3.text w3) (hb4.text w4) hs, ?_⟩
      rw [wtV]
      simp only [List.map_cons, List.map_nil, Rows.uptoBulk, Rows.uptoBulkAll, g3, g4]
      have z3 : t.data.toList.length = t.size := by simp
      have z4 : x.data.toList.length = x.size := by simp
      rw [z3, z4]
      omega
set_option maxRecDepth 100000 in
theorem la_of_trodW : ∀ fuel {cs : List Value} {x : DataW H × List MemPlace}, DataW.trod enc Tryz.prog W 0 (fun _ => true) true fuel 24 cs = some x → Bd N x.1 → ∃ s l, cs = [s] ∧ LA W N s l ∧ wtL l + 1 ≤ Rows.uptoBulk x.1 := by
  intro fuel
  induction fuel using Nat.strongRecOn with
  | ind fuel ih =>
    intro cs x h hB
    have hC : Tryz.prog.cellsOf 26 = 6 := by kernel_rfl
    rcases DataW.trod_slice Tryz.underlying24 h with ⟨rfl, rfl⟩ | ⟨a, len, cap, elems, rest, n, rfl, rfl, rfl, _, hl, hm, hlen, hel, _, _⟩
    · exact ⟨_, [], rfl, .mk none 0 [] (by simp) (fun j hj => by simp at hj), by simp [wtL, bulk_one]⟩
    · have hNl : len ≤ N := by
        have := hB.len (by rw [List.length_map]; omega)
        rw [List.length_map] at this
        omega
      obtain ⟨b, off, tg⟩ := a
      have get : ∀ j (hj : j < len), ∃ c6, W.cells? 0 ((⟨b, off, tg⟩ : Addr).add (j * 6)) 6 = some c6 ∧ DataW.trod enc Tryz.prog W 0 (fun _ => true) true n 26 c6 = some (elems[j]'(by omega)) := by
        intro j hj
        have h1 := hel j hj
        rw [hC, List.getElem?_eq_getElem (by omega)] at h1
        rw [Option.bind_eq_some_iff] at h1
        obtain ⟨c6, h2, h3⟩ := h1
        exact ⟨c6, h2, h3⟩
      have htg : 0 < len → tg = none := by
        intro h0
        obtain ⟨c6, h2, _⟩ := get 0 h0
        obtain ⟨_, h5, h6⟩ := World.cells?_some h2
        have h7 := h6 0 (by decide)
        rw [List.getElem?_eq_getElem (by omega)] at h7
        simpa [Addr.add] using World.cell?_spot h7
      have each : ∀ j (hj : j < len), ∃ v, EA W N (some ⟨b, off, tg⟩) (6 * j) v ∧ wtV v ≤ Rows.uptoBulk (elems[j]'(by omega)).1 := by
        intro j hj
        obtain rfl := htg (by omega)
        obtain ⟨c6, h2, h3⟩ := get j hj
        have hmem : elems[j]'(by omega) ∈ elems := List.getElem_mem _
        obtain ⟨_, h5, h6⟩ := World.cells?_some h2
        exact ea_of_trodW (fun m hm => ih m (by omega)) h3 (hB.elem (List.mem_map.2 ⟨_, hmem, rfl⟩)) (fun i hi => by
          have h7 := h6 i hi
          rw [Go.WideShapes.add_plain, Go.WideShapes.add_plain] at h7
          rw [Nat.mul_comm 6 j]
          exact h7)
      have hch : ∃ l : List V, l.length = len ∧ ∀ j (hj : j < l.length) (hj2 : j < len), EA W N (some ⟨b, off, tg⟩) (6 * j) l[j] ∧ wtV l[j] ≤ Rows.uptoBulk (elems[j]'(by omega)).1 := by
        refine ⟨(List.finRange len).map fun j => (each j.1 j.2).choose, by simp, fun j hj hj' => ?_⟩
        simp only [List.getElem_map, List.getElem_finRange]
        exact (each j hj').choose_spec
      obtain ⟨l, rfl, hel2⟩ := hch
      refine ⟨_, l, rfl, .mk _ cap l hNl (fun j hj => (hel2 j hj hj).1), ?_⟩
      have := wtL_le l (elems.map (·.1)) (by rw [List.length_map]; omega) (fun j h1 h2 => by rw [List.getElem_map]; exact (hel2 j h1 h1).2)
      simp only [Rows.uptoBulk]
      omega
end
end Go.Proofs.YtjncjcellpbhcaaGreatDoor.val
