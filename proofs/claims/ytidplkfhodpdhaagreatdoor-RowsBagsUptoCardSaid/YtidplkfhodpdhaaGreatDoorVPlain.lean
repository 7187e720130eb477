/- Texts VOrd, VLaw, one behind the other. -/
import Derived.Test.YtidplkfhodpdhaaGreatDoorVSameA
import Derived.Test.YtidplkfhodpdhaaGreatDoorDecC
namespace Go.Proofs.YtidplkfhodpdhaaGreatDoor.val
open Go.RowKit dec
set_option linter.unusedVariables false
set_option linter.unusedSimpArgs false
theorem bl_irr : ∀ a : List UInt8, Op.bytesLess a a = false
 | [] => rfl
 | a :: r => by simp [Op.bytesLess, bl_irr r]
theorem bl_tri : ∀ a b : List UInt8, Op.bytesLess a b = true ∨ a = b ∨ Op.bytesLess b a = true
 | [], [] => .inr (.inl rfl)
 | [], b :: s => .inl rfl
 | a :: r, [] => .inr (.inr rfl)
 | a :: r, b :: s => by
  simp only [Op.bytesLess, Bool.or_eq_true, Bool.and_eq_true, decide_eq_true_eq, beq_iff_eq]
  rcases bl_tri r s with h | h | h
  ·by_cases e : a = b
   ·exact .inl (.inr ⟨e, h⟩)
   ·rcases Nat.lt_or_gt_of_ne (fun h => e (UInt8.toNat_inj.1 h)) with h2 | h2
    ·exact .inl (.inl (UInt8.lt_iff_toNat_lt.2 h2))
    ·exact .inr (.inr (.inl (UInt8.lt_iff_toNat_lt.2 h2)))
  ·by_cases e : a = b
   ·exact .inr (.inl (by rw [e, h]))
   ·rcases Nat.lt_or_gt_of_ne (fun h => e (UInt8.toNat_inj.1 h)) with h2 | h2
    ·exact .inl (.inl (UInt8.lt_iff_toNat_lt.2 h2))
    ·exact .inr (.inr (.inl (UInt8.lt_iff_toNat_lt.2 h2)))
  ·by_cases e : a = b
   ·exact .inr (.inr (.inr ⟨e.symm, h⟩))
   ·rcases Nat.lt_or_gt_of_ne (fun h => e (UInt8.toNat_inj.1 h)) with h2 | h2
    ·exact .inl (.inl (UInt8.lt_iff_toNat_lt.2 h2))
    ·exact .inr (.inr (.inl (UInt8.lt_iff_toNat_lt.2 h2)))
theorem bl_trans : ∀ a b c : List UInt8, Op.bytesLess a b = true → Op.bytesLess b c = true → Op.bytesLess a c = true
 | _, _, [], _, h => by cases ‹List UInt8› <;> simp [Op.bytesLess] at h
 | _, [], _ :: _, h, _ => by cases ‹List UInt8› <;> simp [Op.bytesLess] at h
 | [], _ :: _, _ :: _, _, _ => rfl
 | a :: r, b :: s, c :: t, h, k => by
  simp only [Op.bytesLess, Bool.or_eq_true, Bool.and_eq_true, decide_eq_true_eq, beq_iff_eq] at h k ⊢
  rcases h with h | ⟨rfl, h⟩
  ·rcases k with k | ⟨rfl, k⟩
   ·exact .inl (UInt8.lt_trans h k)
   ·exact .inl h
  ·rcases k with k | ⟨rfl, k⟩
   ·exact .inl k
   ·exact .inr ⟨rfl, bl_trans r s t h k⟩
theorem bl_asym (a b : List UInt8) (h : Op.bytesLess a b = true) : Op.bytesLess b a = false := by
 apply Bool.eq_false_iff.2
 intro k
 have := bl_trans a b a h k
 rw [bl_irr] at this
 cases this
def cmpL (a b : List UInt8) : Int := if Op.bytesLess a b then -1 else if Op.bytesLess b a then 1 else 0
def cmpT (a b : ByteArray) : Int := cmpL a.toList b.toList
def Tri (p q r : Int) : Prop := (p ≤ 0 → q ≤ 0 → r ≤ 0) ∧ (p < 0 → q ≤ 0 → r < 0) ∧ (p ≤ 0 → q < 0 → r < 0) ∧ (p = 0 → q = 0 → r = 0)
def orI (p q : Int) : Int := if p = 0 then q else p
def In1 (p : Int) : Prop := p = -1 ∨ p = 0 ∨ p = 1
theorem Tri.or {p q r p' q' r' : Int} (h : Tri p q r) (k : p = 0 → q = 0 → r = 0 → Tri p' q' r') : Tri (orI p p') (orI q q') (orI r r') := by
 unfold Tri orI at *
 by_cases hp : p = 0
 ·by_cases hq : q = 0
  ·have hr : r = 0 := h.2.2.2 hp hq
   rw [if_pos hp, if_pos hq, if_pos hr]
   exact k hp hq hr
  ·rw [if_pos hp, if_neg hq]
   by_cases hr : r = 0
   ·rw [if_pos hr]; omega
   ·rw [if_neg hr]; omega
 ·rw [if_neg hp]
  by_cases hq : q = 0
  ·rw [if_pos hq]
   by_cases hr : r = 0
   ·rw [if_pos hr]; omega
   ·rw [if_neg hr]; omega
  ·rw [if_neg hq]
   by_cases hr : r = 0
   ·rw [if_pos hr]; omega
   ·rw [if_neg hr]; omega
theorem orI_neg (p q : Int) : orI (-p) (-q) = - orI p q := by
 unfold orI
 by_cases h : p = 0
 ·rw [if_pos h, if_pos (by omega)]
 ·rw [if_neg h, if_neg (by omega)]
theorem In1.or {p q : Int} (h : In1 p) (k : In1 q) : In1 (orI p q) := by
 unfold orI
 split
 ·exact k
 ·exact h
theorem cmpI_neg (x y : Int) : cmpI y x = - cmpI x y := by
 unfold cmpI
 by_cases h : x = y
 ·rw [if_pos h, if_pos h.symm]; rfl
 ·rw [if_neg h, if_neg (fun e => h e.symm)]
  by_cases h2 : x < y
  ·rw [if_pos h2, if_neg (by omega)]; rfl
  ·rw [if_neg h2, if_pos (by omega)]
theorem cmpI_in (x y : Int) : In1 (cmpI x y) := by
 unfold cmpI In1
 split
 ·omega
 ·split <;> omega
theorem cmpI_lt (x y : Int) : cmpI x y < 0 ↔ x < y := by
 unfold cmpI
 split
 ·omega
 ·split <;> omega
theorem cmpI_zero (x y : Int) : cmpI x y = 0 ↔ x = y := by
 unfold cmpI
 split
 ·omega
 ·split <;> omega
theorem cmpI_le (x y : Int) : cmpI x y ≤ 0 ↔ x ≤ y := by
 unfold cmpI
 split
 ·omega
 ·split <;> omega
theorem cmpI_tri (x y z : Int) : Tri (cmpI x y) (cmpI y z) (cmpI x z) := by
 unfold Tri
 simp only [cmpI_lt, cmpI_le, cmpI_zero]
 omega
theorem cmpI_self (x : Int) : cmpI x x = 0 := (cmpI_zero x x).2 rfl
theorem cmpL_neg (x y : List UInt8) : cmpL y x = - cmpL x y := by
 unfold cmpL
 cases h : Op.bytesLess x y
 ·cases h2 : Op.bytesLess y x <;> simp
 ·rw [bl_asym x y h]; simp
theorem cmpL_in (x y : List UInt8) : In1 (cmpL x y) := by
 unfold cmpL In1
 split
 ·omega
 ·split <;> omega
theorem cmpL_lt (x y : List UInt8) : cmpL x y < 0 ↔ Op.bytesLess x y = true := by
 unfold cmpL
 split
 ·simp [*]
 ·rename_i h
  split <;> simp [h]
theorem cmpL_zero (x y : List UInt8) : cmpL x y = 0 ↔ x = y := by
 constructor
 ·intro h
  rcases bl_tri x y with e | e | e
  ·have := (cmpL_lt x y).2 e; omega
  ·exact e
  ·have := (cmpL_lt y x).2 e
   rw [cmpL_neg] at this; omega
 ·rintro rfl
  unfold cmpL
  rw [bl_irr]; rfl
theorem cmpL_tri (x y z : List UInt8) : Tri (cmpL x y) (cmpL y z) (cmpL x z) := by
 have key : ∀ a b : List UInt8, cmpL a b ≤ 0 ↔ Op.bytesLess a b = true ∨ a = b := by
  intro a b
  have h1 := cmpL_lt a b
  have h2 := cmpL_zero a b
  constructor
  ·intro h
   by_cases e : cmpL a b = 0
   ·exact .inr (h2.1 e)
   ·exact .inl (h1.1 (by omega))
  ·rintro (h | h)
   ·have := h1.2 h; omega
   ·have := h2.2 h; omega
 unfold Tri
 simp only [key, cmpL_lt, cmpL_zero]
 refine ⟨?_, ?_, ?_, ?_⟩
 ·rintro (h | rfl) (k | rfl)
  ·exact .inl (bl_trans _ _ _ h k)
  ·exact .inl h
  ·exact .inl k
  ·exact .inr rfl
 ·rintro h (k | rfl)
  ·exact bl_trans _ _ _ h k
  ·exact h
 ·rintro (h | rfl) k
  ·exact bl_trans _ _ _ h k
  ·exact k
 ·rintro rfl rfl; rfl
def isNum (k : Int) : Bool := decide (k = 2 ∨ k = 3)
def numV (k n : Int) (t : ByteArray) : Int := if k = 2 then n * E20 else if chk t.data.toList then zof t.data.toList else 0
def rankV (s : Bool) (k : Int) : Int :=
 if k = 5 then 1 else if k = 6 then 2 else if k = 7 then 3 else if k = 9 then 4 else if k = 8 then 5 else if k = 10 then 6 else if k = 4 then 7 else if k = 1 then 8
 else if k = 2 ∨ k = 3 then 9 else if k = 0 then (if s then 0 else 10) else 11
mutual
def ordV (s : Bool) : V → V → Int
 | .mk k b n t x l, .mk k2 b2 n2 t2 x2 l2 =>
  orI (cmpI (rankV s k) (rankV s k2))
   (if isNum k then orI (cmpI (numV k n t) (numV k2 n2 t2)) (if k = 2 ∨ k2 = 2 then cmpI k k2 else cmpT t t2)
   else if k = 5 then ordL s l l2
   else if k = 6 ∨ k = 7 then cmpI n n2
   else if k = 1 then cmpI (b2i b) (b2i b2)
   else orI (cmpT t t2) (cmpT x x2))
def ordL (s : Bool) : List V → List V → Int
 | [], [] => 0
 | [], _ :: _ => -1
 | _ :: _, [] => 1
 | v :: l, u :: m => orI (ordV s v u) (ordL s l m)
end
end Go.Proofs.YtidplkfhodpdhaaGreatDoor.val
namespace Go.Proofs.YtidplkfhodpdhaaGreatDoor.val
open Go.RowKit dec
set_option linter.unusedVariables false
set_option linter.unusedSimpArgs false
theorem rank_1 (s : Bool) (k : Int) : rankV s k = 1 ↔ k = 5 := by unfold rankV; repeat' split <;> omega
theorem rank_2 (s : Bool) (k : Int) : rankV s k = 2 ↔ k = 6 := by unfold rankV; repeat' split <;> omega
theorem rank_3 (s : Bool) (k : Int) : rankV s k = 3 ↔ k = 7 := by unfold rankV; repeat' split <;> omega
theorem rank_8 (s : Bool) (k : Int) : rankV s k = 8 ↔ k = 1 := by unfold rankV; repeat' split <;> omega
theorem rank_9 (s : Bool) (k : Int) : rankV s k = 9 ↔ (k = 2 ∨ k = 3) := by unfold rankV; repeat' split <;> omega
theorem isNum_iff (k : Int) : isNum k = true ↔ (k = 2 ∨ k = 3) := by unfold isNum; exact decide_eq_true_iff
structure Cls (k k2 : Int) : Prop where
 num : isNum k2 = isNum k
 c5 : k2 = 5 ↔ k = 5
 c6 : k2 = 6 ↔ k = 6
 c7 : k2 = 7 ↔ k = 7
 c1 : k2 = 1 ↔ k = 1
theorem cls {s : Bool} {k k2 : Int} (h : rankV s k = rankV s k2) : Cls k k2 := by
 refine ⟨?_, ?_, ?_, ?_, ?_⟩
 ·have h1 := rank_9 s k
  have h2 := rank_9 s k2
  rw [Bool.eq_iff_iff, isNum_iff, isNum_iff, ← h1, ← h2, h]
 ·rw [← rank_1 s k, ← rank_1 s k2, h]
 ·rw [← rank_2 s k, ← rank_2 s k2, h]
 ·rw [← rank_3 s k, ← rank_3 s k2, h]
 ·rw [← rank_8 s k, ← rank_8 s k2, h]
theorem orI_skip {p a b : Int} (h : p ≠ 0) : orI p a = orI p b := by unfold orI; rw [if_neg h, if_neg h]
theorem cmpT_neg (x y : ByteArray) : cmpT y x = - cmpT x y := cmpL_neg _ _
theorem cmpT_in (x y : ByteArray) : In1 (cmpT x y) := cmpL_in _ _
theorem cmpT_tri (x y z : ByteArray) : Tri (cmpT x y) (cmpT y z) (cmpT x z) := cmpL_tri _ _ _
theorem In1.neg {p : Int} (h : In1 p) : In1 (-p) := by unfold In1 at *; omega
def restV (k n : Int) (b : Bool) (t x : ByteArray) (f : Int) (k2 n2 : Int) (b2 : Bool) (t2 x2 : ByteArray) : Int :=
 if isNum k then orI (cmpI (numV k n t) (numV k2 n2 t2)) (if k = 2 ∨ k2 = 2 then cmpI k k2 else cmpT t t2)
 else if k = 5 then f
 else if k = 6 ∨ k = 7 then cmpI n n2
 else if k = 1 then cmpI (b2i b) (b2i b2)
 else orI (cmpT t t2) (cmpT x x2)
theorem ordV_mk (s : Bool) (k : Int) (b : Bool) (n : Int) (t x : ByteArray) (l : List V) (k2 : Int) (b2 : Bool) (n2 : Int) (t2 x2 : ByteArray) (l2 : List V) :
 ordV s (.mk k b n t x l) (.mk k2 b2 n2 t2 x2 l2) = orI (cmpI (rankV s k) (rankV s k2)) (restV k n b t x (ordL s l l2) k2 n2 b2 t2 x2) := by
 rw [ordV]; rfl
theorem rest_neg {k k2 : Int} (hc : Cls k k2) {f g : Int} (hf : g = -f) (n : Int) (b : Bool) (t x : ByteArray) (n2 : Int) (b2 : Bool) (t2 x2 : ByteArray) :
 restV k2 n2 b2 t2 x2 g k n b t x = - restV k n b t x f k2 n2 b2 t2 x2 := by
 unfold restV
 rw [hc.num]
 cases hn : isNum k
 ·simp only [Bool.false_eq_true, if_false]
  by_cases h5 : k = 5
  ·rw [if_pos h5, if_pos (hc.c5.2 h5)]; exact hf
  rw [if_neg h5, if_neg (fun e => h5 (hc.c5.1 e))]
  by_cases h6 : k = 6 ∨ k = 7
  ·rw [if_pos h6, if_pos (h6.imp hc.c6.2 hc.c7.2)]; exact cmpI_neg _ _
  rw [if_neg h6, if_neg (fun e => h6 (e.imp hc.c6.1 hc.c7.1))]
  by_cases h1 : k = 1
  ·rw [if_pos h1, if_pos (hc.c1.2 h1)]; exact cmpI_neg _ _
  rw [if_neg h1, if_neg (fun e => h1 (hc.c1.1 e)), cmpT_neg t t2, cmpT_neg x x2]
  exact orI_neg _ _
 ·simp only [if_true]
  rw [cmpI_neg (numV k n t), ← orI_neg]
  congr 1
  by_cases h2 : k = 2 ∨ k2 = 2
  ·rw [if_pos h2, if_pos h2.symm]; exact cmpI_neg _ _
  ·rw [if_neg h2, if_neg (fun e => h2 e.symm)]; exact cmpT_neg _ _
theorem rest_in {k : Int} {f : Int} (hf : In1 f) (n : Int) (b : Bool) (t x : ByteArray) (k2 n2 : Int) (b2 : Bool) (t2 x2 : ByteArray) : In1 (restV k n b t x f k2 n2 b2 t2 x2) := by
 unfold restV
 split
 ·refine (cmpI_in _ _).or ?_
  split
  ·exact cmpI_in _ _
  ·exact cmpT_in _ _
 ·split
  ·exact hf
  ·split
   ·exact cmpI_in _ _
   ·split
    ·exact cmpI_in _ _
    ·exact (cmpT_in _ _).or (cmpT_in _ _)
theorem kinds_tri (k k2 k3 : Int) (hk : k = 2 ∨ k = 3) (hk2 : k2 = 2 ∨ k2 = 3) (hk3 : k3 = 2 ∨ k3 = 3) (p q r : Int) (h : Tri p q r) :
 Tri (if k = 2 ∨ k2 = 2 then cmpI k k2 else p) (if k2 = 2 ∨ k3 = 2 then cmpI k2 k3 else q) (if k = 2 ∨ k3 = 2 then cmpI k k3 else r) := by
 rcases hk with rfl | rfl <;> rcases hk2 with rfl | rfl <;> rcases hk3 with rfl | rfl <;> simp [cmpI] <;> unfold Tri at * <;> omega
theorem rest_tri {k k2 k3 : Int} (h2 : Cls k k2) (h3 : Cls k k3) {f g h : Int} (hf : k = 5 → Tri f g h) (n : Int) (b : Bool) (t x : ByteArray) (n2 : Int) (b2 : Bool) (t2 x2 : ByteArray) (n3 : Int) (b3 : Bool) (t3 x3 : ByteArray) :
 Tri (restV k n b t x f k2 n2 b2 t2 x2) (restV k2 n2 b2 t2 x2 g k3 n3 b3 t3 x3) (restV k n b t x h k3 n3 b3 t3 x3) := by
 unfold restV
 have hn3 := h3.num
 have hn2 := h2.num
 rw [hn2]
 cases hn : isNum k
 ·simp only [Bool.false_eq_true, if_false]
  by_cases h5 : k = 5
  ·have h25 : k2 = 5 := h2.c5.2 h5
   rw [if_pos h5, if_pos h25, if_pos h5]; exact hf h5
  have h25 : ¬ k2 = 5 := fun e => h5 (h2.c5.1 e)
  rw [if_neg h5, if_neg h25, if_neg h5]
  by_cases h6 : k = 6 ∨ k = 7
  ·have h26 : k2 = 6 ∨ k2 = 7 := h6.imp h2.c6.2 h2.c7.2
   rw [if_pos h6, if_pos h26, if_pos h6]; exact cmpI_tri _ _ _
  have h26 : ¬ (k2 = 6 ∨ k2 = 7) := fun e => h6 (e.imp h2.c6.1 h2.c7.1)
  rw [if_neg h6, if_neg h26, if_neg h6]
  by_cases h1 : k = 1
  ·have h21 : k2 = 1 := h2.c1.2 h1
   rw [if_pos h1, if_pos h21, if_pos h1]; exact cmpI_tri _ _ _
  have h21 : ¬ k2 = 1 := fun e => h1 (h2.c1.1 e)
  rw [if_neg h1, if_neg h21, if_neg h1]
  exact (cmpT_tri _ _ _).or fun _ _ _ => cmpT_tri _ _ _
 ·simp only [if_true]
  refine (cmpI_tri _ _ _).or fun _ _ _ => ?_
  rw [hn] at hn2 hn3
  exact kinds_tri k k2 k3 ((isNum_iff k).1 hn) ((isNum_iff k2).1 hn2) ((isNum_iff k3).1 hn3) _ _ _ (cmpT_tri _ _ _)
mutual
theorem ordV_neg (s : Bool) : ∀ v u : V, ordV s u v = - ordV s v u
 | .mk k b n t x l, .mk k2 b2 n2 t2 x2 l2 => by
  rw [ordV_mk, ordV_mk, cmpI_neg (rankV s k) (rankV s k2)]
  by_cases hr : rankV s k = rankV s k2
  ·rw [rest_neg (cls hr) (ordL_neg s l l2) n b t x n2 b2 t2 x2, orI_neg]
  ·have h0 : cmpI (rankV s k) (rankV s k2) ≠ 0 := fun e => hr ((cmpI_zero _ _).1 e)
   rw [← orI_neg]
   exact orI_skip (by omega)
theorem ordL_neg (s : Bool) : ∀ v u : List V, ordL s u v = - ordL s v u
 | [], [] => by rw [ordL]; rfl
 | [], _ :: _ => by rw [ordL, ordL]; rfl
 | _ :: _, [] => by rw [ordL, ordL]
 | v :: l, u :: m => by rw [ordL, ordL, ordV_neg s v u, ordL_neg s l m, orI_neg]
end
mutual
theorem ordV_in (s : Bool) : ∀ v u : V, In1 (ordV s v u)
 | .mk k b n t x l, .mk k2 b2 n2 t2 x2 l2 => by
  rw [ordV_mk]
  exact (cmpI_in _ _).or (rest_in (ordL_in s l l2) ..)
theorem ordL_in (s : Bool) : ∀ v u : List V, In1 (ordL s v u)
 | [], [] => by rw [ordL]; exact .inr (.inl rfl)
 | [], _ :: _ => by rw [ordL]; exact .inl rfl
 | _ :: _, [] => by rw [ordL]; exact .inr (.inr rfl)
 | v :: l, u :: m => by rw [ordL]; exact (ordV_in s v u).or (ordL_in s l m)
end
mutual
theorem ordV_tri (s : Bool) : ∀ v u w : V, Tri (ordV s v u) (ordV s u w) (ordV s v w)
 | .mk k b n t x l, .mk k2 b2 n2 t2 x2 l2, .mk k3 b3 n3 t3 x3 l3 => by
  rw [ordV_mk, ordV_mk, ordV_mk]
  refine (cmpI_tri _ _ _).or fun h1 h2 h3 => ?_
  exact rest_tri (cls ((cmpI_zero _ _).1 h1)) (cls ((cmpI_zero _ _).1 h3)) (fun _ => ordL_tri s l l2 l3) ..
theorem ordL_tri (s : Bool) : ∀ v u w : List V, Tri (ordL s v u) (ordL s u w) (ordL s v w)
 | [], [], [] => by simp only [ordL]; unfold Tri; omega
 | [], [], _ :: _ => by simp only [ordL]; unfold Tri; omega
 | [], _ :: _, [] => by simp only [ordL]; unfold Tri; omega
 | [], _ :: _, _ :: _ => by simp only [ordL]; unfold Tri; omega
 | _ :: _, [], [] => by simp only [ordL]; unfold Tri; omega
 | _ :: _, [], _ :: _ => by simp only [ordL]; unfold Tri; omega
 | _ :: _, _ :: _, [] => by simp only [ordL]; unfold Tri; omega
 | v :: l, u :: m, w :: o => by
  rw [ordL, ordL, ordL]
  exact (ordV_tri s v u w).or fun _ _ _ => ordL_tri s l m o
end
def nullV : V := .mk 0 false 0 ⟨#[]⟩ ⟨#[]⟩ []
end Go.Proofs.YtidplkfhodpdhaaGreatDoor.val
