/- Texts VP0, ValB2, VKit0, one behind the other. -/
import Derived.Test.YtidplkfhodpdhaaGreatDoorValChk
namespace Go.Proofs.YtidplkfhodpdhaaGreatDoor.val
open Go.RowKit dec
set_option linter.unusedVariables false
set_option linter.unusedSimpArgs false
theorem toList_inj {a b : ByteArray} (h : a.toList = b.toList) : a = b := by
 rw [Go.ByteArray.toList_eq, Go.ByteArray.toList_eq] at h
 exact ba_ext h
mutual
def sameP : V → V → Bool
 | .mk k b n t x l, .mk k2 b2 n2 t2 x2 l2 => decide (k = k2) && (decide (b = b2) && (decide (n = n2) && (decide (t.data.toList = t2.data.toList) && (decide (x.data.toList = x2.data.toList) && sameL l l2))))
def sameL : List V → List V → Bool
 | [], [] => true
 | [], _ :: _ => false
 | _ :: _, [] => false
 | v :: l, u :: m => sameP v u && sameL l m
end
mutual
theorem sameP_iff : ∀ v u : V, sameP v u = true ↔ v = u
 | .mk k b n t x l, .mk k2 b2 n2 t2 x2 l2 => by
  rw [sameP]
  simp only [Bool.and_eq_true, decide_eq_true_eq, sameL_iff l l2, V.mk.injEq]
  constructor
  ·rintro ⟨h1, h2, h3, h4, h5, h6⟩; exact ⟨h1, h2, h3, ba_ext h4, ba_ext h5, h6⟩
  ·rintro ⟨h1, h2, h3, h4, h5, h6⟩; exact ⟨h1, h2, h3, by rw [h4], by rw [h5], h6⟩
theorem sameL_iff : ∀ l m : List V, sameL l m = true ↔ l = m
 | [], [] => by rw [sameL]; simp
 | [], _ :: _ => by rw [sameL]; simp
 | _ :: _, [] => by rw [sameL]; simp
 | v :: l, u :: m => by rw [sameL, Bool.and_eq_true, sameP_iff v u, sameL_iff l m]; simp
end
def kindV : V → Int | .mk k _ _ _ _ _ => k
mutual
def sizeV : V → Nat
 | .mk _ _ _ t x l => 1 + t.size / 64 + x.size / 64 + sizeL l
def sizeL : List V → Nat
 | [] => 0
 | v :: r => sizeV v + sizeL r
end
theorem sameP_self (v : V) : sameP v v = true := (sameP_iff v v).2 rfl
end Go.Proofs.YtidplkfhodpdhaaGreatDoor.val
namespace Go.Proofs.YtidplkfhodpdhaaGreatDoor.val
open Go.ChangeShapes Go.WideShapes Go.ChangeAt Go.RowKit kit dec
set_option linter.unusedVariables false
set_option linter.unusedSimpArgs false
def c6 (k : Int) (b : Bool) (n : Int) (t x : ByteArray) (s : Value) : Array Value := #[.int .i64 k, .bool b, .int .i64 n, .string t, .string x, s]
structure B2 (w W : World) (c d : Array Value) : Prop where
 below : Below w.heap.size w W
 b0 : Blk W w.heap.size c 52
 b1 : Blk W (w.heap.size + 1) d 52
theorem B2.made (w : World) (c d : Array Value) : B2 w ((w.alloc (.cells c 52)).alloc (.cells d 52)) c d := by
 refine ⟨(((Keep.refl [] w).alloc _).alloc _).below, (Blk.new _ _ _).alloc _, ?_⟩
 have := Blk.new (w.alloc (.cells c 52)) d 52
 rwa [World.size_alloc] at this
theorem B2.on {w W W' : World} {c d : Array Value} (h : B2 w W c d) (hb : Below W.heap.size W W') : B2 w W' c d := ⟨h.below.trans (hb.mono h.below.size), h.b0.keep (Keep.ofBelow hb) (by simp), h.b1.keep (Keep.ofBelow hb) (by simp)⟩
end Go.Proofs.YtidplkfhodpdhaaGreatDoor.val
namespace Go.Proofs.YtidplkfhodpdhaaGreatDoor.val
open Go.ChangeShapes Go.WideShapes Go.ChangeAt Go.RowKit kit dec
set_option linter.unusedVariables false
set_option linter.unusedSimpArgs false
theorem Row6.six {w : World} {b o : Nat} {k : Int} {bo : Bool} {n : Int} {t x : ByteArray} {s : Value} (h : Row6 w b o k bo n t x s) :
 w.cell? ⟨b, o, none⟩ = some (.int .i64 k) ∧ w.cell? ⟨b, o + 1, none⟩ = some (.bool bo) ∧ w.cell? ⟨b, o + 2, none⟩ = some (.int .i64 n) ∧ w.cell? ⟨b, o + 3, none⟩ = some (.string t) ∧ w.cell? ⟨b, o + 4, none⟩ = some (.string x) ∧ w.cell? ⟨b, o + 5, none⟩ = some s :=
 ⟨h.c0, h.c1, h.c2, h.c3, h.c4, h.c5⟩
theorem sizeL_take (l : List V) (k : Nat) (h : k < l.length) : sizeL (l.take (k + 1)) = sizeL (l.take k) + sizeV l[k] := by
 induction l generalizing k with
 | nil => simp at h
 | cons v r ih =>
  cases k with
  | zero => simp [sizeL]
  | succ k =>
   rw [List.take_succ_cons, List.take_succ_cons, sizeL, sizeL, ih k (by simpa using h)]
   simp
   omega
theorem sizeL_take_le (l : List V) (k : Nat) : sizeL (l.take k) ≤ sizeL l := by
 induction l generalizing k with
 | nil => simp [sizeL]
 | cons v r ih =>
  cases k with
  | zero => simp [sizeL]
  | succ k => rw [List.take_succ_cons, sizeL, sizeL]; have := ih k; omega
theorem LA.form6 {w : World} {N : Nat} {s : Value} {l : List V} (h : LA w N s l) : ∃ ao cap, s = .slice ao l.length cap := by
 cases h with
 | mk ao cap l hl h => exact ⟨ao, cap, rfl⟩
end Go.Proofs.YtidplkfhodpdhaaGreatDoor.val
