/- The world of the loops that make a table. -/
import Derived.Test.YtidplkfhodpdhaaGreatDoorTabJmA
import Derived.Test.YtidplkfhodpdhaaGreatDoorTabTogA
namespace Go.Proofs.YtidplkfhodpdhaaGreatDoor.tab
open Go.ChangeShapes Go.WideShapes Go.ChangeAt Go.RowKit kit dec val
open hyp (RowA TextsA CellsStay stay_of_below textsV textsV_length own_row)
set_option linter.unusedVariables false
set_option linter.unusedSimpArgs false
def TabO (w0 w : World) (N : Nat) (v : Value) (t : Tab) : Prop :=
 ∃ vv rv, v = .agg #[vv, rv] ∧ Below w0.heap.size w0 w ∧ w.ownsRow w0.heap.size 9 1 vv t.vars.length (textsV t.vars) ∧ (∀ s ∈ t.vars, s.size ≤ maxLen) ∧ MR w N (Fr w0.heap.size w) rv t.rows
theorem TabO.below {w0 w : World} {N : Nat} {v : Value} {t : Tab} (h : TabO w0 w N v t) : Below w0.heap.size w0 w := by
 obtain ⟨_, _, _, h, _⟩ := h
 exact h
theorem TabO.read {w0 w : World} {N : Nat} {v : Value} {t : Tab} (h : TabO w0 w N v t) : TabA w N v t := by
 obtain ⟨vv, rv, e, hb, ho, hs, hr⟩ := h
 exact ⟨vv, rv, e, ⟨own_row (by rw [textsV_length]; exact ho), hs⟩, hr.read⟩
theorem tabO_zero {w W : World} {N : Nat} (hb : Below w.heap.size w W) : TabO w W N (.agg #[.slice none 0 0, .slice none 0 0]) ⟨[], []⟩ :=
 ⟨_, _, rfl, hb, World.ownsRow_nil _ _ _ _, by simp, MR.nil _ _ _⟩
theorem infoTab : (Tryz.prog.info? 25).map (·.size) = some 2 := by kernel_rfl
structure JnW (w2 wr : World) (N : Nat) (names rv : Value) (L : List (List V)) : Prop where
 below : Below w2.heap.size w2 wr
 tb : Blk wr w2.heap.size #[names, rv] 25
 rows : MR wr N (fun b => w2.heap.size < b ∧ b < wr.heap.size) rv L
theorem JnW.start (w2 : World) (N : Nat) (names : Value) : JnW w2 (w2.alloc (.cells #[names, .slice none 0 0] 25)) N names (.slice none 0 0) [] :=
 ⟨(Below.refl _ _).alloc (Nat.le_refl _) _, Blk.new _ _ _, MR.nil _ _ _⟩
theorem JnW.stay {w2 wr w' : World} {N : Nat} {names rv : Value} {L : List (List V)} (h : JnW w2 wr N names rv L) (hb : Below wr.heap.size wr w') : JnW w2 w' N names rv L :=
 ⟨h.below.trans (hb.mono h.below.size), (hb.block _ h.tb.lt).trans h.tb, (h.rows.stay fun b hS hlt => hb.block b hlt).mono fun b hS => ⟨hS.1, Nat.lt_of_lt_of_le hS.2 hb.size⟩⟩
theorem JnW.slice {w2 wr : World} {N : Nat} {names rv : Value} {L : List (List V)} (h : JnW w2 wr N names rv L) : ∃ a c, rv = .slice a L.length c := h.rows.form
theorem JnW.push {w2 wr w' : World} {N : Nat} {names rv v' : Value} {L : List (List V)} {x : List V} {S T : Nat → Prop} (h : JnW w2 wr N names rv L)
 (hM : MR w' N (fun b => S b ∨ T b ∨ (wr.heap.size ≤ b ∧ b < w'.heap.size)) v' (L ++ [x])) (hg : wr.grownBy w' rv.ownBlock) (hv : ∀ g, rv.ownBlock = some g → w2.heap.size < g ∧ g < wr.heap.size) (hS : ∀ b, S b → w2.heap.size < b ∧ b < w'.heap.size) (hT : ∀ b, T b → w2.heap.size < b ∧ b < w'.heap.size) :
 JnW w2 (w'.setCell ⟨w2.heap.size, 1, none⟩ v') N names v' (L ++ [x]) := by
 have htl := h.tb.lt
 have e1 : Blk w' w2.heap.size #[names, rv] _ := (hg.block _ h.tb.lt (fun e => by have := (hv _ e.symm).1; omega)).trans h.tb
 have hb := h.below.grown hg h.below.size (fun g e => by have := (hv g e).1; omega)
 refine ⟨hb.setCell (p := ⟨w2.heap.size, 1, none⟩) (Nat.le_refl _) v', e1.set 1 v', ?_⟩
 have hsz : (w'.setCell ⟨w2.heap.size, 1, none⟩ v').heap.size = w'.heap.size := by simp [World.setCell]
 have hgs := hg.size
 have hall : ∀ b, (S b ∨ T b ∨ (wr.heap.size ≤ b ∧ b < w'.heap.size)) → w2.heap.size < b ∧ b < w'.heap.size := fun b hb => by
  rcases hb with hb | hb | hb
  ·exact hS b hb
  ·exact hT b hb
  ·omega
 refine (hM.stay fun b hb _ => Below.heap_setCell w' _ v' b ?_).mono fun b hb => ?_
 ·have := (hall b hb).1; simp; omega
 ·rw [hsz]; exact hall b hb
theorem own_keep {w w' : World} {B k : Nat} {t : TypeId} {v : Value} {n : Nat} {xs : List Value} (h : w.ownsRow B t k v n xs) (hb : Below w.heap.size w w') : w'.ownsRow B t k v n xs :=
 own_stay h fun g hg => hb.block g (h.lt g hg).2
theorem JnW.done {w w2 wr : World} {N B rb : Nat} {names rv : Value} {vars : List ByteArray} {L : List (List V)} (h : JnW w2 wr N names rv L) (hb : Below w.heap.size w w2)
 (own : w2.ownsRow B 9 1 names vars.length (textsV vars)) (hB : w.heap.size ≤ B) (hsz : ∀ s ∈ vars, s.size ≤ maxLen) (hrb : Blk w2 rb #[.slice none 0 0, .slice none 0 0] 25) (hlow : w.heap.size ≤ rb) :
 Blk ((wr.setCell ⟨rb, 0, none⟩ names).setCell ⟨rb, 1, none⟩ rv) rb #[names, rv] 25 ∧ TabO w ((wr.setCell ⟨rb, 0, none⟩ names).setCell ⟨rb, 1, none⟩ rv) N (.agg #[names, rv]) ⟨vars, L⟩ := by
 have hr1 : Blk wr rb #[.slice none 0 0, .slice none 0 0] _ := (h.below.block _ hrb.lt).trans hrb
 have hr2 := hr1.set 0 names
 have hr3 := hr2.set 1 rv
 refine ⟨hr3, names, rv, rfl, ?_, ?_, hsz, ?_⟩
 ·exact ((hb.trans (h.below.mono hb.size)).setCell (p := ⟨rb, 0, none⟩) hlow names).setCell (p := ⟨rb, 1, none⟩) hlow rv
 ·exact own_set (own_set (own_low4 (own_keep own h.below) hB) hr1 (by decide) 0 names) hr2 (by decide) 1 rv
 ·have hsz : ((wr.setCell ⟨rb, 0, none⟩ names).setCell ⟨rb, 1, none⟩ rv).heap.size = wr.heap.size := by simp [World.setCell]
  have hlt := hrb.lt
  have hbs := hb.size
  refine (h.rows.stay fun b hS _ => ?_).mono fun b hS => ?_
  ·have := hS.1
   rw [Below.heap_setCell _ _ _ b (by simp; omega), Below.heap_setCell _ _ _ b (by simp; omega)]
  ·exact ⟨by have := hS.1; omega, by rw [hsz]; exact hS.2⟩
end Go.Proofs.YtidplkfhodpdhaaGreatDoor.tab
