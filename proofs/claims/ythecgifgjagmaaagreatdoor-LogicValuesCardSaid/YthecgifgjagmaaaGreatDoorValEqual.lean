/- Contracts of Equal in the language of paths (that it answers with a truth value), and of logic's Of, Back. -/
import Derived.Test.YthecgifgjagmaaaGreatDoorValEq
namespace Go.Proofs.YthecgifgjagmaaaGreatDoor.val
open Go.ChangeShapes Go.WideShapes Go.ChangeAt Go.RowKit kit dec
set_option linter.unusedVariables false
set_option linter.unusedSimpArgs false
set_option maxRecDepth 100000 in
set_option maxHeartbeats 1000000 in
theorem equal_call (N : Nat) (hN : N ≤ 9223372036854775807) (w : World) (hE : Env w) (k : Int) (b : Bool) (n : Int) (hn : In64 n) (t x : ByteArray) (s : Value) (l : List V) (k2 : Int) (bb : Bool) (n2 : Int) (hn2 : In64 n2) (t2 x2 : ByteArray) (s2 : Value) (l2 : List V)
    (ha : LA w N s l) (ht : t.size ≤ N) (hx : x.size ≤ N) (ha2 : LA w N s2 l2) (ht2 : t2.size ≤ N) (hx2 : x2.size ≤ N) :
    Calls Tryz.prog 16 #[.int .i64 0, agg6 k b n t x s, agg6 k2 bb n2 t2 x2 s2] w fun e w' => TriEnd e ∧ Below w.heap.size w w' := by
  have h2 := B2.made w (c6 k b n t x s) (c6 k2 bb n2 t2 x2 s2)
  have hc1 : ∀ W, Below w.heap.size w W → Calls Tryz.prog 24 #[agg6 k b n t x s] W fun e w' => e = .returned (.bool (mayV (.mk k b n t x l))) ∧ Below W.heap.size W w' := fun W hb => check_any N hN W (hE.below hb) k b n t x s l (ha.stay hb) ht hx
  have hc2 : ∀ W, Below w.heap.size w W → Calls Tryz.prog 24 #[agg6 k2 bb n2 t2 x2 s2] W fun e w' => e = .returned (.bool (mayV (.mk k2 bb n2 t2 x2 l2))) ∧ Below W.heap.size W w' := fun W hb => check_any N hN W (hE.below hb) k2 bb n2 t2 x2 s2 l2 (ha2.stay hb) ht2 hx2
  have heq : ∀ W, Below w.heap.size w W → Calls Tryz.prog 43 #[.int .i64 0, agg6 k b n t x s, agg6 k2 bb n2 t2 x2 s2] W fun e w' => TriEnd e ∧ Below W.heap.size W w' := fun W hb => equal_all N hN (SizeOf.sizeOf l + 1) W (hE.below hb) k b n hn t x s l k2 bb n2 hn2 t2 x2 s2 l2 (Nat.lt_succ_self _) (ha.stay hb) (ha2.stay hb)
  clear ha ha2 hE
  generalize mayV (.mk k b n t x l) = p at *
  generalize mayV (.mk k2 bb n2 t2 x2 l2) = p2 at *
  unfold agg6 at hc1 hc2 heq ⊢
  unfold c6 at h2
  replace hc1 := Lib.hid hc1
  replace hc2 := Lib.hid hc2
  replace heq := Lib.hid heq
  go_enter Tryz.func16, Tryz.ntmps16
  go_wp2_with fail
  refine (hc1.out _ h2.below).mono ?_
  rintro e w3 ⟨rfl, hb3⟩
  have h3 := h2.on hb3
  clear h2 hb3
  have x0 := h3.b0.cell 0 rfl
  have x1 := h3.b0.cell 1 rfl
  have x2' := h3.b0.cell 2 rfl
  have x3 := h3.b0.cell 3 rfl
  have x4 := h3.b0.cell 4 rfl
  have x5 := h3.b0.cell 5 rfl
  have y0 := h3.b1.cell 0 rfl
  have y1 := h3.b1.cell 1 rfl
  have y2 := h3.b1.cell 2 rfl
  have y3 := h3.b1.cell 3 rfl
  have y4 := h3.b1.cell 4 rfl
  have y5 := h3.b1.cell 5 rfl
  replace h3 := Lib.hid h3
  cases p
  · go_wp2
    go_ret
    exact ⟨⟨_, rfl, .inr (.inr rfl)⟩, h3.out.below⟩
  · go_wp2_with fail
    refine (hc2.out _ h3.out.below).mono ?_
    rintro e w4 ⟨rfl, hb4⟩
    have h4 := h3.out.on hb4
    clear h3 hb4 x0 x1 x2' x3 x4 x5 y0 y1 y2 y3 y4 y5
    have x0 := h4.b0.cell 0 rfl
    have x1 := h4.b0.cell 1 rfl
    have x2' := h4.b0.cell 2 rfl
    have x3 := h4.b0.cell 3 rfl
    have x4 := h4.b0.cell 4 rfl
    have x5 := h4.b0.cell 5 rfl
    have y0 := h4.b1.cell 0 rfl
    have y1 := h4.b1.cell 1 rfl
    have y2 := h4.b1.cell 2 rfl
    have y3 := h4.b1.cell 3 rfl
    have y4 := h4.b1.cell 4 rfl
    have y5 := h4.b1.cell 5 rfl
    replace h4 := Lib.hid h4
    cases p2
    · go_wp2
      go_ret
      exact ⟨⟨_, rfl, .inr (.inr rfl)⟩, h4.out.below⟩
    · go_wp2_with fail
      refine (heq.out _ h4.out.below).mono ?_
      rintro e w5 ⟨⟨r, rfl, hr⟩, hb5⟩
      have hb6 := Lib.hid (h4.out.below.trans (hb5.mono h4.out.below.size))
      clear hb5
      go_wp2
      go_ret
      exact ⟨⟨_, rfl, hr⟩, hb6.out⟩
end Go.Proofs.YthecgifgjagmaaaGreatDoor.val
