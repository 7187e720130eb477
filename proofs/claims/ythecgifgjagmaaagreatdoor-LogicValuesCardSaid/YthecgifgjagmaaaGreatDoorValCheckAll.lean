/- Contract of checked, of Check. -/
import Derived.Test.YthecgifgjagmaaaGreatDoorValCheckB
import Derived.Test.YthecgifgjagmaaaGreatDoorValCheckC
import Derived.Test.YthecgifgjagmaaaGreatDoorValCheckE
import Derived.Test.YthecgifgjagmaaaGreatDoorValCheckF
namespace Go.Proofs.YthecgifgjagmaaaGreatDoor.val
open Go.ChangeShapes Go.WideShapes Go.ChangeAt Go.RowKit kit dec
set_option linter.unusedVariables false
set_option linter.unusedSimpArgs false
theorem chkW_other (f : List V → Bool) (k : Int) (h0 : k ≠ 0) (h1 : k ≠ 1) (h2 : k ≠ 2) (h3 : k ≠ 3) (h4 : k ≠ 4) (h5 : k ≠ 5) (h6 : k ≠ 6) (h7 : k ≠ 7) (h8 : k ≠ 8) (h9 : k ≠ 9) (h10 : k ≠ 10) (b : Bool) (n : Int) (t x : ByteArray) (l : List V) : chkW f (.mk k b n t x l) = false := by
  unfold chkW
  dsimp only
  rw [if_neg h0, if_neg h1, if_neg h2, if_neg h3, if_neg h4, if_neg h5, if_neg (by omega), if_neg h8, if_neg h9, if_neg h10]
theorem chk_step (N deep : Nat) (hN : N ≤ 9223372036854775807) (f : List V → Bool)
    (h5 : ∀ (w : World) (hE : Env w) (b : Bool) (n : Int) (t x : ByteArray) (ao : Option Addr) (cap : Nat) (l : List V), l.length ≤ N → (∀ j (hj : j < l.length), EA w N ao (6 * j) l[j]) →
      Calls Tryz.prog 54 #[agg6 5 b n t x (.slice ao l.length cap), .int .i64 deep] w fun e w' => e = .returned (.bool (!b && decide (n = 0) && emp t && emp x && decide (l.length ≤ 4096) && f l)) ∧ Below w.heap.size w w') :
    ∀ (w : World) (hE : Env w) (k : Int) (b : Bool) (n : Int) (t x : ByteArray) (s : Value) (l : List V), LA w N s l → t.size ≤ N → x.size ≤ N →
      Calls Tryz.prog 54 #[agg6 k b n t x s, .int .i64 deep] w fun e w' => e = .returned (.bool (chkW f (.mk k b n t x l))) ∧ Below w.heap.size w w' := by
  intro w hE k b n t x s l ha ht hx
  cases ha with
  | mk ao cap l hl h =>
    rcases kinds k with rfl | rfl | rfl | rfl | rfl | rfl | rfl | rfl | rfl | rfl | rfl | ⟨h0, h1, h2, h3, h4, h5, h6, h7, h8, h9, h10⟩
    · exact checked0 b n t x ao l.length cap deep w
    · exact checked1 b n t x ao l.length cap deep w
    · exact checked2 b n t x ao l.length cap deep w
    · exact checked3 b n t x ao l.length cap deep w hE
    · exact checked4 b n t x ao l.length cap deep w (by omega)
    · exact h5 w hE b n t x ao cap l hl h
    · exact checked6 6 (.inl rfl) b n t x ao l.length cap deep w
    · exact checked6 7 (.inr rfl) b n t x ao l.length cap deep w
    · exact checked8 b n t x ao l.length cap deep w (by omega)
    · exact checked9 b n t x ao l.length cap deep w (by omega)
    · exact checked10 b n t x ao l.length cap deep w (by omega) (by omega)
    · rw [chkW_other f k h0 h1 h2 h3 h4 h5 h6 h7 h8 h9 h10]
      exact checkedK k h0 h1 h2 h3 h4 h5 h6 h7 h8 h9 h10 b n t x ao l.length cap deep w
theorem chk_all (N : Nat) (hN : N ≤ 9223372036854775807) : ∀ d, d ≤ 60 → Chk N d := by
  intro d
  induction d with
  | zero =>
    intro _
    refine chk_step N 60 hN (fun _ => false) (fun w hE b n t x ao cap l hl h => ?_)
    rw [Bool.and_false]
    exact checked5_0 b n t x ao l.length cap w
  | succ d ih =>
    intro hd
    have hc := ih (by omega)
    refine chk_step N (60 - (d + 1)) hN (fun l => l.all (chkV d)) (fun w hE b n t x ao cap l hl h => ?_)
    refine checked5 b n t x ao l.length cap (60 - (d + 1)) (by omega) w (l.all (chkV d)) (fun W hb hy => ?_)
    exact contains_any N d hN (by omega) hc W (hE.below hb) (w.heap.size + 1) hy ao cap l hl (fun j hj => (h j hj).stay hb)
/-- May a value be? -/
def mayV (v : V) : Bool := chkV 60 v
set_option maxRecDepth 100000 in
theorem check_any (N : Nat) (hN : N ≤ 9223372036854775807) (w : World) (hE : Env w) (k : Int) (b : Bool) (n : Int) (t x : ByteArray) (s : Value) (l : List V) (ha : LA w N s l) (ht : t.size ≤ N) (hx : x.size ≤ N) :
    Calls Tryz.prog 24 #[agg6 k b n t x s] w fun e w' => e = .returned (.bool (mayV (.mk k b n t x l))) ∧ Below w.heap.size w w' := by
  have hal : Below w.heap.size w (w.alloc (.cells #[.int .i64 k, .bool b, .int .i64 n, .string t, .string x, s] 26)) := (Below.refl _ _).alloc (Nat.le_refl _) _
  have hcl := chk_all N hN 60 (Nat.le_refl _) _ (hE.below hal) k b n t x s l (ha.stay hal) ht hx
  unfold mayV
  generalize chkV 60 (.mk k b n t x l) = c at *
  rw [show ((60 - 60 : Nat) : Int) = 0 from rfl] at hcl
  unfold agg6 at hcl ⊢
  replace hcl := Lib.hid hcl
  clear ha hE
  go_enter Tryz.func24, Tryz.ntmps24
  go_wp2_with fail
  refine hcl.out.mono ?_
  rintro e w2 ⟨rfl, hb2⟩
  go_wp2
  go_ret
  exact ⟨rfl, hal.trans (hb2.mono hal.size)⟩
end Go.Proofs.YthecgifgjagmaaaGreatDoor.val
