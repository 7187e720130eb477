/- Contract of Encode. -/
import Derived.Test.YtidplkfhodpdhaaGreatDoorVLay
namespace Go.Proofs.YtidplkfhodpdhaaGreatDoor.val
open Go.ChangeShapes Go.WideShapes Go.ChangeAt Go.RowKit kit dec
set_option linter.unusedVariables false
set_option linter.unusedSimpArgs false
theorem BW.form {W W1 : World} {B : Nat} {v : Value} {l : List UInt8} (h : BW W B v l W1) : ∃ ao cap, v = .slice ao l.length cap := by
 rcases h.own.2 with ⟨hv, hn⟩ | ⟨g, cap, cur, hv, _⟩
 ·exact ⟨none, 0, by rw [hv, hn]⟩
 ·exact ⟨_, cap, hv⟩
def encR (v : V) : List UInt8 := if mayV v then encV v else []
set_option maxRecDepth 100000 in
set_option maxHeartbeats 1000000 in
theorem encode_call (N : Nat) (hN : N ≤ 9223372036854775807) (w : World) (hE : Env w) (k : Int) (b : Bool) (n : Int) (hk : In64 k) (hn : In64 n) (t x : ByteArray) (s : Value) (l : List V) (ha : LA w N s l) (ht : t.size ≤ N) (hx : x.size ≤ N) (hlen : (encV (.mk k b n t x l)).length ≤ 10000000) :
 Calls Tryz.prog 111 #[agg6 k b n t x s] w fun e w' => ∃ v', e = .returned (.tuple #[v', .int .i64 (if mayV (.mk k b n t x l) then 0 else 1)]) ∧ BW w w.heap.size v' (encR (.mk k b n t x l)) w' := by
 have hal : Below w.heap.size w (w.alloc (.cells #[.int .i64 k, .bool b, .int .i64 n, .string t, .string x, s] 52)) := (Below.refl _ _).alloc (Nat.le_refl _) _
 have hblk := Blk.new w #[.int .i64 k, .bool b, .int .i64 n, .string t, .string x, s] 52
 have hck := check_any N hN _ (hE.below hal) k b n t x s l (ha.stay hal) ht hx
 have hlay : ∀ W, BW w w.heap.size (.slice none 0 0) [] W → Calls Tryz.prog 132 #[.slice none 0 0, agg6 k b n t x s] W fun e w' => ∃ v', e = .returned v' ∧ BW w w.heap.size v' ([] ++ encV (.mk k b n t x l)) w' ∧ Gr W w' :=
  fun W hW => lay_all N hN (SizeOf.sizeOf l + 1) w W [] _ k b n hk hn t x s l (Nat.lt_succ_self _) ha hW (by simpa using hlen)
 unfold encR
 generalize mayV (.mk k b n t x l) = p at *
 generalize encV (.mk k b n t x l) = E at *
 unfold agg6 at hck hlay ⊢
 have hbw := (BW.start w).alloc (Nat.le_refl _) (.cells #[.int .i64 k, .bool b, .int .i64 n, .string t, .string x, s] 52)
 replace hck := Lib.hid hck
 replace hlay := Lib.hid hlay
 clear ha hE
 go_enter Tryz.func111, Tryz.ntmps111
 go_wp2_with fail
 refine (hck.out).mono ?_
 rintro e w3 ⟨rfl, hb3⟩
 have hbw3 := hbw.on hal.size hb3
 have hblk3 := hblk.keep (Keep.ofBelow hb3) (by simp)
 clear hck hbw hb3 hblk hal
 have x0 := hblk3.cell 0 rfl
 have x1 := hblk3.cell 1 rfl
 have x2c := hblk3.cell 2 rfl
 have x3 := hblk3.cell 3 rfl
 have x4 := hblk3.cell 4 rfl
 have x5 := hblk3.cell 5 rfl
 cases p
 ·replace hbw3 := Lib.hid hbw3
  clear hblk3
  go_wp2
  go_ret2
  exact ⟨_, rfl, hbw3.out⟩
 ·go_wp2_with fail
  refine (hlay.out _ hbw3).mono ?_
  rintro e w4 ⟨v4, rfl, hbw4, hg4⟩
  rw [List.nil_append] at hbw4
  clear hbw3 hblk3 hlay hg4
  replace hbw4 := Lib.hid hbw4
  go_wp2
  go_ret2
  exact ⟨_, rfl, hbw4.out⟩
end Go.Proofs.YtidplkfhodpdhaaGreatDoor.val
