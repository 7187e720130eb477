/- Texts TabCopied, TabRow, one behind the other. -/
import Derived.Test.YtidplkfhodpdhaaGreatDoorVMadeA
import Derived.Test.YtidplkfhodpdhaaGreatDoorTabIA
import Derived.Laws.MakeOwn
namespace Go.Proofs.YtidplkfhodpdhaaGreatDoor.tab
open Go.ChangeShapes Go.WideShapes Go.ChangeAt Go.RowKit kit dec val
set_option linter.unusedVariables false
set_option linter.unusedSimpArgs false
end Go.Proofs.YtidplkfhodpdhaaGreatDoor.tab
namespace Go.Proofs.YtidplkfhodpdhaaGreatDoor.tab
open Go.ChangeShapes Go.WideShapes Go.ChangeAt Go.RowKit kit dec val
set_option linter.unusedVariables false
set_option linter.unusedSimpArgs false
theorem infoVal : (Tryz.prog.info? 52).map (fun i => (i.zero, i.size, i.bytes)) = some (some (.agg #[.int .i64 0, .bool false, .int .i64 0, .string ByteArray.empty, .string ByteArray.empty, .slice none 0 0]), 6, 80) := by kernel_rfl
def zeroCells (n : Nat) : Array Value := madeCells #[.int .i64 0, .bool false, .int .i64 0, .string ByteArray.empty, .string ByteArray.empty, .slice none 0 0] (n * 6)
theorem make_vals (l n : Nat) (hl : l ≤ n) (hn : n ≤ 1048576) (w : World) :
 (Instr.makeSlice 37 (.int .i64 (l : Int)) (.int .i64 (n : Int))).run Tryz.prog w = .ok (.slice (some ⟨w.heap.size, 0, none⟩) l n) (w.alloc (.cells (zeroCells n) 52)) := by
 obtain ⟨i0, hi, h1, h2, h3⟩ := info_parts infoVal
 have := run_make (P := Tryz.prog) w 37 52 i0 _ Tryz.underlying37 hi h1 .i64 .i64 (l : Int) (n : Int) (by omega) (by omega) (by rw [h3]; omega) (by omega)
 rw [h2] at this
 simp only [Int.toNat_natCast] at this
 exact this
theorem wpList_push1 {w : World} {ops : Array Oper} {rest : List Oper} {o : Oper} {a : Act} {Q : Exit → Act → World → Prop} (hgd : o.guard = none) (s x : Operand)
 (ho : o.op = .call { callee := .builtin .append, args := #[s, x], argTypes := #[37, 37] })
 (N : Nat) (hN : N ≤ 1048576) (S T : Nat → Prop) (v : Value) (l : List V) (hs : a.eval s = v) (hL : LF w N S v l) (hSlt : ∀ b, S b → b < w.heap.size)
 (g : Nat) (e : V) (t : Value) (hx : a.eval x = .slice (some ⟨g, 0, none⟩) 1 1) (hg : Blk w g (six e t).toArray 52)
 (hT : LF w N T t (kids e)) (hTlt : ∀ b, T b → b < w.heap.size ∧ ¬ S b) (hok : okV N e) (hlen : l.length + 1 ≤ N)
 (hK : ∀ v' w', LF w' N (fun b => S b ∨ T b ∨ (w.heap.size ≤ b ∧ b < w'.heap.size)) v' (l ++ [e]) → w.grownBy w' v.ownBlock → (∀ g, v.ownBlock = some g → S g) → wpList Tryz.prog ops Q rest (a.put o.dst v') w') :
 wpList Tryz.prog ops Q (o :: rest) a w :=
 wpList_plain hgd fun _ hK2 => wp_push1 s x ho N hN S T v l hs hL hSlt g e t hx hg hT hTlt hok hlen fun v' w' h1 h2 h3 => hK2 _ _ (hK v' w' h1 h2 h3)
theorem LF.made0 (w : World) (N n : Nat) (hn : n ≤ 1048576) (S : Nat → Prop) (hS : S w.heap.size) : LF (w.alloc (.cells (zeroCells n) 52)) N S (.slice (some ⟨w.heap.size, 0, none⟩) 0 n) [] :=
 .mk [] (fun _ _ => False) rfl (Nat.zero_le _) (World.ownsRow_made w _ n (Nat.zero_le _) (by unfold maxLen; omega) (size_madeCells _ _)) (fun g h => by injection h with h; rw [← h]; exact hS) (fun g h => by intro j hj; exact hj.elim) (fun _ _ h => h.elim) (fun _ _ _ h => h.elim) (fun p hp => by cases hp) (fun j hj => by simp at hj)
end Go.Proofs.YtidplkfhodpdhaaGreatDoor.tab
