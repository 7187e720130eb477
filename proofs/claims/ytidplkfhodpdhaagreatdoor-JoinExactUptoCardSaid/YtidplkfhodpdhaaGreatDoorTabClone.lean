/- Contract of slices.Clone at texts. -/
import Derived.Test.YtidplkfhodpdhaaGreatDoorTabIA
import Derived.Lib.SliceRun
import Derived.Lib.SmallJoins
namespace Go.Proofs.YtidplkfhodpdhaaGreatDoor.tab
open Go.ChangeShapes Go.WideShapes Go.ChangeAt Go.RowKit kit dec val
open hyp (RowA TextsA CellsStay stay_of_below textsV textsV_length own_row OW)
set_option linter.unusedVariables false
set_option linter.unusedSimpArgs false
theorem infoStr : (Tryz.prog.info? 9).map (fun i => (i.zero, i.size, i.bytes)) = some (some (.string ByteArray.empty), 1, 16) := by kernel_rfl
theorem infoInt : (Tryz.prog.info? 3).map (fun i => (i.zero, i.size, i.bytes)) = some (some (.int .i64 0), 1, 8) := by kernel_rfl
set_option maxRecDepth 100000 in
set_option maxHeartbeats 2000000 in
theorem cloneT_any (w : World) (u : Value) (L : List ByteArray) (hl : L.length ≤ 1048576) (hR : TextsA w w.heap.size u L) :
 Calls Tryz.prog 83 #[u] w fun e w' => ∃ v, e = .returned v ∧ OW 9 w w.heap.size v (textsV L) w' := by
 obtain ⟨i0, hi, hz0, hz1, hz2⟩ := info_parts infoStr
 have q22 : ∀ (w : World) (a : Option Addr) (n c n' c' : Nat), (binOp .eql 22 (.slice a n c) (.slice none n' c')).run Tryz.prog w = .ok (.bool a.isNone) w := fun w a n c n' c' => Lib.run_eql_slice_nil w _ _ a n c n' c' Tryz.underlying22
 obtain ⟨ao, cap, rfl, -⟩ := hR.form
 by_cases h0 : L = []
 ·subst h0
  cases ao with
  | none =>
   clear hR
   go_enter Tryz.func83, Tryz.ntmps83
   go_wp2
   go_ret
   exact ⟨_, rfl, hyp.OW.start _ _ _⟩
  | some a =>
   clear hR
   go_enter Tryz.func83, Tryz.ntmps83
   go_wp2_with (at_builtin; refine wpList_append_own _ rfl _ _ 22 rfl w.heap.size 9 i0 (.string ByteArray.empty) 1 16 Tryz.underlying22 hi hz0 hz1 hz2 rfl (by decide) _ _ _ rfl (World.ownsRow_made w #[] 0 (Nat.le_refl _) (Nat.zero_le _) rfl) a 0 cap [] rfl rfl ?e2 ?e3 ?e4 ?e5 ?e6 ?_)
   case e2 => intro j u hj; simp at hj
   case e3 => intro u hu; cases hu
   case e4 => simp [maxLen]
   case e5 => omega
   case e6 => simp
   intro v' w1 hown hgrow hnil
   go_wp2
   go_ret
   have hbl : Below w.heap.size w w1 := ((Below.refl _ w).alloc (Nat.le_refl _) _).grown hgrow (by simp) (by intro k hk; simp [Value.ownBlock] at hk; omega)
   exact ⟨v', rfl, hbl, by simpa [textsV] using hown⟩
 ·have hpos := List.length_pos_iff.2 h0
  rcases hR.row with ⟨a, c, hv, hnil⟩ | ⟨b, off, c, hv, -, hcap, hb, hc⟩
  ·simp [textsV] at hnil; exact absurd hnil h0
  obtain ⟨rfl, rfl⟩ : ao = some ⟨b, off, none⟩ ∧ cap = c := by
   injection hv with h1 h2 h3
   exact ⟨h1, h3⟩
  have A : Hid (∀ j (h : j < (textsV L).length), w.cell? ⟨b, off + j, none⟩ = some (textsV L)[j]) := hc
  clear hc hv hR
  have hml : (textsV L).length = L.length := textsV_length L
  go_enter Tryz.func83, Tryz.ntmps83
  go_wp2_with (at_builtin; refine wpList_append_own _ rfl _ _ 22 rfl w.heap.size 9 i0 (.string ByteArray.empty) 1 16 Tryz.underlying22 hi hz0 hz1 hz2 rfl (by decide) _ _ _ rfl (World.ownsRow_made w #[] 0 (Nat.le_refl _) (Nat.zero_le _) rfl) ⟨b, off, none⟩ L.length cap (textsV L) rfl ?e1 ?e2 ?e3 ?e4 ?e5 ?e6 ?_)
  case e1 => rw [hml, Nat.mul_one]
  case e2 =>
   intro j u hj
   have hj2 := (List.getElem?_eq_some_iff.1 hj).1
   rw [Addr.add_lit]
   refine Lib.cell?_alloc_some _ ?_
   rw [A.out j hj2]
   rw [List.getElem?_eq_getElem hj2] at hj
   exact hj
  case e3 => intro u hu; obtain ⟨x, _, rfl⟩ := List.mem_map.1 hu; rfl
  case e4 => unfold maxLen; omega
  case e5 => omega
  case e6 => simp
  intro v' w1 hown hgrow hnil
  go_wp2
  go_ret
  have hbl : Below w.heap.size w w1 := ((Below.refl _ w).alloc (Nat.le_refl _) _).grown hgrow (by simp) (by intro k hk; simp [Value.ownBlock] at hk; omega)
  exact ⟨v', rfl, hbl, by rw [hml]; simpa using hown⟩
end Go.Proofs.YtidplkfhodpdhaaGreatDoor.tab
