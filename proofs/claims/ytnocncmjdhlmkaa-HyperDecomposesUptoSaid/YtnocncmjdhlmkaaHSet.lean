/- Contracts of the sets' methods: has, with, without, count, list. -/
import Derived.Test.YtnocncmjdhlmkaaHMem
import Derived.Test.YtnocncmjdhlmkaaHBits
import Derived.Deep.DeepCutAuto
import Derived.BigQuiet
import Derived.Deep.RegionHeld
namespace Go.Proofs.Ytnocncmjdhlmkaa.hyp
open Go.ChangeShapes Go.WideShapes Go.ChangeAt Go.RowKit kit
set_option linter.unusedVariables false
set_option linter.unusedSimpArgs false
theorem has_eq (s k : Nat) (hs : s < 65536) (hk : k < 16) : (Go.bits BinOp.and IntKind.u16 ((s : Int) / 2 ^ k) 1 == 1) = s.testBit k := by
  have h1 : ((s : Int) / 2 ^ k) = ((s / 2 ^ k : Nat) : Int) := by simp
  have h2 : s / 2 ^ k < 65536 := Nat.lt_of_le_of_lt (Nat.div_le_self _ _) hs
  have h3 := u16_and_nat (s / 2 ^ k) 1 h2 (by decide)
  rw [nat_mask1, shift_bit] at h3
  rw [h1, show (1 : Int) = ((1 : Nat) : Int) from rfl, h3]
  cases s.testBit k <;> rfl
theorem bit_shl (k : Nat) (hk : k < 16) : IntKind.u16.wrap (2 ^ k) = ((bit k : Nat) : Int) := by
  have h := bit_lt hk
  have e : ((2 : Int) ^ k) = ((bit k : Nat) : Int) := by unfold bit; simp
  rw [IntKind.wrap_u16, e]
  omega
set_option maxRecDepth 100000 in
theorem has_v (s k : Nat) (w : World) (hs : s < 65536) (hk : k < 16) : Calls Try.prog 32 #[.int .u16 s, .int .i64 k] w fun e w' => e = .returned (.bool (s.testBit k)) ∧ w' = w := by
  go_enter Try.func32, Try.ntmps32
  go_wp2
  go_ret
  exact ⟨ret_bool (has_eq s k hs hk), rfl⟩
set_option maxRecDepth 100000 in
theorem has_e (s k : Nat) (w : World) (hs : s < 65536) (hk : k < 16) : Calls Try.prog 59 #[.int .u16 s, .int .i64 k] w fun e w' => e = .returned (.bool (s.testBit k)) ∧ w' = w := by
  go_enter Try.func59, Try.ntmps59
  go_wp2
  go_ret
  exact ⟨ret_bool (has_eq s k hs hk), rfl⟩
set_option maxRecDepth 100000 in
theorem with_v (s k : Nat) (w : World) (hs : s < 65536) (hk : k < 16) : Calls Try.prog 51 #[.int .u16 s, .int .i64 k] w fun e w' => e = .returned (.int .u16 ((s ||| bit k : Nat) : Int)) ∧ w' = w := by
  go_enter Try.func51, Try.ntmps51
  go_wp2
  go_ret
  exact ⟨ret_int (by rw [bit_shl k hk]; exact u16_or_nat _ _ hs (bit_lt hk)), rfl⟩
set_option maxRecDepth 100000 in
theorem without_v (s k : Nat) (w : World) (hs : s < 65536) (hk : k < 16) : Calls Try.prog 33 #[.int .u16 s, .int .i64 k] w fun e w' => e = .returned (.int .u16 ((minus s (bit k) : Nat) : Int)) ∧ w' = w := by
  go_enter Try.func33, Try.ntmps33
  go_wp2
  go_ret
  exact ⟨ret_int (by rw [bit_shl k hk]; exact u16_andNot_nat _ _ hs (bit_lt hk)), rfl⟩
/-- An index of a table of the bits' counts. -/
theorem index_tab {t : TypeId} (ht : Try.prog.underlying t = some .string) (T : ByteArray) (hT : T.size = 256) (hp : (List.range 256).all (fun i => (T.data.toList.getD i 0).toNat == pop i) = true) (s : Nat) (hs : s < 256) (w : World) :
    (Instr.index t (.string T) (.int .u16 s)).run Try.prog w = .ok (.int .u8 ((pop s : Nat) : Int)) w := by
  rw [run_index_string w t T .u16 s ht, dif_pos ⟨by omega, by omega⟩]
  have h := List.all_eq_true.1 hp s (List.mem_range.2 hs)
  have hsz : s < T.data.size := by show s < T.size; omega
  have e : T[(s : Int).toNat]'(by rw [Int.toNat_natCast]; exact hsz) = T.data.toList.getD s 0 := by
    rw [List.getD_eq_getElem?_getD, List.getElem?_eq_getElem (by simpa using hsz)]
    rfl
  rw [e, show (T.data.toList.getD s 0).toNat = pop s by simpa using h]
set_option maxRecDepth 100000 in
theorem ones_any (s : Nat) (w : World) (hs : s < 256) : Calls Try.prog 58 #[.int .u16 s] w fun e w' => e = .returned (.int .i64 ((pop s : Nat) : Int)) ∧ w' = w.drew := by
  have hsh : (s : Int) / 256 = 0 := by omega
  have hsh2 : (s : Int) / 2 ^ 8 = 0 := by omega
  have hand : Go.bits .and .u16 (s : Int) 255 = (s : Int) := by
    have := u16_and_nat s 255 (by omega) (by decide)
    rw [nat_mask8] at this
    rw [show (255 : Int) = ((255 : Nat) : Int) from rfl, this]
    omega
  have hp16 : pop s ≤ 16 := by
    have := pop_le (l := s) (m := 16) (by omega)
    exact this
  obtain ⟨q, hq⟩ : ∃ q, pop s = q := ⟨_, rfl⟩
  have hidx := fun (T : ByteArray) (hT : T.size = 256) hp => index_tab Try.underlying9 T hT hp s hs
  rw [hq] at hidx hp16 ⊢
  clear hq
  have hw8 : IntKind.u8.wrap (0 + (q : Int)) = q := by rw [IntKind.wrap_u8']; omega
  have hw8b : IntKind.u8.wrap (q : Int) = q := by rw [IntKind.wrap_u8']; omega
  go_enter Try.func58, Try.ntmps58
  go_wp2_with fail
  refine wp_region_held_drew (S := fun V => V = w.drew) (by kernel_rfl) rfl (fun hS => ?_)
  refine wpAnyH_take (i := 0) (v := ?_) rfl (by kernel_rfl) (by kernel_rfl) (by kernel_rfl) (fun _ _ _ h => h) (.inl ⟨by kernel_rfl, fun w' hS => ?_⟩) hS ?_
  rotate_left
  ·
    skip
    go_simp
    try with_reducible rfl
  simp only [List.getElem_toArray, List.getElem_cons_succ, List.getElem_cons_zero, Act.put, List.setIfInBounds_toArray, List.set_cons_zero, List.set_cons_succ]
  refine wpAnyH_take (i := 1) (v := ?_) rfl (by kernel_rfl) (by kernel_rfl) (by kernel_rfl) (fun _ _ _ h => h) (.inl ⟨by kernel_rfl, fun w' hS => ?_⟩) hS ?_
  rotate_left
  ·
    skip
    go_simp
    try with_reducible rfl
  simp only [List.getElem_toArray, List.getElem_cons_succ, List.getElem_cons_zero, Act.put, List.setIfInBounds_toArray, List.set_cons_zero, List.set_cons_succ]
  refine wpAnyH_take (i := 2) (v := .int .u8 0) rfl (by kernel_rfl) (by kernel_rfl) (by kernel_rfl) (fun _ _ _ h => h) (.inl ⟨by kernel_rfl, fun w' hS => by kernel_rfl⟩) hS ?_
  simp only [List.getElem_toArray, List.getElem_cons_succ, List.getElem_cons_zero, Act.put, List.setIfInBounds_toArray, List.set_cons_zero, List.set_cons_succ]
  refine wpAnyH_take (i := 3) (v := ?_) rfl (by kernel_rfl) (by kernel_rfl) (by kernel_rfl) (fun _ _ _ h => h) (.inl ⟨by kernel_rfl, fun w' hS => ?_⟩) hS ?_
  rotate_left
  ·
    skip
    go_simp
    try with_reducible rfl
  simp only [List.getElem_toArray, List.getElem_cons_succ, List.getElem_cons_zero, Act.put, List.setIfInBounds_toArray, List.set_cons_zero, List.set_cons_succ]
  refine wpAnyH_take (i := 4) (v := ?_) rfl (by kernel_rfl) (by kernel_rfl) (by kernel_rfl) (fun _ _ _ h => h) (.inl ⟨by kernel_rfl, fun w' hS => ?_⟩) hS ?_
  rotate_left
  ·
    skip
    go_simp
    try with_reducible rfl
  simp only [List.getElem_toArray, List.getElem_cons_succ, List.getElem_cons_zero, Act.put, List.setIfInBounds_toArray, List.set_cons_zero, List.set_cons_succ]
  refine wpAnyH_take (i := 5) (v := .int .u8 q) rfl (by kernel_rfl) (by kernel_rfl) (by kernel_rfl) (fun _ _ _ h => h) (.inl ⟨by kernel_rfl, fun w' hS => by
    simp only [List.getElem_toArray, List.getElem_cons_succ, List.getElem_cons_zero, execOp, Act.eval]
    rw [Sem.run_bind]
    refine (congrArg (fun r => Result.andThen r _) (hidx _ (by kernel_rfl) (by kernel_rfl) w')).trans ?_
    rfl⟩) hS ?_
  simp only [List.getElem_toArray, List.getElem_cons_succ, List.getElem_cons_zero, Act.put, List.setIfInBounds_toArray, List.set_cons_zero, List.set_cons_succ]
  refine wpAnyH_take (i := 6) (v := ?_) rfl (by kernel_rfl) (by kernel_rfl) (by kernel_rfl) (fun _ _ _ h => h) (.inl ⟨by kernel_rfl, fun w' hS => ?_⟩) hS ?_
  rotate_left
  ·
    skip
    go_simp
    try with_reducible rfl
  simp only [List.getElem_toArray, List.getElem_cons_succ, List.getElem_cons_zero, Act.put, List.setIfInBounds_toArray, List.set_cons_zero, List.set_cons_succ]
  refine wpAnyH_take (i := 7) (v := ?_) rfl (by kernel_rfl) (by kernel_rfl) (by kernel_rfl) (fun _ _ _ h => h) (.inl ⟨by kernel_rfl, fun w' hS => ?_⟩) hS ?_
  rotate_left
  ·
    skip
    go_simp
    try with_reducible rfl
  simp only [List.getElem_toArray, List.getElem_cons_succ, List.getElem_cons_zero, Act.put, List.setIfInBounds_toArray, List.set_cons_zero, List.set_cons_succ]
  refine wpAnyH_take (i := 8) (v := ?_) rfl (by kernel_rfl) (by kernel_rfl) (by kernel_rfl) (fun _ _ _ h => h) (.inl ⟨by kernel_rfl, fun w' hS => ?_⟩) hS ?_
  rotate_left
  ·
    skip
    go_simp
    try with_reducible rfl
  simp only [List.getElem_toArray, List.getElem_cons_succ, List.getElem_cons_zero, Act.put, List.setIfInBounds_toArray, List.set_cons_zero, List.set_cons_succ]
  refine wpAnyH_done (by kernel_rfl) ?_ _
  go_wp2
  go_ret
  exact ⟨ret_int (IntWalk.i64_in _ (by omega)), rfl⟩
end Go.Proofs.Ytnocncmjdhlmkaa.hyp
