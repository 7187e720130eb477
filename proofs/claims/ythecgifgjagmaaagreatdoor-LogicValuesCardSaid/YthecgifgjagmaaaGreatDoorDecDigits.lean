/- Contract of decimal's words: digits. -/
import Derived.Test.YthecgifgjagmaaaGreatDoorDecBuilder
import Derived.Test.YthecgifgjagmaaaGreatDoorDecRead2
import Derived.Test.YthecgifgjagmaaaGreatDoorDecVal
namespace Go.Proofs.YthecgifgjagmaaaGreatDoor.dec
open Go.ChangeShapes Go.WideShapes Go.ChangeAt Go.RowKit kit
set_option linter.unusedVariables false
theorem grown_of_below {w w' : World} (h : Below w.heap.size w w') : w.grownBy w' none := ⟨h.os, h.tape, h.output, h.size, fun k hk _ => h.block k hk⟩
theorem builderAt_below {T e : TypeId} {B b : Nat} {p : Value} {bs : List Value} {w w' : World} (h : Lib.BuilderAt T e B b p bs w) (hb : Below w.heap.size w w') : Lib.BuilderAt T e B b p bs w' := by
  have hlt := h.lt
  obtain ⟨h1, v, h2, h3, h4⟩ := h
  exact ⟨h1, v, (hb.block b hlt).trans h2, h3.kept (grown_of_below hb) (by cases v.ownBlock <;> simp), h4⟩
theorem isBuilder_below {T e : TypeId} {B b : Nat} {bs : List Value} {w w' : World} (h : Lib.IsBuilder T e B b bs w) (hb : Below w.heap.size w w') : Lib.IsBuilder T e B b bs w' := by
  rcases h with h | h
  · exact .inl (builderAt_below h hb)
  · exact .inr (builderAt_below h hb)
/-- Nine digits of a word. -/
theorem nine (x : Nat) (h : x < 1000000000) : (Lib.decDigits x).length ≤ 9 ∧ List.replicate (9 - (Lib.decDigits x).length) 48 ++ Lib.decDigits x = pad 9 x := by
  have hl : (Lib.decDigits x).length ≤ 9 := by
    have h1 := (digs_lt x 9).2 h
    unfold digs at h1
    split at h1
    · rename_i h0; subst h0; rw [Lib.decDigits]; simp
    · exact h1
  refine ⟨hl, ?_⟩
  have hd : allD (Lib.decDigits x) = true := by
    have := digs_allD x
    unfold digs at this
    split at this
    · rename_i h0; subst h0; rw [Lib.decDigits]; decide
    · exact this
  have hv : val (Lib.decDigits x) = x := by
    have := digs_val x
    unfold digs at this
    split at this
    · rename_i h0; subst h0; rw [Lib.decDigits]; rfl
    · exact this
  have h2 := pad_of_val (l := List.replicate (9 - (Lib.decDigits x).length) 48 ++ Lib.decDigits x) (by rw [allD_append, allD_replicate, hd]; rfl)
  rw [List.length_append, List.length_replicate, val_append, val_replicate, hv, Nat.zero_mul, Nat.zero_add, show 9 - (Lib.decDigits x).length + (Lib.decDigits x).length = 9 by omega] at h2
  exact h2.symm
theorem pow9 (k : Nat) : B9 ^ k = 10 ^ (9 * k) := by rw [Nat.pow_mul]; rfl
/-- The digits written when the words from k on are. -/
def outD (N k : Nat) : List UInt8 := pad (9 * (16 - k)) (N / B9 ^ k)
theorem outD_step (N k : Nat) (h : k < 16) : outD N (k + 1) ++ pad 9 (wd N k) = outD N k := by
  unfold outD
  rw [show 9 * (16 - k) = 9 * (16 - (k + 1)) + 9 by omega, pad_append]
  congr 1
  · rw [Nat.div_div_eq_div_mul, Nat.pow_succ]; rfl
  · exact pad_mod 9 (N / B9 ^ k)
theorem outD_16 (N : Nat) : outD N 16 = [] := rfl
theorem outD_len (N k : Nat) : (outD N k).length ≤ 144 := by unfold outD; rw [pad_length]; omega

def DW (w : World) (N k : Nat) (W : World) : Prop := Below w.heap.size w W ∧ w.heap.size + 1 < W.heap.size ∧ Blk W w.heap.size (wv (wd N)) 90 ∧ Lib.IsBuilder 143 5 (w.heap.size + 1) (w.heap.size + 1) (Lib.byteCells (outD N k)) W
set_option maxHeartbeats 2000000 in
set_option maxRecDepth 100000 in
theorem digits_any (N : Nat) (w : World) (hE : Env w) (hN : N < B9 ^ 16) :
    Calls Tryz.prog 145 #[.agg (wv (wd N))] w fun e w' => e = .returned (.string ⟨(digs N).toArray⟩) ∧ Below w.heap.size w w' := by
  have hfin : trimL (outD N 0) = digs N := by
    unfold outD
    rw [trimL_eq (pad_allD _ _), pad_val, Nat.pow_zero, Nat.div_one, Nat.mod_eq_of_lt]
    have := pow9 16
    rw [← this]; exact hN
  replace hfin := Lib.hid hfin
  replace hN := Lib.hid hN
  replace hE := Lib.hid hE
  go_enter Tryz.func145, Tryz.ntmps145
  go_wp2
  obtain ⟨W, hW⟩ : ∃ W, (w.alloc (.cells (wv (wd N)) 90)).alloc (.cells #[.pointer none, .slice none 0 0] 143) = W := ⟨_, rfl⟩
  have dw : DW w N 16 W := by
    rw [← hW]
    refine ⟨((Below.refl _ _).alloc (Nat.le_refl _) _).alloc (by simp) _, by simp, (Blk.new _ _ _).alloc _, .inl ⟨Nat.le_refl _, .slice none 0 0, ?_, World.ownsRow_nil _ _ _ _, by simp [Value.ownBlock]⟩⟩
    have := heap_alloc_new (w.alloc (.cells (wv (wd N)) 90)) (.cells #[.pointer none, .slice none 0 0] 143)
    rwa [World.size_alloc] at this
  rw [hW]
  clear hW
  go_loopw [4] (fun vi wr => ∃ k : Nat, k ≤ 16 ∧ vi = .int .i64 ((k : Int) - 1) ∧ DW w N k wr) (fun vi _ => ((intOf vi) + 1).toNat)
  case atStart => exact ⟨16, by omega, rfl, dw⟩
  case round =>
    clear dw
    obtain ⟨k1, hk, rfl, dw⟩ := hrel
    by_cases h0 : k1 = 0
    · subst h0
      obtain ⟨d1, d2, d3, d4⟩ := dw
      replace d1 := Lib.hid d1
      replace d4 := Lib.hid d4
      have s0 : w.heap.size + 1 ≤ wr.heap.size := by omega
      clear d2 d3
      go_wp2_with fail
      refine (Tryz.Builder_String_any (w.heap.size + 1) (w.heap.size + 1) (outD N 0) _ d4.out s0).mono ?_
      rintro e w1 ⟨rfl, hb1⟩
      go_wp2_with fail
      refine (Tryz.strings_TrimLeft_one _ 48 (by decide) _).mono ?_
      rintro e w2 ⟨rfl, rfl⟩
      go_wp2
      go_ret
      exact ⟨ret_val (by rw [← hfin.out]; rfl), d1.out.trans (hb1.mono (by omega))⟩
    · obtain ⟨k, rfl⟩ : ∃ k, k1 = k + 1 := ⟨k1 - 1, by omega⟩
      obtain ⟨d1, d2, d3, d4⟩ := dw
      have hc1 : wr.cell? ⟨w.heap.size, k, none⟩ = some (.int .u64 (wd N k : Nat)) := d3.cell _ (wv_get _ k (by omega))
      obtain ⟨n1, n2⟩ := nine (wd N k) (wd_lt N k)
      have hstep := outD_step N k (by omega)
      have hx := wd_lt N k
      rw [show (((k + 1 : Nat) : Int) - 1) = (k : Int) by omega]
      have htab := (hE.out.below d1).pow
      replace htab := Lib.hid htab
      replace d1 := Lib.hid d1
      replace d2 := Lib.hid d2
      replace d3 := Lib.hid d3
      replace d4 := Lib.hid d4
      replace n2 := Lib.hid n2
      replace hstep := Lib.hid hstep
      generalize wd N k = x at *
      go_wp2_with fail
      refine (formatUint_any x (by omega) _ htab.out).mono ?_
      rintro e w1 ⟨rfl, hb1⟩
      replace hb1 := Lib.hid hb1
      have hsz : (⟨(Lib.decDigits x).toArray⟩ : ByteArray).size = (Lib.decDigits x).length := rfl
      have n1i : ((Lib.decDigits x).length : Int) ≤ 9 := by omega
      go_wp2_with fail
      rw [show ((9 : Int) - ((Lib.decDigits x).length : Int)) = ((9 - (Lib.decDigits x).length : Nat) : Int) by omega]
      refine (Tryz.strings_Repeat ⟨#[48]⟩ (9 - (Lib.decDigits x).length) w1 (by omega) (by have : (ByteArray.mk #[48]).size = 1 := rfl; rw [this]; omega)).mono ?_
      rintro e w2 ⟨rfl, hb2⟩
      replace hb2 := Lib.hid hb2
      have q2 : Below wr.heap.size wr w2 := hb1.out.trans (hb2.out.mono hb1.out.size)
      have i2 := isBuilder_below d4.out q2
      have hol := outD_len N (k + 1)
      have hrl : (⟨(Lib.repeatL (ByteArray.mk #[48]).data.toList (9 - (Lib.decDigits x).length)).toArray⟩ : ByteArray).size ≤ 9 := by
        show (Lib.repeatL _ _).toArray.size ≤ 9
        simp [repeatL_48]
      have s2 : w.heap.size + 1 ≤ w2.heap.size := by have := d2.out; have := q2.size; omega
      replace q2 := Lib.hid q2
      replace i2 := Lib.hid i2
      go_wp2_with fail
      refine (writeString_any (w.heap.size + 1) (w.heap.size + 1) _ _ _ i2.out (by rw [Lib.byteCells_length]; omega) s2).mono ?_
      rintro e w3 ⟨rfl, i3, hb3⟩
      replace i3 := Lib.hid i3
      replace hb3 := Lib.hid hb3
      have s3 : w.heap.size + 1 ≤ w3.heap.size := by have := hb3.out.size; omega
      go_wp2_with fail
      refine (writeString_any (w.heap.size + 1) (w.heap.size + 1) _ _ _ (.inr i3.out) (by rw [List.length_append, Lib.byteCells_length, Lib.strCells_length]; omega) s3).mono ?_
      rintro e w4 ⟨rfl, i4, hb4⟩
      replace i4 := Lib.hid i4
      replace hb4 := Lib.hid hb4
      go_wp2
      go_roundw
      case rel =>
        have q4 : Below (w.heap.size + 1) wr w4 := ((q2.out.mono (by have := d2.out; omega)).trans hb3.out).trans hb4.out
        refine ⟨k, by omega, rfl, d1.out.trans (q4.mono (by omega)), by have := d2.out; have := q4.size; omega, ?_, .inr ?_⟩
        · exact (q4.block _ (by omega)).trans d3.out
        · have := i4.out
          rw [Lib.strCells_eq, Lib.strCells_eq, List.append_assoc, ← Lib.byteCells_append, ← Lib.byteCells_append] at this
          rw [show (⟨(Lib.repeatL (ByteArray.mk #[48]).data.toList (9 - (Lib.decDigits x).length)).toArray⟩ : ByteArray).data.toList ++ (⟨(Lib.decDigits x).toArray⟩ : ByteArray).data.toList = pad 9 x by rw [← n2.out, ← repeatL_48], hstep.out] at this
          exact this
      case measure => simp [intOf]
end Go.Proofs.YthecgifgjagmaaaGreatDoor.dec
