/- Contract of decimal.wordsOf. -/
import Derived.Test.YthecgifgjagmaaaGreatDoorDecDigits
namespace Go.Proofs.YthecgifgjagmaaaGreatDoor.dec
open Go.ChangeShapes Go.WideShapes Go.ChangeAt Go.RowKit kit
set_option linter.unusedVariables false
theorem parseM_ok (M acc : Nat) (l : List UInt8) (hd : allD l = true) (hb : (acc + 1) * 10 ^ l.length ≤ 1000000000) (hM : 1000000000 ≤ M) : Lib.parseUintM M acc l = .ok (acc * 10 ^ l.length + val l) := by
  induction l generalizing acc with
  | nil => simp [Lib.parseUintM, val]
  | cons c l ih =>
    rw [allD_cons, Bool.and_eq_true] at hd
    have hc := hd.1
    unfold isD at hc
    simp only [decide_eq_true_eq] at hc
    have hv : dv c = c.toNat - 48 := rfl
    have hp : 1 ≤ 10 ^ l.length := Nat.pow_pos (by decide)
    rw [List.length_cons, Nat.pow_succ] at hb
    have hb2 : (acc + 1) * 10 * 10 ^ l.length ≤ 1000000000 := by rw [Nat.mul_assoc, Nat.mul_comm 10]; exact hb
    have h9 : dv c ≤ 9 := by omega
    have hb3 : (acc * 10 + dv c + 1) * 10 ^ l.length ≤ 1000000000 := Nat.le_trans (Nat.mul_le_mul_right _ (by omega)) hb2
    have hb4 : acc * 10 + dv c + 1 ≤ 1000000000 := Nat.le_trans (Nat.le_mul_of_pos_right _ hp) hb3
    rw [Lib.parseUintM, if_pos hc, if_neg (by omega), if_neg (by omega), ← hv, ih _ hd.2 hb3, val_cons, List.length_cons, Nat.pow_succ]
    congr 1
    rw [Nat.add_mul, Nat.mul_assoc, Nat.mul_comm 10, Nat.add_assoc]
theorem parse_ok (l : List UInt8) (hd : allD l = true) (h0 : l ≠ []) (h9 : l.length ≤ 9) : Lib.parseUintB 64 l = .ok (val l) := by
  unfold Lib.parseUintB
  rw [if_neg h0, parseM_ok _ 0 l hd (by
    have : 10 ^ l.length ≤ 10 ^ 9 := Nat.pow_le_pow_right (by decide) h9
    omega) (by decide), Nat.zero_mul, Nat.zero_add]
/-- The words of a row of digits, the lowest i of them. -/
def wdTo (N i : Nat) : Nat → Nat := fun j => if j < i then wd N j else 0
theorem wdTo_upd (N i : Nat) : upd (wdTo N i) i (wd N i) = wdTo N (i + 1) := by
  funext j
  unfold upd wdTo
  by_cases h : j = i
  · subst h; rw [if_pos rfl, if_pos (by omega)]
  · rw [if_neg h]
    by_cases h2 : j < i
    · rw [if_pos h2, if_pos (by omega)]
    · rw [if_neg h2, if_neg (by omega)]
theorem wdTo_all (N i : Nat) (h : N < B9 ^ i) : wdTo N i = wd N := by
  funext j
  unfold wdTo
  by_cases hj : j < i
  · rw [if_pos hj]
  · rw [if_neg hj]
    unfold wd
    rw [Nat.div_eq_of_lt (Nat.lt_of_lt_of_le h (Nat.pow_le_pow_right B9_pos (by omega)))]; rfl
/-- The i-th chunk from behind is word i. -/
theorem chunk (l : List UInt8) (hd : allD l = true) (i : Nat) (h : 9 * i < l.length) : val ((l.take (l.length - 9 * i)).drop (l.length - 9 * i - 9)) = wd (val l) i := by
  have e1 : val l / B9 ^ i = val (l.take (l.length - 9 * i)) := by
    have h1 : val l = val (l.take (l.length - 9 * i)) * 10 ^ (9 * i) + val (l.drop (l.length - 9 * i)) := by
      conv => lhs; rw [← List.take_append_drop (l.length - 9 * i) l]
      rw [val_append, List.length_drop]
      congr 3
      omega
    have h2 : val (l.drop (l.length - 9 * i)) < 10 ^ (9 * i) := by
      have := val_lt (allD_drop (l.length - 9 * i) hd)
      rwa [List.length_drop, show l.length - (l.length - 9 * i) = 9 * i by omega] at this
    rw [pow9, h1, Nat.add_comm, Nat.add_mul_div_right _ _ (Nat.pow_pos (by decide)), Nat.div_eq_of_lt h2, Nat.zero_add]
  unfold wd
  rw [e1]
  have hd2 := allD_take (l.length - 9 * i) hd
  have hl2 : (l.take (l.length - 9 * i)).length = l.length - 9 * i := by rw [List.length_take]; omega
  generalize l.take (l.length - 9 * i) = t at *
  rw [← hl2]
  generalize ht : t.length = n at *
  have h1 : val t = val (t.take (n - 9)) * 10 ^ (n - (n - 9)) + val (t.drop (n - 9)) := by
    conv => lhs; rw [← List.take_append_drop (n - 9) t]
    rw [val_append, List.length_drop, ht]
  have h2 : val (t.drop (n - 9)) < 10 ^ (n - (n - 9)) := by
    have := val_lt (allD_drop (n - 9) hd2)
    rwa [List.length_drop, ht] at this
  by_cases h9 : n ≤ 9
  · have h3 : n - 9 = 0 := by omega
    rw [h3] at h1 h2 ⊢
    rw [List.drop_zero] at h2 ⊢
    rw [Nat.mod_eq_of_lt]
    refine Nat.lt_of_lt_of_le h2 ?_
    exact Nat.pow_le_pow_right (n := 10) (by decide) (show n - 0 ≤ 9 by omega)
  · rw [show n - (n - 9) = 9 by omega] at h1 h2
    rw [h1, Nat.add_comm, show (10 : Nat) ^ 9 = B9 from rfl, Nat.add_mul_mod_self_right]
    exact (Nat.mod_eq_of_lt h2).symm
def WoW (w : World) (N i : Nat) (W : World) : Prop := Below w.heap.size w W ∧ Blk W w.heap.size (wv fun _ => 0) 90 ∧ Blk W (w.heap.size + 1) (wv (wdTo N i)) 90
theorem WoW.below {w W W' : World} {N i : Nat} (h : WoW w N i W) (hb : Below W.heap.size W W') : WoW w N i W' :=
  ⟨h.1.trans (hb.mono h.1.size), (hb.block _ h.2.1.lt).trans h.2.1, (hb.block _ h.2.2.lt).trans h.2.2⟩
theorem WoW.put {w W : World} {N i : Nat} (h : WoW w N i W) (hi : i < 16) : WoW w N (i + 1) (W.setCell ⟨w.heap.size + 1, i, none⟩ (.int .u64 (wd N i : Nat))) := by
  refine ⟨h.1.setCell (by simp) _, h.2.1.set_other _ (by simp) _, ?_⟩
  have := h.2.2.set i (.int .u64 (wd N i : Nat))
  rwa [wv_upd _ _ _ hi, wdTo_upd] at this
set_option maxHeartbeats 2000000 in
set_option maxRecDepth 100000 in
theorem wordsOf_any (s : ByteArray) (w : World) (hd : allD s.data.toList = true) (hs : s.size ≤ 144) :
    Calls Tryz.prog 151 #[.string s] w fun e w' => e = .returned (.agg (wv (wd (val s.data.toList)))) ∧ Below w.heap.size w w' := by
  have hlen : s.data.toList.length = s.size := rfl
  replace hlen := Lib.hid hlen
  replace hd := Lib.hid hd
  go_enter Tryz.func151, Tryz.ntmps151
  go_wp2
  have hz := wv_zero
  rw [← hz]; clear hz
  obtain ⟨W, hW⟩ : ∃ W, (w.alloc (.cells (wv fun _ => 0) 90)).alloc (.cells (wv fun _ => 0) 90) = W := ⟨_, rfl⟩
  have dw : WoW w (val s.data.toList) 0 W := by
    rw [← hW]
    refine ⟨((Below.refl _ _).alloc (Nat.le_refl _) _).alloc (by simp) _, (Blk.new _ _ _).alloc _, ?_⟩
    have := Blk.new (w.alloc (.cells (wv fun _ => 0) 90)) (wv fun _ => 0) 90
    rwa [World.size_alloc] at this
  rw [hW]
  clear hW
  go_loopw [0, 4] (fun vs vi wr => ∃ (i : Nat) (t : ByteArray), vs = .string t ∧ vi = .int .i64 i ∧ Hid (t.data.toList = s.data.toList.take (s.size - 9 * i)) ∧ i ≤ 16 ∧ t.size = s.size - 9 * i ∧ WoW w (val s.data.toList) i wr) (fun _ vi _ => 17 - (intOf vi).toNat)
  case atStart => exact ⟨0, s, rfl, rfl, by show _ = _; rw [List.take_of_length_le]; rw [hlen.out]; omega, by omega, by omega, dw⟩
  case round =>
    clear dw
    obtain ⟨i, t, rfl, rfl, ht, hi, hts, dw⟩ := hrel
    by_cases h0 : t.size = 0
    · have hall : wdTo (val s.data.toList) i = wd (val s.data.toList) := by
        refine wdTo_all _ _ ?_
        rw [pow9]
        exact Nat.lt_of_lt_of_le (val_lt hd.out) (Nat.pow_le_pow_right (by decide) (by rw [hlen.out]; omega))
      obtain ⟨d1, d2, d3⟩ := dw
      rw [hall] at d3
      replace d1 := Lib.hid d1
      replace d2 := Lib.hid d2
      replace d3 := Lib.hid d3
      have h0i : ¬ ((0 : Int) < (t.size : Int)) := by omega
      clear hts hall h0
      go_wp2_with (first
        | (with_reducible refine wpList_load_row rfl 90 _ rfl (w.heap.size + 1) rfl 90 _ (0, 0) _ d3.out.eq Tryz.underlying90 rfl (by rw [wv_size]; exact Tryz.infoW) ?_)
        | (with_reducible refine wpList_store_row rfl 90 _ _ rfl w.heap.size _ rfl rfl 90 _ d2.out.eq (by rw [wv_size]; exact Tryz.infoW) (by rw [wv_size, wv_size]) (wv_one _) ?_))
      exact bodyPost_ret (v := .agg (wv (wd (val s.data.toList)))) (results_cell_row rfl _ _ w.heap.size 90 _ (0, 0) _ rfl d2.out.setRow.eq Tryz.underlying90 rfl (by rw [wv_size]; exact Tryz.infoW)) rfl
        ⟨rfl, ((Keep.ofBelow d1.out).setRow (by omega) _).below⟩
    · have hi16 : i < 16 := by omega
      have hck := chunk s.data.toList hd.out i (by rw [hlen.out]; omega)
      rw [hlen.out, ← ht.out] at hck
      have hdt : allD t.data.toList = true := by rw [ht.out]; exact allD_take _ hd.out
      have h0i : (0 : Int) < (t.size : Int) := by omega
      replace hts := Lib.hid hts
      replace dw := Lib.hid dw
      replace hck := Lib.hid hck
      replace hdt := Lib.hid hdt
      have h144 : (t.size : Int) ≤ 144 := by have := hts.out; omega
      have hmx : max ((t.size : Int) - 9) 0 = ((t.size - 9 : Nat) : Int) := by omega
      have hmn : ((t.size - 9 : Nat) : Int) ≤ (t.size : Int) := by omega
      have hpd : Lib.parseUintB 64 (t.extract (t.size - 9) t.size).data.toList = .ok (wd (val s.data.toList) i) := by
        have hx : (t.extract (t.size - 9) t.size).data.toList = t.data.toList.drop (t.size - 9) := by
          rw [Lib.extract_data, List.take_of_length_le]
          rw [List.length_drop]; exact Nat.le_refl _
        have htl : t.data.toList.length = t.size := rfl
        rw [hx, parse_ok _ (allD_drop _ hdt.out) (fun e => by
          have := congrArg List.length e
          rw [List.length_drop, htl] at this; simp at this; omega) (by rw [List.length_drop, htl]; omega), hts.out, hck.out]
      have htk : (t.extract 0 (t.size - 9)).data.toList = s.data.toList.take (s.size - 9 * (i + 1)) := by
        rw [Lib.extract_data, List.drop_zero, Nat.sub_zero, hts.out, ht.out, List.take_take]
        congr 1; omega
      have hfz := dw.out.2.2.free i
      have hbi : dw.out.2.2.lt = dw.out.2.2.lt := rfl
      replace hpd := Lib.hid hpd
      replace htk := Lib.hid htk
      clear hbi h0 ht
      go_wp2_with fail
      refine (Tryz.strconv_ParseUint_10_at64_ok _ (by simp; omega) _ hpd.out _).mono ?_
      rintro e w1 ⟨rfl, hw1⟩
      have hb1 : Below wr.heap.size wr w1 := by
        rcases hw1 with h | h
        · rw [h]; exact Below.refl _ _
        · rw [h]; exact Lib.bytesWorld_below _ _ _
      clear hw1
      have dw1 := dw.out.below hb1
      have hc1 : w1.cell? ⟨w.heap.size + 1, i, none⟩ = some (.int .u64 (wdTo (val s.data.toList) i i : Nat)) := dw1.2.2.cell _ (wv_get _ i hi16)
      have hf1 := dw1.2.2.free i
      replace dw1 := Lib.hid dw1
      clear hfz hb1
      go_wp2
      go_roundw
      case rel =>
        refine ⟨i + 1, t.extract 0 (t.size - 9), rfl, by go_num, htk, by omega, ?_, dw1.out.put hi16⟩
        have := hts.out
        simp; omega
      case measure => simp [intOf]; omega
end Go.Proofs.YthecgifgjagmaaaGreatDoor.dec
