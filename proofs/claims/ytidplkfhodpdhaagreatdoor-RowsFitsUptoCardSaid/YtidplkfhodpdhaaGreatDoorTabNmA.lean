/- Texts TabClone, TabNames, one behind the other. -/
import Derived.Test.YtidplkfhodpdhaaGreatDoorTabIA
import Derived.Lib.SliceRun
import Derived.Lib.SmallJoins
import Derived.Test.YtidplkfhodpdhaaGreatDoorValChk
namespace Go.Proofs.YtidplkfhodpdhaaGreatDoor.tab
open Go.ChangeShapes Go.WideShapes Go.ChangeAt Go.RowKit kit dec val
open hyp (RowA TextsA CellsStay stay_of_below textsV textsV_length own_row OW)
set_option linter.unusedVariables false
set_option linter.unusedSimpArgs false
theorem infoStr : (Tryz.prog.info? 9).map (fun i => (i.zero, i.size, i.bytes)) = some (some (.string ByteArray.empty), 1, 16) := by kernel_rfl
theorem infoInt : (Tryz.prog.info? 3).map (fun i => (i.zero, i.size, i.bytes)) = some (some (.int .i64 0), 1, 8) := by kernel_rfl
set_option maxRecDepth 100000 in
set_option maxHeartbeats 2000000 in
theorem cloneT_any (w : World) (u : Value) (L : List ByteArray) (hl : L.length ≤ 1048576) (hR : TextsA w w.heap.size u L) :
 Calls Tryz.prog 83 #[u] w fun e w' => ∃ v, e = .returned v ∧ OW 9 w w.heap.size v (textsV L) w' := by
 obtain ⟨i0, hi, hz0, hz1, hz2⟩ := info_parts infoStr
 have q22 : ∀ (w : World) (a : Option Addr) (n c n' c' : Nat), (binOp .eql 22 (.slice a n c) (.slice none n' c')).run Tryz.prog w = .ok (.bool a.isNone) w := fun w a n c n' c' => Lib.run_eql_slice_nil w _ _ a n c n' c' Tryz.underlying22
 obtain ⟨ao, cap, rfl, -⟩ := hR.form
 by_cases h0 : L = []
 ·subst h0
  cases ao with
  | none =>
   clear hR
   go_enter Tryz.func83, Tryz.ntmps83
   go_wp2
   go_ret
   exact ⟨_, rfl, hyp.OW.start _ _ _⟩
  | some a =>
   clear hR
   go_enter Tryz.func83, Tryz.ntmps83
   go_wp2_with (at_builtin; refine wpList_append_own _ rfl _ _ 22 rfl w.heap.size 9 i0 (.string ByteArray.empty) 1 16 Tryz.underlying22 hi hz0 hz1 hz2 rfl (by decide) _ _ _ rfl (World.ownsRow_made w #[] 0 (Nat.le_refl _) (Nat.zero_le _) rfl) a 0 cap [] rfl rfl ?e2 ?e3 ?e4 ?e5 ?e6 ?_)
   case e2 => intro j u hj; simp at hj
   case e3 => intro u hu; cases hu
   case e4 => simp [maxLen]
   case e5 => omega
   case e6 => simp
   intro v' w1 hown hgrow hnil
   go_wp2
   go_ret
   have hbl : Below w.heap.size w w1 := ((Below.refl _ w).alloc (Nat.le_refl _) _).grown hgrow (by simp) (by intro k hk; simp [Value.ownBlock] at hk; omega)
   exact ⟨v', rfl, hbl, by simpa [textsV] using hown⟩
 ·have hpos := List.length_pos_iff.2 h0
  rcases hR.row with ⟨a, c, hv, hnil⟩ | ⟨b, off, c, hv, -, hcap, hb, hc⟩
  ·simp [textsV] at hnil; exact absurd hnil h0
  obtain ⟨rfl, rfl⟩ : ao = some ⟨b, off, none⟩ ∧ cap = c := by
   injection hv with h1 h2 h3
   exact ⟨h1, h3⟩
  have A : Hid (∀ j (h : j < (textsV L).length), w.cell? ⟨b, off + j, none⟩ = some (textsV L)[j]) := hc
  clear hc hv hR
  have hml : (textsV L).length = L.length := textsV_length L
  go_enter Tryz.func83, Tryz.ntmps83
  go_wp2_with (at_builtin; refine wpList_append_own _ rfl _ _ 22 rfl w.heap.size 9 i0 (.string ByteArray.empty) 1 16 Tryz.underlying22 hi hz0 hz1 hz2 rfl (by decide) _ _ _ rfl (World.ownsRow_made w #[] 0 (Nat.le_refl _) (Nat.zero_le _) rfl) ⟨b, off, none⟩ L.length cap (textsV L) rfl ?e1 ?e2 ?e3 ?e4 ?e5 ?e6 ?_)
  case e1 => rw [hml, Nat.mul_one]
  case e2 =>
   intro j u hj
   have hj2 := (List.getElem?_eq_some_iff.1 hj).1
   rw [Addr.add_lit]
   refine Lib.cell?_alloc_some _ ?_
   rw [A.out j hj2]
   rw [List.getElem?_eq_getElem hj2] at hj
   exact hj
  case e3 => intro u hu; obtain ⟨x, _, rfl⟩ := List.mem_map.1 hu; rfl
  case e4 => unfold maxLen; omega
  case e5 => omega
  case e6 => simp
  intro v' w1 hown hgrow hnil
  go_wp2
  go_ret
  have hbl : Below w.heap.size w w1 := ((Below.refl _ w).alloc (Nat.le_refl _) _).grown hgrow (by simp) (by intro k hk; simp [Value.ownBlock] at hk; omega)
  exact ⟨v', rfl, hbl, by rw [hml]; simpa using hown⟩
end Go.Proofs.YtidplkfhodpdhaaGreatDoor.tab
namespace Go.Proofs.YtidplkfhodpdhaaGreatDoor.tab
open Go.ChangeShapes Go.WideShapes Go.ChangeAt Go.RowKit kit dec val
open hyp (RowA TextsA CellsStay stay_of_below textsV textsV_length own_row)
set_option linter.unusedVariables false
set_option linter.unusedSimpArgs false
theorem part_texts {w : World} {B : Nat} {a : Option Addr} {c : Nat} {l : List ByteArray} (h : TextsA w B (.slice a l.length c) l) {m : Nat} (hm : m ≤ l.length) : TextsA w B (.slice a m c) (l.take m) := by
 refine ⟨?_, fun s hs => h.size s (List.mem_of_mem_take hs)⟩
 have hlen : (textsV (l.take m)).length = m := by rw [textsV_length, List.length_take]; omega
 rcases h.row with ⟨ao, cap, hv, hl⟩ | ⟨b, off, cap, hv, h0, hc, hB, hj⟩
 ·have : l = [] := by cases l with | nil => rfl | cons a l => simp [textsV] at hl
  subst this
  obtain rfl : m = 0 := by simpa using hm
  exact .inl ⟨a, c, rfl, rfl⟩
 ·injection hv with h1 h2 h3
  subst h1 h3
  by_cases hm0 : m = 0
  ·subst hm0
   exact .inl ⟨_, c, rfl, by simp [textsV]⟩
  ·rw [textsV_length] at hc
   refine .inr ⟨b, off, c, by rw [hlen], by omega, by omega, hB, fun j h => ?_⟩
   have h5 := hj j (by rw [textsV_length]; omega)
   rw [h5]
   simp [textsV]
set_option maxRecDepth 100000 in
theorem contains_any (w : World) (ao : Option Addr) (cap : Nat) (ns : List ByteArray) (s : ByteArray) (hn : ns.length ≤ 1048576)
 (hc : ∀ j (hj : j < ns.length), ∃ b off, ao = some ⟨b, off, none⟩ ∧ b < w.heap.size ∧ w.cell? ⟨b, off + j, none⟩ = some (.string ns[j])) :
 Calls Tryz.prog 112 #[.slice ao ns.length cap, .string s] w fun e w' => e = .returned (.bool (decide (s ∈ ns))) ∧ w' = w := by
 have hi := index_any w ao cap ns s hn hc
 have hneg := idxI_neg ns s
 generalize idxI ns s = i at *
 replace hi := Lib.hid hi
 clear hc
 go_enter Tryz.func112, Tryz.ntmps112
 go_wp2_with fail
 refine hi.out.mono ?_
 rintro e w1 ⟨rfl, rfl⟩
 cases hm : decide (s ∈ ns) with
 | true =>
  rw [hm] at hneg
  have h0 : (0 : Int) ≤ i := by
   have : ¬ i < 0 := by simpa using hneg
   omega
  replace hm := Lib.hid hm
  clear hneg
  go_wp2
  go_ret
  exact ⟨ret_bool (by first | exact hm.out.symm | (rw [decide_eq_false (show ¬ (0 : Int) ≤ i by omega)]; exact hm.out.symm)), rfl⟩
 | false =>
  rw [hm] at hneg
  have h0 : ¬ (0 : Int) ≤ i := by
   have : i < 0 := by simpa using hneg
   omega
  replace hm := Lib.hid hm
  clear hneg
  go_wp2
  go_ret
  exact ⟨ret_bool (by first | exact hm.out.symm | (rw [decide_eq_false (show ¬ (0 : Int) ≤ i by omega)]; exact hm.out.symm)), rfl⟩
theorem may_name (v : ByteArray) : mayV (.mk 9 false 0 v ⟨#[]⟩ []) = val.nameB v := by
 show chkW (fun l => l.all (chkV 59)) (.mk 9 false 0 v ⟨#[]⟩ []) = _
 unfold chkW
 simp [emp]
 intro _
 rfl
theorem nodup_snoc {l : List ByteArray} (h : l.Nodup) {x : ByteArray} (hx : x ∉ l) : (l ++ [x]).Nodup := by
 rw [List.nodup_append]
 refine ⟨h, by simp, fun a ha b hb => ?_⟩
 have : b = x := by simpa using hb
 rw [this]
 rintro rfl
 exact hx ha
theorem texts_cap {w : World} {B : Nat} {a : Option Addr} {n c : Nat} {l : List ByteArray} (h : TextsA w B (.slice a n c) l) : l.length ≤ c := by
 rcases h.row with ⟨ao, cap, hv, hl⟩ | ⟨b, off, cap, hv, h0, hc, hB, hj⟩
 ·have := congrArg List.length hl
  rw [textsV_length, List.length_nil] at this
  omega
 ·injection hv with h1 h2 h3
  rw [textsV_length] at hc
  omega
theorem texts_cells {w : World} {a : Option Addr} {n c : Nat} {l : List ByteArray} (h : TextsA w w.heap.size (.slice a n c) l) : n = l.length ∧ ∀ j (hj : j < l.length), ∃ b off, a = some ⟨b, off, none⟩ ∧ b < w.heap.size ∧ w.cell? ⟨b, off + j, none⟩ = some (.string l[j]) := by
 obtain ⟨ao, cap, hv, hc⟩ := h.form
 injection hv with h1 h2 h3
 subst h1
 exact ⟨h2, hc⟩
set_option maxRecDepth 100000 in
set_option maxHeartbeats 4000000 in
theorem names_any (w : World) (hE : Env w) (vv : Value) (l : List ByteArray) (h : TextsA w w.heap.size vv l) (hl : l.length ≤ 1048576) :
 Calls Tryz.prog 72 #[vv] w fun e w' => e = .returned (.bool (namesB l)) ∧ Below w.heap.size w w' := by
 obtain ⟨a, c, rfl, hc⟩ := h.form
 have hcap := texts_cap h
 obtain ⟨q, hq⟩ : ∃ q, namesB l = q := ⟨_, rfl⟩
 rw [hq]
 have hq1 : Hid (64 < l.length → q = false) := Lib.hid fun h => by rw [← hq]; unfold namesB; rw [decide_eq_false (by omega)]; rfl
 have hq2 : Hid (∀ j (hj : j < l.length), val.nameB l[j] = false → q = false) := Lib.hid fun j hj h => by
  rw [← hq]
  apply Bool.eq_false_iff.2
  intro h2
  rw [(names_parts h2).2.1 _ (List.getElem_mem hj)] at h
  cases h
 have hq3 : Hid (∀ j (hj : j < l.length), l[j] ∈ l.take j → q = false) := Lib.hid fun j hj h => by
  rw [← hq]
  apply Bool.eq_false_iff.2
  intro h2
  have h3 := (names_parts h2).2.2
  obtain ⟨i, hi, he⟩ := List.getElem_of_mem h
  rw [List.getElem_take] at he
  rw [List.length_take] at hi
  have := (List.getElem_inj (h₀ := by omega) (h₁ := hj) h3).1 he
  omega
 have hq4 : Hid (l.length ≤ 64 → (∀ j (hj : j < l.length), val.nameB l[j] = true) → l.Nodup → q = true) := Lib.hid fun h1 h2 h3 => by
  rw [← hq]
  unfold namesB
  rw [decide_eq_true h1, decide_eq_true h3]
  have : l.all val.nameB = true := by
   rw [List.all_eq_true]
   intro x hx
   obtain ⟨j, hj, rfl⟩ := List.getElem_of_mem hx
   exact h2 j hj
  rw [this]
  rfl
 have hA := Lib.hid h
 replace hc := Lib.hid hc
 replace hE := Lib.hid hE
 clear h hq
 go_enter Tryz.func72, Tryz.ntmps72
 go_wp2
 go_loopw [7] (fun i wr => ∃ k : Nat, k ≤ l.length ∧ i = .int .i64 (k : Int) ∧ k ≤ 64 ∧ Hid (Below w.heap.size w wr) ∧ Hid (∀ j (hj : j < l.length), j < k → val.nameB l[j] = true) ∧ Hid ((l.take k).Nodup)) (fun i _ => l.length - (intOf i).toNat)
 case atStart => exact ⟨0, by omega, rfl, by omega, Lib.hid (Below.refl _ _), Lib.hid fun j _ h => by omega, Lib.hid (by simp)⟩
 case round =>
  obtain ⟨k, hk, rfl, hk64, hb, hnm, hnd⟩ := hrel
  by_cases hlt : k < l.length
  ·have hki : (k : Int) < (l.length : Int) := by omega
   have hk1 := Lib.hid (show k + 1 ≤ l.length from hlt)
   obtain ⟨b, off, rfl, hbl, hcell⟩ := hc.out k hlt
   replace hcell := (stay_of_below hb.out).cell hcell
   by_cases h64 : 64 ≤ k
   ·have h64i : (64 : Int) ≤ (k : Int) := by omega
    have hqf := Lib.hid (hq1.out (by omega))
    clear hnm hnd
    generalize l[k] = v at *
    go_wp2
    go_ret
    exact ⟨ret_bool hqf.out.symm, hb.out⟩
   ·have h64i : ¬ (64 : Int) ≤ (k : Int) := by omega
    have hk65 : k + 1 ≤ 64 := by omega
    have hkc : (k : Int) ≤ (c : Int) := by omega
    have hkc2 : k ≤ c := by omega
    have hsz := hA.out.size _ (List.getElem_mem hlt)
    have hck := val.check_any 9223372036854775807 (Nat.le_refl _) wr (hE.out.below hb.out) 9 false 0 l[k] ⟨#[]⟩ (.slice none 0 0) [] (.mk none 0 [] (Nat.zero_le _) (fun j hj => by simp at hj)) (by unfold maxLen at hsz; omega) (Nat.zero_le _)
    rw [may_name] at hck
    unfold agg6 at hck
    have hqn := Lib.hid (hq2.out k hlt)
    have hqm := Lib.hid (hq3.out k hlt)
    have hnm2 : Hid (val.nameB l[k] = true → ∀ j (hj : j < l.length), j < k + 1 → val.nameB l[j] = true) := Lib.hid fun h j hj hjk => by
     by_cases he : j = k
     ·subst he; exact h
     ·exact hnm.out j hj (by omega)
    have hnd2 : Hid (l[k] ∉ l.take k → (l.take (k + 1)).Nodup) := Lib.hid fun h => by
     rw [List.take_succ_eq_append_getElem hlt]
     exact nodup_snoc hnd.out h
    have hct := fun V (h : Below w.heap.size w V) => by
     have hp := part_texts ((hA.out.stay (stay_of_below h)).mono h.size) hk
     have h2 := texts_cells hp
     have h3 := contains_any V (some ⟨b, off, none⟩) c (l.take k) l[k] (by rw [List.length_take]; omega) h2.2
     rw [← h2.1] at h3
     exact h3
    replace hct := Lib.hid hct
    replace hck := Lib.hid hck
    clear hnm hnd hsz
    generalize l[k] = v at *
    cases hv : val.nameB v with
    | false =>
     rw [hv] at hck
     have hqf := Lib.hid (hqn.out hv)
     clear hct hqm hnm2 hnd2 hqn
     go_wp2_with fail
     refine hck.out.mono ?_
     rintro e w1 ⟨rfl, hb1⟩
     have hb2 := Lib.hid (hb.out.trans (hb1.mono hb.out.size))
     clear hck hb1
     go_wp2
     go_ret
     exact ⟨ret_bool hqf.out.symm, hb2.out⟩
    | true =>
     rw [hv] at hck
     have hnm3 := Lib.hid (hnm2.out hv)
     clear hqn hnm2
     go_wp2_with fail
     refine hck.out.mono ?_
     rintro e w1 ⟨rfl, hb1⟩
     have hb2 := Lib.hid (hb.out.trans (hb1.mono hb.out.size))
     have hc2 := Lib.hid (hct.out w1 hb2.out)
     clear hck hb1 hct hcell
     cases hm : decide (v ∈ l.take k) with
     | true =>
      rw [hm] at hc2
      have hqf := Lib.hid (hqm.out (of_decide_eq_true hm))
      go_wp2_with fail
      refine hc2.out.mono ?_
      rintro e w2 ⟨rfl, rfl⟩
      go_wp2
      go_ret
      exact ⟨ret_bool hqf.out.symm, hb2.out⟩
     | false =>
      rw [hm] at hc2
      have hnd3 := Lib.hid (hnd2.out (of_decide_eq_false hm))
      clear hnd2 hqm
      go_wp2_with fail
      refine hc2.out.mono ?_
      rintro e w2 ⟨rfl, rfl⟩
      go_wp2
      go_roundw
      case rel => exact ⟨k + 1, hk1.out, by go_num, hk65, hb2, hnm3, hnd3⟩
      case measure => have := hk1.out; simp [intOf]; omega
  ·have hki : ¬ (k : Int) < (l.length : Int) := by omega
   obtain rfl : k = l.length := by omega
   have h64 : (l.length : Int) ≤ 64 := by omega
   have hqt := Lib.hid (hq4.out hk64 (fun j hj => hnm.out j hj hj) (by have := hnd.out; rw [List.take_length] at this; exact this))
   go_wp2
   go_ret
   exact ⟨ret_bool hqt.out.symm, hb.out⟩
end Go.Proofs.YtidplkfhodpdhaaGreatDoor.tab
