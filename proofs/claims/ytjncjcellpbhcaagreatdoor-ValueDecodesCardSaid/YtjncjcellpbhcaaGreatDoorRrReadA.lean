/- Texts RrTake, RrText, one behind the other. -/
import Derived.Test.YtjncjcellpbhcaaGreatDoorRdReadA
/- Contracts of the reference's reader: bytes taken, a number. -/
namespace Go.Proofs.YtjncjcellpbhcaaGreatDoor.val
open Go.ChangeShapes Go.WideShapes Go.ChangeAt Go.RowKit kit dec
set_option linter.unusedVariables false
set_option linter.unusedSimpArgs false
/-- The reference's reader has taken. -/
structure RTk (w : World) (rb : Nat) (L : List UInt8) (bad : Bool) (n : Nat) (v : Value) (w' : World) : Prop where
  bytes : BytesA w' w'.heap.size v (if bad = false ∧ n ≤ L.length then L.take n else [])
  rd : RD 48 w' rb (if bad = false ∧ n ≤ L.length then L.drop n else L) (if bad = false ∧ n ≤ L.length then false else true)
  keep : Keep [rb] w w'
set_option maxRecDepth 100000 in
set_option maxHeartbeats 2000000 in
theorem rtake_no (w : World) (rb : Nat) (L : List UInt8) (bad : Bool) (n : Nat) (h : RD 48 w rb L bad) (hn : bad = true ∨ L.length < n) :
    Calls Tryz.prog 77 #[.pointer (some ⟨rb, 0, none⟩), .int .i64 n] w fun e w' => ∃ v, e = .returned v ∧ BytesA w' w'.heap.size v [] ∧ RD 48 w' rb L true ∧ Keep [rb] w w' := by
  have hlt := h.lt
  obtain ⟨ao, cap, hq, hb⟩ := h.form
  have hn0 : ¬ ((n : Int) < 0) := by omega
  have hmk := run_make_row' (P := Tryz.prog) 23 5 (.int .u8 0) 1 Tryz.underlying23 infoByte rfl .i64 .i64 0 (by omega) (by omega)
  rw [show ((0 : Nat) : Int) = 0 from rfl] at hmk
  have x0 := hq.cell 0 rfl
  have x1 := hq.cell 1 rfl
  have f1 := hq.free 1
  have hq1 := Lib.hid ((hq.set 1 (.bool true)).alloc (.cells (madeCells #[.int .u8 0] 0) 5))
  have hkp : Keep [rb] w ((w.setCell ⟨rb, 1, none⟩ (.bool true)).alloc (.cells (madeCells #[.int .u8 0] 0) 5)) := ((Keep.refl [rb] w).setCell (p := ⟨rb, 1, none⟩) (fun _ => by simp) (.bool true)).alloc _
  replace hkp := Lib.hid hkp
  replace hb := Lib.hid hb
  clear hq
  cases bad
  · have hni : (L.length : Int) < (n : Int) := by
      rcases hn with h | h
      · cases h
      · omega
    clear hn
    go_enter Tryz.func77, Tryz.ntmps77
    go_wp2
    go_ret
    exact ⟨_, rfl, .inl ⟨_, _, rfl, rfl⟩, ⟨_, hq1.out, hb.out.stay fun k hk => hkp.out.block k (by omega) (by simp; omega)⟩, hkp.out⟩
  · clear hn
    go_enter Tryz.func77, Tryz.ntmps77
    go_wp2
    go_ret
    exact ⟨_, rfl, .inl ⟨_, _, rfl, rfl⟩, ⟨_, hq1.out, hb.out.stay fun k hk => hkp.out.block k (by omega) (by simp; omega)⟩, hkp.out⟩
set_option maxRecDepth 100000 in
set_option maxHeartbeats 2000000 in
theorem rtake_yes (w : World) (rb : Nat) (L : List UInt8) (n : Nat) (h : RD 48 w rb L false) (hn : n ≤ L.length) :
    Calls Tryz.prog 77 #[.pointer (some ⟨rb, 0, none⟩), .int .i64 n] w fun e w' => ∃ v, e = .returned v ∧ BytesA w' rb v (L.take n) ∧ RD 48 w' rb (L.drop n) false ∧ Keep [rb] w w' := by
  have hlt := h.lt
  obtain ⟨v, hq, hb⟩ := h.ex
  have x0 := hq.cell 0 rfl
  have x1 := hq.cell 1 rfl
  have f0 := hq.free 0
  have hni : ¬ (L.length : Int) < (n : Int) := by omega
  have hn0 : ¬ ((n : Int) < 0) := by omega
  have hn0' : (0 : Int) ≤ (n : Int) := by omega
  have hkp : ∀ u, Keep [rb] w (w.setCell ⟨rb, 0, none⟩ u) := fun u => (Keep.refl [rb] w).setCell (p := ⟨rb, 0, none⟩) (fun _ => by simp) u
  have hqs : ∀ u, Blk (w.setCell ⟨rb, 0, none⟩ u) rb #[u, .bool false] 48 := fun u => hq.set 0 u
  replace hkp := Lib.hid hkp
  replace hqs := Lib.hid hqs
  clear hq
  rcases hb with ⟨ao, cap, rfl, rfl⟩ | ⟨b, off, cap, rfl, h0, hcap, hbr, hj⟩
  · obtain rfl : n = 0 := by simpa using hn
    go_enter Tryz.func77, Tryz.ntmps77
    go_wp2
    go_ret
    exact ⟨_, rfl, .inl ⟨_, _, rfl, rfl⟩, ⟨_, hqs.out _, .inl ⟨_, _, rfl, rfl⟩⟩, hkp.out _⟩
  · have ht := Lib.hid fun u => bytes_take (w := w.setCell ⟨rb, 0, none⟩ u) (B := rb) (b := b) (off := off) (n := n) (cap := cap) (L := L) hn hcap hbr (fun j h => (cell_heap (Below.heap_setCell w ⟨rb, 0, none⟩ u b (by simp; omega))).trans (hj j h))
    have hd := Lib.hid fun u => bytes_drop (w := w.setCell ⟨rb, 0, none⟩ u) (B := rb) (b := b) (off := off) (n := n) (cap := cap) (L := L) hn hcap hbr (fun j h => (cell_heap (Below.heap_setCell w ⟨rb, 0, none⟩ u b (by simp; omega))).trans (hj j h))
    clear hj
    by_cases hc : cap = n
    · obtain hln : L.length = n := by omega
      subst hc
      have hdr : L.drop L.length = [] := List.drop_length
      rw [hln] at *
      rw [hdr]
      clear hd hdr
      go_enter Tryz.func77, Tryz.ntmps77
      go_wp2
      go_ret
      exact ⟨_, rfl, ht.out _, ⟨_, hqs.out _, .inl ⟨_, _, rfl, rfl⟩⟩, hkp.out _⟩
    · have hc2 : n < cap := by omega
      go_enter Tryz.func77, Tryz.ntmps77
      go_wp2
      go_ret
      exact ⟨_, rfl, ht.out _, ⟨_, hqs.out _, hd.out _⟩, hkp.out _⟩
theorem rtake_call (w : World) (rb : Nat) (L : List UInt8) (bad : Bool) (n : Nat) (h : RD 48 w rb L bad) :
    Calls Tryz.prog 77 #[.pointer (some ⟨rb, 0, none⟩), .int .i64 n] w fun e w' => ∃ v, e = .returned v ∧ RTk w rb L bad n v w' := by
  by_cases hn : bad = false ∧ n ≤ L.length
  · obtain ⟨rfl, hn2⟩ := hn
    refine (rtake_yes w rb L n h hn2).mono ?_
    rintro e w' ⟨v, he, h1, h2, h3⟩
    exact ⟨v, he, by rw [if_pos ⟨rfl, hn2⟩]; exact h1.mono (Nat.le_of_lt h2.lt), by rw [if_pos ⟨rfl, hn2⟩, if_pos ⟨rfl, hn2⟩]; exact h2, h3⟩
  · have hn2 : bad = true ∨ L.length < n := by
      cases bad
      · exact .inr (by apply Nat.lt_of_not_le; exact fun e => hn ⟨rfl, e⟩)
      · exact .inl rfl
    refine (rtake_no w rb L bad n h hn2).mono ?_
    rintro e w' ⟨v, he, h1, h2, h3⟩
    exact ⟨v, he, by rw [if_neg hn]; exact h1, by rw [if_neg hn, if_neg hn]; exact h2, h3⟩
theorem or_i64 (n c : Nat) (hn : n < 72057594037927936) (hc : c < 256) : bits .or .i64 (IntKind.i64.wrap ((n : Int) * 256)) (IntKind.i64.wrap (c : Int)) = IntKind.i64.wrap ((n * 256 + c : Nat) : Int) := by
  have e2 : IntKind.i64.wrap (c : Int) = (c : Int) := IntWalk.i64_in _ (by omega)
  rw [e2]
  show IntKind.i64.wrap ((BitVec.ofInt 64 (IntKind.i64.wrap ((n : Int) * 256)) ||| BitVec.ofInt 64 (c : Int)).toNat : Int) = _
  have t1 : (BitVec.ofInt 64 (IntKind.i64.wrap ((n : Int) * 256))).toNat = n * 256 := by
    rw [BitVec.toNat_ofInt, IntKind.wrap_i64]
    omega
  have t2 : (BitVec.ofInt 64 (c : Int)).toNat = c := by
    rw [BitVec.toNat_ofInt]
    omega
  rw [BitVec.toNat_or, t1, t2, or_byte n c hc]
set_option maxRecDepth 100000 in
set_option maxHeartbeats 2000000 in
theorem rnum_call (w : World) (rb : Nat) (L : List UInt8) (bad : Bool) (n : Nat) (hn : n ≤ 8) (h : RD 48 w rb L bad) :
    Calls Tryz.prog 47 #[.pointer (some ⟨rb, 0, none⟩), .int .i64 n] w fun e w' => e = .returned (.int .i64 (IntKind.i64.wrap (beN (if bad = false ∧ n ≤ L.length then L.take n else []) : Int))) ∧ RD 48 w' rb (if bad = false ∧ n ≤ L.length then L.drop n else L) (if bad = false ∧ n ≤ L.length then false else true) ∧ Keep [rb] w w' := by
  have ht := rtake_call w rb L bad n h
  obtain ⟨D, hD⟩ : ∃ D, (if bad = false ∧ n ≤ L.length then L.take n else []) = D := ⟨_, rfl⟩
  have hDl : D.length ≤ 8 := by
    rw [← hD]
    split
    · rw [List.length_take]; omega
    · exact Nat.zero_le _
  have ht2 : Calls Tryz.prog 77 #[.pointer (some ⟨rb, 0, none⟩), .int .i64 n] w fun e w' => ∃ v, e = .returned v ∧ BytesA w' w'.heap.size v D ∧ RD 48 w' rb (if bad = false ∧ n ≤ L.length then L.drop n else L) (if bad = false ∧ n ≤ L.length then false else true) ∧ Keep [rb] w w' := by
    refine ht.mono ?_
    rintro e w' ⟨v, he, h1, h2, h3⟩
    exact ⟨v, he, hD ▸ h1, h2, h3⟩
  rw [hD]
  generalize (if bad = false ∧ n ≤ L.length then L.drop n else L) = L' at *
  generalize (if bad = false ∧ n ≤ L.length then false else true) = b' at *
  have hli : (D.length : Int) ≤ 8 := by omega
  replace ht2 := Lib.hid ht2
  clear ht hD h
  go_enter Tryz.func47, Tryz.ntmps47
  go_wp2_with fail
  refine (ht2.out).mono ?_
  rintro e w1 ⟨v, rfl, hb, hr, hk⟩
  obtain ⟨ao, cap, rfl⟩ : ∃ ao cap, v = .slice ao D.length cap := by
    rcases hb with ⟨ao, cap, rfl, rfl⟩ | ⟨b, off, cap, rfl, _⟩
    · exact ⟨ao, cap, rfl⟩
    · exact ⟨_, cap, rfl⟩
  replace hb := Lib.hid hb
  replace hr := Lib.hid hr
  replace hk := Lib.hid hk
  clear ht2
  go_wp2
  go_loopw [7, 6] (fun i v wr => ∃ k : Nat, k ≤ D.length ∧ i = .int .i64 k ∧ v = .int .i64 (IntKind.i64.wrap (beN (D.take k) : Int)) ∧ wr = w1) (fun i _ _ => D.length - (intOf i).toNat)
  case atStart => exact ⟨0, by omega, rfl, by (show Value.int .i64 0 = Value.int .i64 (IntKind.i64.wrap 0); rw [IntWalk.i64_in 0 (by decide)]), rfl⟩
  case round =>
    obtain ⟨k, hk2, rfl, rfl, rfl⟩ := hrel
    by_cases hlt : k < D.length
    · have hki : (k : Int) < (D.length : Int) := by omega
      rcases hb.out with ⟨_, _, _, rfl⟩ | ⟨b, off, cap', he, h0, hc, hb2, hj⟩
      · simp at hlt
      · injection he with e1 e2 e3
        subst e1
        have x0 := hj k hlt
        have hbt := beN_take D k hlt
        have hb2 : beN (D.take k) < 72057594037927936 := by
          have h1 := beN_lt k (D.take k) (by rw [List.length_take]; omega)
          exact Nat.lt_of_lt_of_le h1 (show 256 ^ k ≤ 256 ^ 7 from Nat.pow_le_pow_right (by decide) (by omega))
        have hor := or_i64 (beN (D.take k)) D[k].toNat hb2 D[k].toNat_lt
        rw [← hbt] at hor
        have hw : IntKind.i64.wrap (beN (D.take k) : Int) = (beN (D.take k) : Int) := IntWalk.i64_in _ (by omega)
        rw [hw]
        rw [IntWalk.i64_left, IntWalk.i64_left, IntWalk.i64_left] at hor
        clear hj e2 e3 hb2 hbt hw
        go_wp2
        exact ⟨⟨k + 1, by omega, by go_num, by rw [IntWalk.i64_left], trivial⟩, by simp [intOf]; omega⟩
    · have hki : ¬ (k : Int) < (D.length : Int) := by omega
      obtain rfl : k = D.length := by omega
      rw [List.take_length]
      go_wp2
      go_ret
      exact ⟨rfl, hr.out, hk.out⟩
end Go.Proofs.YtjncjcellpbhcaaGreatDoor.val

/- Contract of the reference's reader: a text. -/
namespace Go.Proofs.YtjncjcellpbhcaaGreatDoor.val
open Go.ChangeShapes Go.WideShapes Go.ChangeAt Go.RowKit kit dec
set_option linter.unusedVariables false
set_option linter.unusedSimpArgs false
theorem rtake_y (w : World) (rb : Nat) (L : List UInt8) (n : Nat) (hn : n ≤ L.length) (h : RD 48 w rb L false) :
    Calls Tryz.prog 77 #[.pointer (some ⟨rb, 0, none⟩), .int .i64 n] w fun e w' => ∃ v, e = .returned v ∧ BytesA w' w'.heap.size v (L.take n) ∧ RD 48 w' rb (L.drop n) false ∧ Keep [rb] w w' := by
  refine (rtake_yes w rb L n h hn).mono ?_
  rintro e w' ⟨v, he, h1, h2, h3⟩
  exact ⟨v, he, h1.mono (Nat.le_of_lt h2.lt), h2, h3⟩
theorem rnum_y (w : World) (rb : Nat) (L : List UInt8) (n : Nat) (hn : n ≤ 8) (hl : n ≤ L.length) (h : RD 48 w rb L false) :
    Calls Tryz.prog 47 #[.pointer (some ⟨rb, 0, none⟩), .int .i64 n] w fun e w' => e = .returned (.int .i64 (IntKind.i64.wrap (beN (L.take n) : Int))) ∧ RD 48 w' rb (L.drop n) false ∧ Keep [rb] w w' := by
  refine (rnum_call w rb L false n hn h).mono ?_
  intro e w' hh
  have hc : false = false ∧ n ≤ L.length := ⟨rfl, hl⟩
  rw [if_pos hc, if_pos hc, if_pos hc] at hh
  exact hh
theorem rnum_n (w : World) (rb : Nat) (L : List UInt8) (bad : Bool) (n : Nat) (hn : n ≤ 8) (hl : ¬ (bad = false ∧ n ≤ L.length)) (h : RD 48 w rb L bad) :
    Calls Tryz.prog 47 #[.pointer (some ⟨rb, 0, none⟩), .int .i64 n] w fun e w' => e = .returned (.int .i64 0) ∧ RD 48 w' rb L true ∧ Keep [rb] w w' := by
  refine (rnum_call w rb L bad n hn h).mono ?_
  intro e w' hh
  rw [if_neg hl, if_neg hl, if_neg hl, show beN [] = 0 from rfl, show ((0 : Nat) : Int) = 0 from rfl, IntWalk.i64_in 0 (by decide)] at hh
  exact hh
set_option maxRecDepth 100000 in
set_option maxHeartbeats 2000000 in
theorem rtext_call (w : World) (rb : Nat) (L : List UInt8) (bad : Bool) (hL : L.length ≤ 1048576) (h : RD 48 w rb L bad) :
    Calls Tryz.prog 48 #[.pointer (some ⟨rb, 0, none⟩)] w fun e w' => ∃ t L' bad', e = .returned (.string t) ∧ TxR L bad t L' bad' ∧ RD 48 w' rb L' bad' ∧ Keep [rb] w w' := by
  by_cases hg : bad = false ∧ 4 ≤ L.length
  · obtain ⟨rfl, h4⟩ := hg
    have hc := rnum_y w rb L 4 (by omega) h4 h
    rw [show ((4 : Nat) : Int) = 4 from rfl] at hc
    have hn := be4_lt L
    have hl1 : (L.drop 4).length ≤ L.length := by rw [List.length_drop]; omega
    have ht0 : txtD L = if beN (L.take 4) ≤ 1048576 then (takeB (beN (L.take 4)) (L.drop 4)).bind fun q => some (tx q.1, q.2) else none := by
      unfold txtD
      rw [show takeB 4 L = some (L.take 4, L.drop 4) from if_pos h4]
      rfl
    generalize beN (L.take 4) = n at *
    generalize L.drop 4 = L1 at *
    rw [IntWalk.i64_in _ (by omega)] at hc
    replace hc := Lib.hid hc
    by_cases hle : n ≤ L1.length
    · have hyes : TxR L false (tx (L1.take n)) (L1.drop n) false := by
        rw [if_pos (by omega)] at ht0
        unfold takeB at ht0
        rw [if_pos hle] at ht0
        simp only [Option.bind_some] at ht0
        refine ⟨by rw [List.length_drop]; omega, by rw [tx_size, List.length_take]; omega, (fun e => by cases e), fun _ t0 r e => ?_, fun _ e => by (rw [ht0] at e; cases e)⟩
        rw [ht0] at e
        simp only [Option.some.injEq, Prod.mk.injEq] at e
        exact ⟨e.1, e.2, rfl⟩
      replace hyes := Lib.hid hyes
      clear ht0 h hl1 h4 hL
      go_enter Tryz.func48, Tryz.ntmps48
      go_wp2_with fail
      refine (hc.out).mono ?_
      rintro e w1 ⟨rfl, hr, hk⟩
      have ht := Lib.hid (rtake_y w1 rb L1 n hle hr)
      replace hk := Lib.hid hk
      clear hr hc
      go_wp2_with fail
      refine (ht.out).mono ?_
      rintro e w2 ⟨v, rfl, hv, hr2, hk2⟩
      have hk3 := Lib.hid (hk.out.trans hk2 (fun x hx _ => hx))
      have hcv := conv_bytes hv
      replace hr2 := Lib.hid hr2
      clear hk hk2 hv ht
      go_wp2
      go_ret
      exact ⟨_, _, _, rfl, hyes.out, hr2.out, hk3.out⟩
    · have hno : TxR L false (tx []) L1 true := by
        have ht : txtD L = none := by
          rw [ht0]
          split
          · unfold takeB; rw [if_neg hle]; rfl
          · rfl
        exact ⟨hl1, ⟨Nat.zero_le _, Nat.zero_le _⟩, fun _ => rfl, fun _ t0 r e => by (rw [ht] at e; cases e), fun _ _ => rfl⟩
      replace hno := Lib.hid hno
      have hle2 : false = true ∨ L1.length < n := .inr (by omega)
      replace hle2 := Lib.hid hle2
      clear ht0 h hl1 h4 hL
      go_enter Tryz.func48, Tryz.ntmps48
      go_wp2_with fail
      refine (hc.out).mono ?_
      rintro e w1 ⟨rfl, hr, hk⟩
      have ht := Lib.hid (rtake_no w1 rb L1 false n hr hle2.out)
      replace hk := Lib.hid hk
      clear hr hc
      go_wp2_with fail
      refine (ht.out).mono ?_
      rintro e w2 ⟨v, rfl, hv, hr2, hk2⟩
      have hk3 := Lib.hid (hk.out.trans hk2 (fun x hx _ => hx))
      have hcv := conv_bytes hv
      replace hr2 := Lib.hid hr2
      clear hk hk2 hv ht
      go_wp2
      go_ret
      exact ⟨_, _, _, rfl, hno.out, hr2.out, hk3.out⟩
  · have hc := rnum_n w rb L bad 4 (by omega) hg h
    rw [show ((4 : Nat) : Int) = 4 from rfl] at hc
    have htx : TxR L bad (tx []) L true := by
      refine ⟨Nat.le_refl _, ⟨Nat.zero_le _, Nat.zero_le _⟩, fun _ => rfl, fun hb t0 r e => ?_, fun _ _ => rfl⟩
      have ht : txtD L = none := by
        unfold txtD
        rw [show takeB 4 L = none from if_neg (fun h4 => hg ⟨hb, h4⟩)]
        rfl
      rw [ht] at e; cases e
    replace htx := Lib.hid htx
    replace hc := Lib.hid hc
    clear h hg hL
    go_enter Tryz.func48, Tryz.ntmps48
    go_wp2_with fail
    refine (hc.out).mono ?_
    rintro e w1 ⟨rfl, hr, hk⟩
    have ht := rtake_no w1 rb L true 0 hr (.inl rfl)
    rw [show ((0 : Nat) : Int) = 0 from rfl] at ht
    replace ht := Lib.hid ht
    replace hk := Lib.hid hk
    clear hr hc
    go_wp2_with fail
    refine (ht.out).mono ?_
    rintro e w2 ⟨v, rfl, hv, hr2, hk2⟩
    have hk3 := Lib.hid (hk.out.trans hk2 (fun x hx _ => hx))
    have hcv := conv_bytes hv
    replace hr2 := Lib.hid hr2
    clear hk hk2 hv ht
    go_wp2
    go_ret
    exact ⟨_, _, _, rfl, htx.out, hr2.out, hk3.out⟩
end Go.Proofs.YtjncjcellpbhcaaGreatDoor.val
