/- Texts RdTake, RdNum, RdText, RdBase, one behind the other. -/
import Derived.Test.YtjncjcellpbhcaaGreatDoorDecodeP
import Derived.Test.YtjncjcellpbhcaaGreatDoorVMadeA
import Derived.Deep.OwnRows
import Derived.Laws.BitsAllLaws
import Derived.Laws.BytesString
import Derived.Test.YtjncjcellpbhcaaGreatDoorValTabs
/- Contracts of the program's reader: bytes taken, a number of bytes. -/
namespace Go.Proofs.YtjncjcellpbhcaaGreatDoor.val
open Go.ChangeShapes Go.WideShapes Go.ChangeAt Go.RowKit kit dec
set_option linter.unusedVariables false
set_option linter.unusedSimpArgs false
/-- A slice that holds bytes, in a block below so much. -/
def BytesA (w : World) (B : Nat) (v : Value) (L : List UInt8) : Prop :=
  (∃ ao cap, v = .slice ao 0 cap ∧ L = []) ∨ ∃ b off cap, v = .slice (some ⟨b, off, none⟩) L.length cap ∧ 0 < L.length ∧ L.length ≤ cap ∧ b < B ∧ ∀ j (h : j < L.length), w.cell? ⟨b, off + j, none⟩ = some (.int .u8 (L[j].toNat : Nat))
theorem cell_heap {w w' : World} {k i : Nat} (h : w'.heap[k]? = w.heap[k]?) : w'.cell? ⟨k, i, none⟩ = w.cell? ⟨k, i, none⟩ := by
  unfold World.cell?
  simp only [h]
theorem BytesA.stay {w w' : World} {B : Nat} {v : Value} {L : List UInt8} (h : BytesA w B v L) (hb : ∀ k, k < B → w'.heap[k]? = w.heap[k]?) : BytesA w' B v L := by
  rcases h with h | ⟨b, off, cap, hv, h0, hc, hB, hj⟩
  · exact .inl h
  · exact .inr ⟨b, off, cap, hv, h0, hc, hB, fun j h => (cell_heap (hb b hB)).trans (hj j h)⟩
theorem BytesA.mono {w : World} {B B' : Nat} {v : Value} {L : List UInt8} (h : BytesA w B v L) (hB : B ≤ B') : BytesA w B' v L := by
  rcases h with h | ⟨b, off, cap, hv, h0, hc, hb, hj⟩
  · exact .inl h
  · exact .inr ⟨b, off, cap, hv, h0, hc, by omega, hj⟩
/-- The program's reader: what is left, and whether it is bad. -/
structure RD (T : TypeId) (w : World) (rb : Nat) (L : List UInt8) (bad : Bool) : Prop where
  ex : ∃ v, Blk w rb #[v, .bool bad] T ∧ BytesA w rb v L
theorem infoByte : (Tryz.prog.info? 5).map (fun i => (i.zero, i.size, i.bytes)) = some (some (.int .u8 0), 1, 1) := by kernel_rfl
/-- Made bytes are noughts. -/
theorem made_bytes (w : World) (m : Nat) : BytesA (w.alloc (.cells (madeCells #[.int .u8 0] m) 5)) (w.heap.size + 1) (.slice (some ⟨w.heap.size, 0, none⟩) m m) (List.replicate m 0) := by
  by_cases h0 : m = 0
  · subst h0; exact .inl ⟨_, _, rfl, rfl⟩
  · refine .inr ⟨w.heap.size, 0, m, by rw [List.length_replicate], by rw [List.length_replicate]; omega, by rw [List.length_replicate]; omega, by omega, fun j hj => ?_⟩
    rw [List.length_replicate] at hj
    refine (Blk.new w _ _).cell (0 + j) ?_
    rw [Nat.zero_add]
    simp [madeCells, hj, Nat.mod_one]
theorem RD.form {T : TypeId} {w : World} {rb : Nat} {L : List UInt8} {bad : Bool} (h : RD T w rb L bad) : ∃ ao cap, Blk w rb #[.slice ao L.length cap, .bool bad] T ∧ BytesA w rb (.slice ao L.length cap) L := by
  obtain ⟨v, hq, hb⟩ := h.ex
  rcases hb with ⟨ao, cap, rfl, rfl⟩ | ⟨b, off, cap, rfl, hr⟩
  · exact ⟨ao, cap, hq, .inl ⟨ao, cap, rfl, rfl⟩⟩
  · exact ⟨_, cap, hq, .inr ⟨b, off, cap, rfl, hr⟩⟩
theorem RD.keep {T : TypeId} {w w' : World} {rb : Nat} {L : List UInt8} {bad : Bool} (h : RD T w rb L bad) (hb : ∀ k, k ≤ rb → w'.heap[k]? = w.heap[k]?) : RD T w' rb L bad := by
  obtain ⟨v, hq, hv⟩ := h.ex
  exact ⟨v, (hb rb (Nat.le_refl _)).trans hq, hv.stay fun k hk => hb k (by omega)⟩
theorem RD.lt {T : TypeId} {w : World} {rb : Nat} {L : List UInt8} {bad : Bool} (h : RD T w rb L bad) : rb < w.heap.size := by
  obtain ⟨v, hq, _⟩ := h.ex
  exact hq.lt
set_option maxRecDepth 100000 in
set_option maxHeartbeats 2000000 in
theorem take_no (w : World) (rb : Nat) (L : List UInt8) (bad : Bool) (n : Nat) (h : RD 43 w rb L bad) (hn : L.length < n) (hn2 : n ≤ 1048576) :
    Calls Tryz.prog 41 #[.pointer (some ⟨rb, 0, none⟩), .int .i64 n] w fun e w' => ∃ v, e = .returned v ∧ BytesA w' w'.heap.size v (List.replicate (min n 8) 0) ∧ RD 43 w' rb L true ∧ Keep [rb] w w' := by
  have hlt := h.lt
  obtain ⟨ao, cap, hq, hb⟩ := h.form
  have hni : (L.length : Int) < (n : Int) := by omega
  have hn0 : (0 : Int) ≤ (n : Int) := by omega
  obtain ⟨m, hm⟩ : ∃ m, min n 8 = m := ⟨_, rfl⟩
  have hmi : min (n : Int) 8 = (m : Int) := by omega
  have hmk := run_make_row' (P := Tryz.prog) 23 5 (.int .u8 0) 1 Tryz.underlying23 infoByte rfl .i64 .i64 m (by omega) (by omega)
  rw [hm]
  have x0 := hq.cell 0 rfl
  have x1 := hq.cell 1 rfl
  have f1 := hq.free 1
  have hq1 := Lib.hid ((hq.set 1 (.bool true)).alloc (.cells (madeCells #[.int .u8 0] m) 5))
  have hkp : Keep [rb] w ((w.setCell ⟨rb, 1, none⟩ (.bool true)).alloc (.cells (madeCells #[.int .u8 0] m) 5)) := ((Keep.refl [rb] w).setCell (p := ⟨rb, 1, none⟩) (fun _ => by simp) (.bool true)).alloc _
  replace hkp := Lib.hid hkp
  replace hb := Lib.hid hb
  clear hq hn hm
  go_enter Tryz.func41, Tryz.ntmps41
  go_wp2
  go_ret
  have hmb := (made_bytes (w.setCell ⟨rb, 1, none⟩ (.bool true)) m).mono (B' := ((w.setCell ⟨rb, 1, none⟩ (.bool true)).alloc (.cells (madeCells #[.int .u8 0] m) 5)).heap.size) (Nat.le_of_eq (World.size_alloc _ _).symm)
  rw [show (w.setCell ⟨rb, 1, none⟩ (.bool true)).heap.size = w.heap.size by simp [World.setCell]] at hmb
  refine ⟨_, rfl, hmb, ⟨_, hq1.out, hb.out.stay fun k hk => hkp.out.block k (by omega) (by simp; omega)⟩, hkp.out⟩
theorem bytes_take {w : World} {B b off n cap : Nat} {L : List UInt8} (hn : n ≤ L.length) (hcap : L.length ≤ cap) (hb : b < B) (hj : ∀ j (h : j < L.length), w.cell? ⟨b, off + j, none⟩ = some (.int .u8 (L[j].toNat : Nat))) : BytesA w B (.slice (some ⟨b, off, none⟩) n cap) (L.take n) := by
  by_cases h0 : n = 0
  · subst h0; exact .inl ⟨_, _, rfl, rfl⟩
  · have hl : (L.take n).length = n := by rw [List.length_take]; omega
    refine .inr ⟨b, off, cap, by rw [hl], by omega, by omega, hb, fun j h => ?_⟩
    rw [hj j (by omega), List.getElem_take]
theorem bytes_drop {w : World} {B b off n cap : Nat} {L : List UInt8} (hn : n ≤ L.length) (hcap : L.length ≤ cap) (hb : b < B) (hj : ∀ j (h : j < L.length), w.cell? ⟨b, off + j, none⟩ = some (.int .u8 (L[j].toNat : Nat))) : BytesA w B (.slice (some ⟨b, off + n, none⟩) (L.length - n) (cap - n)) (L.drop n) := by
  have hl : (L.drop n).length = L.length - n := List.length_drop
  by_cases h0 : L.length - n = 0
  · refine .inl ⟨_, _, by rw [h0], List.eq_nil_of_length_eq_zero (by omega)⟩
  · refine .inr ⟨b, off + n, cap - n, by rw [hl], by omega, by omega, hb, fun j h => ?_⟩
    rw [Nat.add_assoc, hj (n + j) (by omega), List.getElem_drop]
set_option maxRecDepth 100000 in
set_option maxHeartbeats 2000000 in
theorem take_yes (w : World) (rb : Nat) (L : List UInt8) (bad : Bool) (n : Nat) (h : RD 43 w rb L bad) (hn : n ≤ L.length) (hn2 : n ≤ 1048576) :
    Calls Tryz.prog 41 #[.pointer (some ⟨rb, 0, none⟩), .int .i64 n] w fun e w' => ∃ v, e = .returned v ∧ BytesA w' rb v (L.take n) ∧ RD 43 w' rb (L.drop n) bad ∧ Keep [rb] w w' := by
  have hlt := h.lt
  obtain ⟨v, hq, hb⟩ := h.ex
  have x0 := hq.cell 0 rfl
  have f0 := hq.free 0
  have hni : ¬ (L.length : Int) < (n : Int) := by omega
  have hn0 : (0 : Int) ≤ (n : Int) := by omega
  have hkp : ∀ u, Keep [rb] w (w.setCell ⟨rb, 0, none⟩ u) := fun u => (Keep.refl [rb] w).setCell (p := ⟨rb, 0, none⟩) (fun _ => by simp) u
  have hqs : ∀ u, Blk (w.setCell ⟨rb, 0, none⟩ u) rb #[u, .bool bad] 43 := fun u => hq.set 0 u
  replace hkp := Lib.hid hkp
  replace hqs := Lib.hid hqs
  clear hq
  rcases hb with ⟨ao, cap, rfl, rfl⟩ | ⟨b, off, cap, rfl, h0, hcap, hbr, hj⟩
  · obtain rfl : n = 0 := by simpa using hn
    go_enter Tryz.func41, Tryz.ntmps41
    go_wp2
    go_ret
    exact ⟨_, rfl, .inl ⟨_, _, rfl, rfl⟩, ⟨_, hqs.out _, .inl ⟨_, _, rfl, rfl⟩⟩, hkp.out _⟩
  · have ht := Lib.hid fun u => bytes_take (w := w.setCell ⟨rb, 0, none⟩ u) (B := rb) (b := b) (off := off) (n := n) (cap := cap) (L := L) hn hcap hbr (fun j h => (cell_heap (Below.heap_setCell w ⟨rb, 0, none⟩ u b (by simp; omega))).trans (hj j h))
    have hd := Lib.hid fun u => bytes_drop (w := w.setCell ⟨rb, 0, none⟩ u) (B := rb) (b := b) (off := off) (n := n) (cap := cap) (L := L) hn hcap hbr (fun j h => (cell_heap (Below.heap_setCell w ⟨rb, 0, none⟩ u b (by simp; omega))).trans (hj j h))
    clear hj
    by_cases hc : cap = n
    · obtain hln : L.length = n := by omega
      subst hc
      have hdr : L.drop L.length = [] := List.drop_length
      rw [hln] at *
      rw [hdr]
      clear hd hdr
      go_enter Tryz.func41, Tryz.ntmps41
      go_wp2
      go_ret
      exact ⟨_, rfl, ht.out _, ⟨_, hqs.out _, .inl ⟨_, _, rfl, rfl⟩⟩, hkp.out _⟩
    · have hc2 : n < cap := by omega
      go_enter Tryz.func41, Tryz.ntmps41
      go_wp2
      go_ret
      exact ⟨_, rfl, ht.out _, ⟨_, hqs.out _, hd.out _⟩, hkp.out _⟩
end Go.Proofs.YtjncjcellpbhcaaGreatDoor.val

/- Contracts of the program's reader: numbers and texts of bytes. -/
namespace Go.Proofs.YtjncjcellpbhcaaGreatDoor.val
open Go.ChangeShapes Go.WideShapes Go.ChangeAt Go.RowKit kit dec
set_option linter.unusedVariables false
set_option linter.unusedSimpArgs false
theorem beN_snoc (l : List UInt8) (c : UInt8) : beN (l ++ [c]) = beN l * 256 + c.toNat := by unfold beN; rw [List.foldl_append]; rfl
theorem beN_lt : ∀ (n : Nat) (l : List UInt8), l.length = n → beN l < 256 ^ n
  | 0, l, h => by obtain rfl := List.eq_nil_of_length_eq_zero h; decide
  | n + 1, l, h => by
    obtain ⟨r, c, rfl⟩ : ∃ r c, l = r ++ [c] := ⟨l.dropLast, l.getLast (by intro e; rw [e] at h; simp at h), (List.dropLast_concat_getLast _).symm⟩
    have h1 := beN_lt n r (by simpa using h)
    have h2 : c.toNat < 256 := c.toNat_lt
    rw [beN_snoc, Nat.pow_succ]
    omega
theorem beN_take (l : List UInt8) (i : Nat) (h : i < l.length) : beN (l.take (i + 1)) = beN (l.take i) * 256 + l[i].toNat := by
  rw [List.take_succ_eq_append_getElem h, beN_snoc]
theorem or_byte (n c : Nat) (hc : c < 256) : n * 256 ||| c = n * 256 + c := by
  have := Nat.shiftLeft_add_eq_or_of_lt (i := 8) (b := c) (by simpa using hc) n
  rw [Nat.shiftLeft_eq] at this
  exact this.symm
theorem or_u64 (n c : Nat) (hn : n < 72057594037927936) (hc : c < 256) : bits .or .u64 (IntKind.u64.wrap ((n : Int) * 256)) (IntKind.u64.wrap (c : Int)) = ((n * 256 + c : Nat) : Int) := by
  have e1 : IntKind.u64.wrap ((n : Int) * 256) = ((n * 256 : Nat) : Int) := by rw [IntWalk.u64_in _ (by omega)]; omega
  have e2 : IntKind.u64.wrap (c : Int) = (c : Int) := IntWalk.u64_in _ (by omega)
  rw [e1, e2, u64_or_nat _ _ (by omega) (by omega), or_byte n c hc]
set_option maxRecDepth 100000 in
set_option maxHeartbeats 2000000 in
theorem number8_call (w : World) (B : Nat) (v : Value) (L : List UInt8) (h : BytesA w B v L) (hl : L.length ≤ 8) :
    Calls Tryz.prog 43 #[v] w fun e w' => e = .returned (.int .u64 (beN L : Nat)) ∧ w' = w := by
  obtain ⟨ao, cap, rfl⟩ : ∃ ao cap, v = .slice ao L.length cap := by
    rcases h with ⟨ao, cap, rfl, rfl⟩ | ⟨b, off, cap, rfl, _⟩
    · exact ⟨ao, cap, rfl⟩
    · exact ⟨_, cap, rfl⟩
  have hli : (L.length : Int) ≤ 8 := by omega
  replace h := Lib.hid h
  go_enter Tryz.func43, Tryz.ntmps43
  go_wp2
  go_loopw [8, 3] (fun i v wr => ∃ k : Nat, k ≤ L.length ∧ i = .int .i64 k ∧ v = .int .u64 (beN (L.take k) : Nat) ∧ wr = w) (fun i _ _ => L.length - (intOf i).toNat)
  case atStart => exact ⟨0, by omega, rfl, rfl, rfl⟩
  case round =>
    obtain ⟨k, hk, rfl, rfl, rfl⟩ := hrel
    by_cases hlt : k < L.length
    · have hki : (k : Int) < (L.length : Int) := by omega
      rcases h.out with ⟨_, _, _, rfl⟩ | ⟨b, off, cap', he, h0, hc, hb, hj⟩
      · simp at hlt
      · injection he with e1 e2 e3
        subst e1
        have x0 := hj k hlt
        have hb := beN_take L k hlt
        have hb2 : beN (L.take k) < 72057594037927936 := by
          have h1 := beN_lt k (L.take k) (by rw [List.length_take]; omega)
          exact Nat.lt_of_lt_of_le h1 (show 256 ^ k ≤ 256 ^ 7 from Nat.pow_le_pow_right (by decide) (by omega))
        have hor := or_u64 (beN (L.take k)) L[k].toNat hb2 L[k].toNat_lt
        rw [← hb] at hor
        clear hj e2 e3 hb2 hb
        go_wp2
        exact ⟨⟨k + 1, by omega, by go_num, rfl, trivial⟩, by simp [intOf]; omega⟩
    · have hki : ¬ (k : Int) < (L.length : Int) := by omega
      obtain rfl : k = L.length := by omega
      rw [List.take_length]
      go_wp2
      go_ret
      exact ⟨rfl, rfl⟩
/-- A reader that has taken. -/
def Tk (w : World) (rb : Nat) (L : List UInt8) (bad : Bool) (n : Nat) (v : Value) (w' : World) : Prop :=
  BytesA w' w'.heap.size v (if n ≤ L.length then L.take n else List.replicate (min n 8) 0) ∧ RD 43 w' rb (if n ≤ L.length then L.drop n else L) (if n ≤ L.length then bad else true) ∧ Keep [rb] w w'
theorem take_call (w : World) (rb : Nat) (L : List UInt8) (bad : Bool) (n : Nat) (h : RD 43 w rb L bad) (hn2 : n ≤ 1048576) :
    Calls Tryz.prog 41 #[.pointer (some ⟨rb, 0, none⟩), .int .i64 n] w fun e w' => ∃ v, e = .returned v ∧ Tk w rb L bad n v w' := by
  unfold Tk
  by_cases hn : n ≤ L.length
  · simp only [if_pos hn]
    refine (take_yes w rb L bad n h hn hn2).mono ?_
    rintro e w' ⟨v, he, h1, h2, h3⟩
    exact ⟨v, he, h1.mono (Nat.le_of_lt h2.lt), h2, h3⟩
  · simp only [if_neg hn]
    exact take_no w rb L bad n h (by omega) hn2
/-- How many: what a reader's count tells. -/
def cntS (most : Nat) (L : List UInt8) (bad : Bool) : Nat × List UInt8 × Bool :=
  if 4 ≤ L.length then (if most < beN (L.take 4) then (0, L.drop 4, true) else (beN (L.take 4), L.drop 4, bad)) else (0, L, true)
theorem be4_lt (L : List UInt8) : beN (L.take 4) < 4294967296 := by
  have h := beN_lt (L.take 4).length (L.take 4) rfl
  have h2 : (L.take 4).length ≤ 4 := by rw [List.length_take]; omega
  exact Nat.lt_of_lt_of_le h (show 256 ^ (L.take 4).length ≤ 256 ^ 4 from Nat.pow_le_pow_right (by decide) h2)
set_option maxRecDepth 100000 in
set_option maxHeartbeats 2000000 in
theorem count_call (w : World) (rb : Nat) (L : List UInt8) (bad : Bool) (most : Nat) (h : RD 43 w rb L bad) (hm : most ≤ 1048576) :
    Calls Tryz.prog 45 #[.pointer (some ⟨rb, 0, none⟩), .int .i64 most] w fun e w' => e = .returned (.int .i64 ((cntS most L bad).1 : Nat)) ∧ RD 43 w' rb (cntS most L bad).2.1 (cntS most L bad).2.2 ∧ Keep [rb] w w' := by
  have ht := take_call w rb L bad 4 h (by omega)
  unfold Tk at ht
  have ht4 : ((4 : Nat) : Int) = 4 := rfl
  rw [ht4] at ht
  have hmu : IntKind.u64.wrap (most : Int) = (most : Int) := IntWalk.u64_in _ (by omega)
  have h4 := be4_lt L
  unfold cntS
  by_cases hn : 4 ≤ L.length
  · simp only [if_pos hn] at ht ⊢
    generalize hN : beN (L.take 4) = N at *
    have hl4 : (L.take 4).length ≤ 8 := by rw [List.length_take]; omega
    generalize L.take 4 = L4 at *
    generalize L.drop 4 = L' at *
    have hNi : IntKind.i64.wrap (N : Int) = (N : Int) := IntWalk.i64_in _ (by omega)
    obtain ⟨c, hcE⟩ : ∃ c, (if most < N then (0, L', true) else (N, L', bad)) = c := ⟨_, rfl⟩
    rw [hcE]
    replace hcE := Lib.hid hcE
    replace ht := Lib.hid ht
    clear h
    go_enter Tryz.func45, Tryz.ntmps45
    go_wp2_with fail
    refine (ht.out).mono ?_
    rintro e w1 ⟨v, rfl, hv, hr, hk⟩
    have hn8 := Lib.hid (number8_call w1 _ v L4 hv hl4)
    rw [hN] at hn8
    obtain ⟨ao, cap, hq, hbb⟩ := hr.form
    have x0 := hq.cell 0 rfl
    have x1 := hq.cell 1 rfl
    have f1 := hq.free 1
    replace hr := Lib.hid hr
    replace hk := Lib.hid hk
    replace hv := Lib.hid hv
    go_wp2_with fail
    refine (hn8.out).mono ?_
    rintro e w2 ⟨rfl, rfl⟩
    by_cases hbig : most < N
    · have hbi : (most : Int) < (N : Int) := by omega
      obtain rfl : (0, L', true) = c := by rw [← hcE.out, if_pos hbig]
      replace hq := Lib.hid hq
      replace hbb := Lib.hid hbb
      clear hN ht hn8
      go_wp2
      go_ret
      have hs := (hk.out.setCell (p := ⟨rb, 1, none⟩) (fun _ => by simp) (.bool true))
      exact ⟨rfl, ⟨_, hq.out.set 1 (.bool true), hbb.out.stay fun k hk2 => Below.heap_setCell w2 ⟨rb, 1, none⟩ _ k (by simp; omega)⟩, hs⟩
    · have hbi : ¬ (most : Int) < (N : Int) := by omega
      obtain rfl : (N, L', bad) = c := by rw [← hcE.out, if_neg hbig]
      clear hN ht hn8 hq hbb x0 x1 f1
      go_wp2
      go_ret
      exact ⟨rfl, hr.out, hk.out⟩
  · simp only [if_neg hn] at ht ⊢
    have hN0 : beN (List.replicate (min 4 8) 0) = 0 := rfl
    have hl4 : (List.replicate (min 4 8) (0 : UInt8)).length ≤ 8 := by decide
    generalize List.replicate (min 4 8) (0 : UInt8) = L4 at *
    replace ht := Lib.hid ht
    clear h
    go_enter Tryz.func45, Tryz.ntmps45
    go_wp2_with fail
    refine (ht.out).mono ?_
    rintro e w1 ⟨v, rfl, hv, hr, hk⟩
    have hn8 := Lib.hid (number8_call w1 _ v L4 hv hl4)
    rw [hN0] at hn8
    replace hr := Lib.hid hr
    replace hk := Lib.hid hk
    clear hv hN0 ht
    go_wp2_with fail
    refine (hn8.out).mono ?_
    rintro e w2 ⟨rfl, rfl⟩
    have hbi : ¬ (most : Int) < 0 := by omega
    clear hn8
    go_wp2
    go_ret
    exact ⟨rfl, hr.out, hk.out⟩
end Go.Proofs.YtjncjcellpbhcaaGreatDoor.val

/- Contract of the program's reader: a text. -/
namespace Go.Proofs.YtjncjcellpbhcaaGreatDoor.val
open Go.ChangeShapes Go.WideShapes Go.ChangeAt Go.RowKit kit dec
set_option linter.unusedVariables false
set_option linter.unusedSimpArgs false
theorem conv_bytes {w : World} {B : Nat} {v : Value} {L : List UInt8} (h : BytesA w B v L) : (convert 23 9 v).run Tryz.prog w = .ok (.string (tx L)) w := by
  rcases h with ⟨ao, cap, rfl, rfl⟩ | ⟨b, off, cap, rfl, h0, hc, hb, hj⟩
  · rcases ao with _ | a
    · rw [run_convert_bytes_string w 23 9 5 none 0 cap Tryz.underlying23 Tryz.underlying5 Tryz.underlying9]
      simp [Conv.bytesToString, loadCells, loadCellsFrom]
      rfl
    · exact run_convert_bytes_back (P := Tryz.prog) w 23 9 5 a cap [] Tryz.underlying23 Tryz.underlying5 Tryz.underlying9 (fun j hj => by simp at hj)
  · refine run_convert_bytes_back (P := Tryz.prog) w 23 9 5 ⟨b, off, none⟩ cap L Tryz.underlying23 Tryz.underlying5 Tryz.underlying9 ?_
    intro j hlt
    rw [Go.WideShapes.add_plain]
    exact hj j hlt
/-- A text that was read, or not. -/
structure TxR (L : List UInt8) (bad : Bool) (t : ByteArray) (L' : List UInt8) (bad' : Bool) : Prop where
  le : L'.length ≤ L.length
  sz : t.size ≤ 1048576 ∧ t.size ≤ L.length
  more : bad = true → bad' = true
  yes : bad = false → ∀ t0 r, txtD L = some (t0, r) → t = t0 ∧ L' = r ∧ bad' = false
  no : bad = false → txtD L = none → bad' = true
set_option maxRecDepth 100000 in
set_option maxHeartbeats 2000000 in
theorem rdtext_call (w : World) (rb : Nat) (L : List UInt8) (bad : Bool) (h : RD 43 w rb L bad) :
    Calls Tryz.prog 44 #[.pointer (some ⟨rb, 0, none⟩)] w fun e w' => ∃ t L' bad', e = .returned (.string t) ∧ TxR L bad t L' bad' ∧ RD 43 w' rb L' bad' ∧ Keep [rb] w w' := by
  have hc := count_call w rb L bad 1048576 h (by omega)
  obtain ⟨⟨n, L1, b1⟩, hcs⟩ : ∃ c, cntS 1048576 L bad = c := ⟨_, rfl⟩
  rw [hcs] at hc
  dsimp only at hc
  have hn : n ≤ 1048576 := by
    unfold cntS at hcs
    split at hcs
    · split at hcs
      · injection hcs with e1 e2; omega
      · injection hcs with e1 e2; omega
    · injection hcs with e1 e2; omega
  have hl1 : L1.length ≤ L.length := by
    unfold cntS at hcs
    split at hcs
    · split at hcs
      · injection hcs with e1 e2; injection e2 with e3 e4; rw [← e3, List.length_drop]; omega
      · injection hcs with e1 e2; injection e2 with e3 e4; rw [← e3, List.length_drop]; omega
    · injection hcs with e1 e2; injection e2 with e3 e4; rw [← e3]; exact Nat.le_refl _
  have hTx : ∀ L' b' t, (n ≤ L1.length → L' = L1.drop n ∧ b' = b1 ∧ (b1 = false → t = tx (L1.take n)) ∧ (b1 = true → t = ByteArray.empty)) → (¬ n ≤ L1.length → L' = L1 ∧ b' = true ∧ t = ByteArray.empty) → TxR L bad t L' b' := by
    intro L' b' t hy hno
    unfold cntS at hcs
    have hts : t.size ≤ 1048576 ∧ t.size ≤ L.length := by
      by_cases h1 : n ≤ L1.length
      · obtain ⟨-, -, h2, h3⟩ := hy h1
        cases b1
        · rw [h2 rfl, tx_size, List.length_take]; omega
        · rw [h3 rfl]; exact ⟨Nat.zero_le _, Nat.zero_le _⟩
      · rw [(hno h1).2.2]; exact ⟨Nat.zero_le _, Nat.zero_le _⟩
    have hll : L'.length ≤ L.length := by
      by_cases h1 : n ≤ L1.length
      · rw [(hy h1).1, List.length_drop]; omega
      · rw [(hno h1).1]; exact hl1
    unfold takeB at *
    by_cases h4 : 4 ≤ L.length
    · rw [if_pos h4] at hcs
      by_cases hb : 1048576 < beN (L.take 4)
      · rw [if_pos hb] at hcs
        injection hcs with e1 e2; injection e2 with e3 e4
        subst e1 e3 e4
        have ht : txtD L = none := by
          unfold txtD takeB
          rw [if_pos h4]
          simp only [Option.bind_some]
          rw [if_neg (by omega)]
        obtain ⟨h5, h6, -, h7⟩ := hy (Nat.zero_le _)
        exact ⟨hll, hts, fun _ => h6, fun _ t0 r e => by (rw [ht] at e; cases e), fun _ _ => h6⟩
      · rw [if_neg hb] at hcs
        injection hcs with e1 e2; injection e2 with e3 e4
        subst e1 e3 e4
        have ht : txtD L = (takeB (beN (L.take 4)) (L.drop 4)).bind fun q => some (tx q.1, q.2) := by
          unfold txtD
          rw [show takeB 4 L = some (L.take 4, L.drop 4) from if_pos h4]
          simp only [Option.bind_some]
          rw [if_pos (by omega)]
        unfold takeB at ht
        by_cases h1 : beN (L.take 4) ≤ (L.drop 4).length
        · rw [if_pos h1] at ht
          obtain ⟨h5, h6, h7, h8⟩ := hy h1
          refine ⟨hll, hts, fun e => by rw [h6, e], fun hbf t0 r e => ?_, fun _ e => by (rw [ht] at e; cases e)⟩
          rw [ht] at e
          simp only [Option.bind_some, Option.some.injEq, Prod.mk.injEq] at e
          exact ⟨by rw [h7 hbf]; exact e.1, by rw [h5]; exact e.2, by rw [h6, hbf]⟩
        · rw [if_neg h1] at ht
          obtain ⟨h5, h6, h7⟩ := hno h1
          exact ⟨hll, hts, fun _ => h6, fun _ t0 r e => by (rw [ht] at e; cases e), fun _ _ => h6⟩
    · rw [if_neg h4] at hcs
      injection hcs with e1 e2; injection e2 with e3 e4
      subst e1 e3 e4
      have ht : txtD L = none := by
        unfold txtD
        rw [show takeB 4 L = none from if_neg h4]
        rfl
      obtain ⟨h5, h6, -, h7⟩ := hy (Nat.zero_le _)
      exact ⟨hll, hts, fun _ => h6, fun _ t0 r e => by (rw [ht] at e; cases e), fun _ _ => h6⟩
  replace hTx := Lib.hid hTx
  replace hc := Lib.hid hc
  clear hcs h hl1
  go_enter Tryz.func44, Tryz.ntmps44
  go_wp2_with fail
  refine (hc.out).mono ?_
  rintro e w1 ⟨rfl, hr, hk⟩
  have ht := Lib.hid (take_call w1 rb L1 b1 n hr hn)
  replace hk := Lib.hid hk
  clear hr hc
  go_wp2_with fail
  refine (ht.out).mono ?_
  rintro e w2 ⟨v, rfl, htk⟩
  obtain ⟨hv, hr2, hk2⟩ := htk
  clear ht
  have hk3 := Lib.hid (hk.out.trans hk2 (fun x hx _ => hx))
  have hcv := conv_bytes hv
  clear hk hk2 hv
  by_cases hle : n ≤ L1.length
  · rw [if_pos hle] at hcv
    simp only [if_pos hle] at hr2
    obtain ⟨ao, cap, hq, hbb⟩ := hr2.form
    have x1 := hq.cell 1 rfl
    replace hr2 := Lib.hid hr2
    clear hq hbb
    cases b1
    · go_wp2
      go_ret
      exact ⟨_, _, _, rfl, hTx.out _ _ _ (fun _ => ⟨rfl, rfl, fun _ => rfl, fun h => by cases h⟩) (fun h => absurd hle h), hr2.out, hk3.out⟩
    · go_wp2
      go_ret
      exact ⟨_, _, _, rfl, hTx.out _ _ _ (fun _ => ⟨rfl, rfl, fun h => (by cases h), fun _ => rfl⟩) (fun h => absurd hle h), hr2.out, hk3.out⟩
  · simp only [if_neg hle] at hr2
    obtain ⟨ao, cap, hq, hbb⟩ := hr2.form
    have x1 := hq.cell 1 rfl
    replace hr2 := Lib.hid hr2
    clear hq hbb hcv
    go_wp2
    go_ret
    exact ⟨_, _, _, rfl, hTx.out _ _ _ (fun h => absurd h hle) (fun _ => ⟨rfl, rfl, rfl⟩), hr2.out, hk3.out⟩
end Go.Proofs.YtjncjcellpbhcaaGreatDoor.val

/- Plain: what is read, or not, as a value; the reader's first byte. -/
namespace Go.Proofs.YtjncjcellpbhcaaGreatDoor.val
open Go.ChangeShapes Go.WideShapes Go.ChangeAt Go.RowKit kit dec
set_option linter.unusedVariables false
set_option linter.unusedSimpArgs false
/-- A value that was read, so many lists deep at most, or not. -/
structure VlR (m : Nat) (L : List UInt8) (bad : Bool) (x : V) (L' : List UInt8) (bad' : Bool) : Prop where
  le : L'.length ≤ L.length
  more : bad = true → bad' = true
  yes : bad = false → ∀ v r, valD m L = some (v, r) → x = v ∧ L' = r ∧ bad' = false
  no : bad = false → valD m L = none → bad' = true ∨ m = 0 ∨ chkV (m - 1) x = false
theorem listD_none {f : List UInt8 → Option (V × List UInt8)} {L : List UInt8} {i n : Nat} (h : listD f i L = none) (hn : i ≤ n) : listD f n L = none := by
  induction n with
  | zero => obtain rfl : i = 0 := by omega
            exact h
  | succ n ih =>
    by_cases e : i = n + 1
    · rw [← e]; exact h
    · rw [listD, ih (by omega)]; rfl
/-- So many values read, or one of them not. -/
structure LsR (m i : Nat) (L : List UInt8) (xs : List V) (L' : List UInt8) (bad' : Bool) : Prop where
  len : xs.length ≤ i
  le : L'.length ≤ L.length
  or : (bad' = false ∧ listD (valD m) i L = some (xs, L')) ∨ (listD (valD m) i L = none ∧ (bad' = true ∨ ∃ x ∈ xs, m = 0 ∨ chkV (m - 1) x = false))
theorem LsR.start (m : Nat) (L : List UInt8) (bad : Bool) (hb : bad = false) : LsR m 0 L [] L bad := ⟨Nat.le_refl _, Nat.le_refl _, .inl ⟨hb, rfl⟩⟩
theorem LsR.step {m i : Nat} {L : List UInt8} {xs : List V} {L1 : List UInt8} (h : LsR m i L xs L1 false) {x : V} {L2 : List UInt8} {b2 : Bool} (k : VlR m L1 false x L2 b2) : LsR m (i + 1) L (xs ++ [x]) L2 b2 := by
  refine ⟨by rw [List.length_append]; simp; exact h.len, Nat.le_trans k.le h.le, ?_⟩
  rcases h.or with ⟨_, h1⟩ | ⟨h1, h2⟩
  · rw [listD, h1]
    simp only [Option.bind_some]
    cases hv : valD m L1 with
    | none =>
      right
      refine ⟨rfl, ?_⟩
      rcases k.no rfl hv with h3 | h3
      · exact .inl h3
      · exact .inr ⟨x, by simp, h3⟩
    | some p =>
      obtain ⟨v, r⟩ := p
      obtain ⟨rfl, rfl, h5⟩ := k.yes rfl v r hv
      left
      exact ⟨h5, rfl⟩
  · right
    refine ⟨listD_none h1 (Nat.le_succ _), ?_⟩
    rcases h2 with h2 | ⟨y, hy, h3⟩
    · cases h2
    · exact .inr ⟨y, by simp [hy], h3⟩
theorem chk_list {m : Nat} {xs : List V} {x : V} (hx : x ∈ xs) (h : m = 0 ∨ chkV (m - 1) x = false) : chkV m (.mk 5 false 0 ByteArray.empty ByteArray.empty xs) = false := by
  cases m with
  | zero => unfold chkV chkW; simp
  | succ m =>
    have h2 : chkV m x = false := by
      rcases h with h | h
      · omega
      · exact h
    unfold chkV chkW
    simp
    intro _ _
    exact ⟨x, hx, h2⟩
/-- A list behind its kind. -/
theorem bodyD_list (f : List UInt8 → Option (V × List UInt8)) (r : List UInt8) : bodyD f 5 r = (takeB 4 r).bind fun p => if beN p.1 ≤ 4096 then (listD f (beN p.1) p.2).bind fun q => some (.mk 5 false 0 ByteArray.empty ByteArray.empty q.1, q.2) else none := by
  unfold bodyD
  rw [if_neg (by decide), if_neg (by decide), if_neg (by decide), if_neg (by decide), if_neg (by decide), if_pos rfl]
theorem valD_cons (m : Nat) (c : UInt8) (r : List UInt8) : valD (m + 1) (c :: r) = bodyD (valD m) c.toNat r := by
  rw [valD]
  unfold takeB
  rw [if_pos (by simp)]
  simp [beN]
theorem valD_nil (m : Nat) : valD m [] = none := by
  cases m with
  | zero => rfl
  | succ m => rw [valD]; rfl
/-- What a list's end is. -/
theorem VlR.list {m n : Nat} {r L2 : List UInt8} {xs : List V} {L' : List UInt8} {b' : Bool} (hlen : L2.length ≤ r.length) (hc : takeB 4 r = some (r.take 4, L2)) (hn : beN (r.take 4) = n) (hle : n ≤ 4096) {i : Nat} (h : LsR m i L2 xs L' b') (hi : i = n ∨ (i ≤ n ∧ b' = true)) :
    VlR (m + 1) (5 :: r) false (.mk 5 false 0 ByteArray.empty ByteArray.empty xs) L' b' := by
  have hv : valD (m + 1) (5 :: r) = (listD (valD m) n L2).bind fun q => some (.mk 5 false 0 ByteArray.empty ByteArray.empty q.1, q.2) := by
    rw [valD_cons, show (5 : UInt8).toNat = 5 from rfl, bodyD_list, hc]
    simp only [Option.bind_some]
    rw [hn, if_pos hle]
  refine ⟨Nat.le_trans h.le (Nat.le_trans hlen (by simp)), (fun e => by cases e), fun _ v s e => ?_, fun _ e => ?_⟩
  · rw [hv] at e
    rcases h.or with ⟨h1, h2⟩ | ⟨h1, h2⟩
    · obtain rfl : i = n := by
        rcases hi with h | h
        · exact h
        · rw [h.2] at h1; cases h1
      rw [h2] at e
      simp only [Option.bind_some, Option.some.injEq, Prod.mk.injEq] at e
      exact ⟨e.1, e.2, h1⟩
    · rw [listD_none h1 (by omega)] at e
      cases e
  · rw [hv] at e
    rcases h.or with ⟨h1, h2⟩ | ⟨h1, h2⟩
    · obtain rfl : i = n := by
        rcases hi with h | h
        · exact h
        · rw [h.2] at h1; cases h1
      rw [h2] at e
      simp at e
    · rcases h2 with h2 | ⟨x, hx, h3⟩
      · exact .inl h2
      · exact .inr (.inr (chk_list hx h3))
end Go.Proofs.YtjncjcellpbhcaaGreatDoor.val
