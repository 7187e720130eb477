/- Contract of decimal.Sum. -/
import Derived.Test.YtnnojhgnfmieoaaGreatDoorDecNeg
namespace Go.Proofs.YtnnojhgnfmieoaaGreatDoor.dec
open Go.ChangeShapes Go.WideShapes Go.ChangeAt Go.RowKit kit
set_option linter.unusedVariables false
set_option linter.unusedSimpArgs false
/-- The sum of the first k. -/
def sumZ (ss : List ByteArray) (k : Nat) : Int := ((ss.take k).map fun s => zof s.data.toList).sum
def allC (ss : List ByteArray) (k : Nat) : Bool := (ss.take k).all fun s => chk s.data.toList
theorem sumZ_succ (ss : List ByteArray) (k : Nat) (h : k < ss.length) : sumZ ss (k + 1) = sumZ ss k + zof (ss.getD k ByteArray.empty).data.toList := by
  unfold sumZ
  rw [List.take_succ_eq_append_getElem h, List.map_append, List.sum_append, List.getD_eq_getElem?_getD, List.getElem?_eq_getElem h]
  simp
theorem allC_succ (ss : List ByteArray) (k : Nat) (h : k < ss.length) : allC ss (k + 1) = (allC ss k && chk (ss.getD k ByteArray.empty).data.toList) := by
  unfold allC
  rw [List.take_succ_eq_append_getElem h, List.all_append, List.getD_eq_getElem?_getD, List.getElem?_eq_getElem h]
  simp
theorem allC_le (ss : List ByteArray) (k : Nat) (h : k < ss.length) (hc : chk (ss.getD k ByteArray.empty).data.toList = false) : allC ss ss.length = false := by
  unfold allC
  rw [List.take_length, List.all_eq_false]
  refine ⟨ss[k], List.getElem_mem h, ?_⟩
  rw [List.getD_eq_getElem?_getD, List.getElem?_eq_getElem h] at hc
  simpa using hc
def sumR (ss : List ByteArray) : List UInt8 × Int := if allC ss ss.length then txt (sumZ ss ss.length) else ([], 1)
/-- A sum so far: its sign and amount. -/
def SN (ss : List ByteArray) (k : Nat) (s : Bool) (N : Nat) : Prop := signed s N = sumZ ss k ∧ N ≤ k * top
theorem SN_lt {ss : List ByteArray} {k : Nat} {s : Bool} {N : Nat} (h : SN ss k s N) (hk : k ≤ 9223372036854775807) : N < B9 ^ 16 := by
  have h1 := h.2
  have h2 : 9223372036854775808 * top ≤ B9 ^ 16 := by unfold top B9; decide
  have h3 : k * top ≤ 9223372036854775807 * top := Nat.mul_le_mul_right _ hk
  have h4 : 0 < top := by unfold top; decide
  generalize B9 ^ 16 = X at *
  omega
theorem SN_step {ss : List ByteArray} {k : Nat} {s : Bool} {N : Nat} (h : SN ss k s N) (hk : k < ss.length) (t : Bool) (M : Nat) (ht : decide (zof (ss.getD k ByteArray.empty).data.toList < 0) = t) (hM : (zof (ss.getD k ByteArray.empty).data.toList).natAbs = M) :
    SN ss (k + 1) (plusP s N t M).1 (plusP s N t M).2 := by
  have hz := zof_small (ss.getD k ByteArray.empty).data.toList
  have hsum := sumZ_succ ss k hk
  have hsg := plusP_signed s N t M
  rw [h.1, ← ht, ← hM, signed_self] at hsg
  subst ht hM
  refine ⟨hsg.trans hsum.symm, ?_⟩
  have hle : (plusP s N (decide (zof (ss.getD k ByteArray.empty).data.toList < 0)) (zof (ss.getD k ByteArray.empty).data.toList).natAbs).2 ≤ N + (zof (ss.getD k ByteArray.empty).data.toList).natAbs := by
    unfold plusP
    split
    · exact Nat.le_refl _
    · split
      · show _ - _ ≤ _; omega
      · show _ - _ ≤ _; omega
  have h1 := h.2
  unfold small at hz
  rw [Nat.succ_mul]
  omega
set_option maxHeartbeats 4000000 in
set_option maxRecDepth 100000 in
theorem sum_gen (ao : Option Addr) (cap : Nat) (ss : List ByteArray) (w : World) (hE : Env w) (hlen : ss.length ≤ 9223372036854775807)
    (hc : ∀ j, j < ss.length → ∃ b off, ao = some ⟨b, off, none⟩ ∧ b < w.heap.size ∧ w.cell? ⟨b, off + j, none⟩ = some (.string (ss.getD j ByteArray.empty))) :
    Calls Tryz.prog 8 #[.slice ao ss.length cap] w fun e w' => e = .returned (rv (sumR ss)) ∧ Below w.heap.size w w' := by
  have hfin : ∀ s N, SN ss ss.length s N → allC ss ss.length = true → toldP s N 20 = sumR ss := by
    intro s N h ha
    unfold sumR
    rw [if_pos ha, toldP_20, h.1]
  have hbad : allC ss ss.length = false → sumR ss = ([], 1) := by
    intro ha; unfold sumR; rw [ha]; rfl
  generalize sumR ss = R at *
  replace hfin := Lib.hid hfin
  replace hbad := Lib.hid hbad
  replace hc := Lib.hid hc
  replace hE := Lib.hid hE
  go_enter Tryz.func8, Tryz.ntmps8
  go_wp2
  rw [← nv_falses]
  have b0 : Blk (w.alloc (.cells (nv false fun _ => 0) 42)) w.heap.size (nv false fun _ => 0) 42 := Blk.new _ _ _
  have k0 : Keep [] w (w.alloc (.cells (nv false fun _ => 0) 42)) := (Keep.refl _ _).alloc _
  generalize w.alloc (.cells (nv false fun _ => 0) 42) = W at *
  go_loopw [11] (fun vi wr => ∃ (k : Nat) (s : Bool) (N : Nat), k ≤ ss.length ∧ vi = .int .i64 k ∧ Hid (SN ss k s N) ∧ Hid (allC ss k = true) ∧ Keep [] w wr ∧ Blk wr w.heap.size (nv s (wd N)) 42) (fun vi _ => ss.length - (intOf vi).toNat)
  case atStart => exact ⟨0, false, 0, by omega, rfl, ⟨by simp [signed, sumZ], by omega⟩, rfl, k0, by rw [wd_zero]; exact b0⟩
  case round =>
    clear b0 k0
    obtain ⟨k, s, N, hk, rfl, hsn, hall, hkeep, hblk⟩ := hrel
    have hNB := SN_lt hsn.out (by omega)
    by_cases hlt : k < ss.length
    · obtain ⟨b, off, rfl, hb, hcell0⟩ := hc.out k hlt
      have hcell : wr.cell? ⟨b, off + k, none⟩ = some (.string (ss.getD k ByteArray.empty)) := (hkeep.below.cell (p := ⟨b, off + k, none⟩) hb).trans hcell0
      clear hcell0 hc
      have hstep := fun t M => SN_step hsn.out hlt t M
      have hac := allC_succ ss k hlt
      have hbd := allC_le ss k hlt
      generalize ss.getD k ByteArray.empty = A at *
      have hl := fun w hE => load_any A w hE
      rw [num_eq] at hl
      have hM := small_lt (zof_small A.data.toList)
      obtain ⟨t, ht⟩ : ∃ t, decide (zof A.data.toList < 0) = t := ⟨_, rfl⟩
      obtain ⟨M, hMM⟩ : ∃ M, (zof A.data.toList).natAbs = M := ⟨_, rfl⟩
      have hst := hstep t M ht hMM
      rw [ht, hMM] at hl
      rw [hMM] at hM
      have hEr := hE.out.below hkeep.below
      obtain ⟨c, hcc⟩ : ∃ c, chk A.data.toList = c := ⟨_, rfl⟩
      rw [hcc] at hl hac hbd
      clear hstep ht hMM hcc
      obtain ⟨f, hf⟩ : ∃ f, wd N = f := ⟨_, rfl⟩
      obtain ⟨g, hg⟩ : ∃ g, wd M = g := ⟨_, rfl⟩
      rw [hf] at hblk
      rw [hg] at hl
      replace hf := Lib.hid hf
      replace hg := Lib.hid hg
      replace hl := Lib.hid hl
      replace hEr := Lib.hid hEr
      replace hac := Lib.hid hac
      have hbR : c = false → R = ([], 1) := fun h => hbad.out (hbd h)
      clear hbd
      replace hbR := Lib.hid hbR
      replace hst := Lib.hid hst
      replace hM := Lib.hid hM
      replace hNB := Lib.hid hNB
      replace hkeep := Lib.hid hkeep
      replace hblk := Lib.hid hblk
      go_wp2_with fail
      refine (hl.out _ hEr.out).mono ?_
      rintro e w1 ⟨rfl, hb1⟩
      have k1 : Keep [] w w1 := hkeep.out.trans (Keep.ofBelow hb1) (by simp)
      have b1 : Blk w1 w.heap.size (nv s f) 42 := hblk.out.keep (Keep.ofBelow hb1) (by simp)
      have q0 : Blk (w1.alloc (.cells (nv false fun _ => 0) 42)) w1.heap.size (nv false fun _ => 0) 42 := Blk.new _ _ _
      have hs1 : w.heap.size < w1.heap.size := b1.lt
      have k2 : Keep [] w ((w1.alloc (.cells (nv false fun _ => 0) 42)).setRow w1.heap.size (nv t g)) := (k1.alloc _).setRow (by omega) _
      have b2 : Blk ((w1.alloc (.cells (nv false fun _ => 0) 42)).setRow w1.heap.size (nv t g)) w.heap.size (nv s f) 42 := (b1.alloc _).setRow_other (by omega)
      have b3 : Blk ((w1.alloc (.cells (nv false fun _ => 0) 42)).setRow w1.heap.size (nv t g)) w1.heap.size (nv t g) 42 := q0.setRow
      rw [nv_falses] at q0 k2 b2 b3
      clear hb1 k1 b1
      replace q0 := Lib.hid q0
      replace k2 := Lib.hid k2
      replace b2 := Lib.hid b2
      replace b3 := Lib.hid b3
      cases c
      · have hR1 := hbR.out rfl
        replace hR1 := Lib.hid hR1
        go_wp2_with (first | (with_reducible refine wpList_store_rowTo rfl 42 (.tmp 7) (.tmp 18) rfl rfl w1.heap.size (nv t g) rfl rfl 42 _ (Blk.eq q0.out) (by rw [nv_size]; exact Tryz.infoN) (zerosTo t g) (nv_one _ _) ?_))
        go_ret2
        exact ⟨by rw [hR1.out]; rfl, k2.out.below⟩
      · go_upto_region 8 with (first | (with_reducible refine wpList_store_rowTo rfl 42 (.tmp 7) (.tmp 18) rfl rfl w1.heap.size (nv t g) rfl rfl 42 _ (Blk.eq q0.out) (by rw [nv_size]; exact Tryz.infoN) (zerosTo t g) (nv_one _ _) ?_))
        generalize (w1.alloc (.cells #[.bool false, .int .u64 0, .int .u64 0, .int .u64 0, .int .u64 0, .int .u64 0, .int .u64 0, .int .u64 0, .int .u64 0, .int .u64 0, .int .u64 0, .int .u64 0, .int .u64 0, .int .u64 0, .int .u64 0, .int .u64 0, .int .u64 0] 42)).setRow w1.heap.size (nv t g) = W2 at *
        clear q0
        go_wp2_with (first | (with_reducible refine wpList_load_row rfl 42 (.tmp 4) rfl (w.heap.size) rfl 42 _ (0, 0) _ (Blk.eq b2.out) Tryz.underlying42 rfl (by rw [nv_size]; exact Tryz.infoN) ?_) | (with_reducible refine wpList_load_row rfl 42 (.tmp 7) rfl (w1.heap.size) rfl 42 _ (0, 0) _ (Blk.eq b3.out) Tryz.underlying42 rfl (by rw [nv_size]; exact Tryz.infoN) ?_))
        rw [← hf.out, ← hg.out]
        refine (plus_any s t N M _ hNB.out hM.out).mono ?_
        rintro e w3 ⟨rfl, hb3⟩
        have k3 : Keep [] w w3 := k2.out.trans (Keep.ofBelow hb3) (by simp)
        have b4 : Blk w3 w.heap.size (nv s f) 42 := b2.out.keep (Keep.ofBelow hb3) (by simp)
        obtain ⟨⟨s', N'⟩, hp⟩ : ∃ p, plusP s N t M = p := ⟨_, rfl⟩
        rw [hp]
        have hst' := hst.out
        rw [hp] at hst'
        dsimp only at hst' ⊢
        clear hp hb3
        replace hst' := Lib.hid hst'
        replace k3 := Lib.hid k3
        replace b4 := Lib.hid b4
        go_wp2_with (first | (with_reducible refine wpList_store_row rfl 42 (.tmp 4) (.tmp 24) rfl w.heap.size (nv s' (wd N')) rfl rfl 42 _ (Blk.eq b4.out) (by rw [nv_size]; exact Tryz.infoN) (by rw [nv_size, nv_size]) (nv_one _ _) ?_))
        go_roundw
        case rel => exact ⟨k + 1, s', N', by omega, by go_num, hst'.out, by show _ = _; rw [hac.out, hall.out]; rfl, k3.out.setRow (by omega) _, b4.out.setRow⟩
        case measure => simp [intOf]; omega
    · obtain rfl : k = ss.length := by omega
      have hR := hfin.out s N hsn.out hall.out
      have hEr := hE.out.below hkeep.below
      obtain ⟨f, hf⟩ : ∃ f, wd N = f := ⟨_, rfl⟩
      rw [hf] at hblk
      replace hf := Lib.hid hf
      replace hR := Lib.hid hR
      replace hEr := Lib.hid hEr
      replace hkeep := Lib.hid hkeep
      replace hblk := Lib.hid hblk
      replace hNB := Lib.hid hNB
      go_wp2_with (first | (with_reducible refine wpList_load_row rfl 42 (.tmp 4) rfl (w.heap.size) rfl 42 _ (0, 0) _ (Blk.eq hblk.out) Tryz.underlying42 rfl (by rw [nv_size]; exact Tryz.infoN) ?_))
      rw [← hf.out]
      refine (text_any s N _ hEr.out hNB.out).mono ?_
      rintro e w3 ⟨rfl, hb3⟩
      rw [hR.out]
      go_wp2
      go_ret2
      exact ⟨rfl, hkeep.out.below.trans (hb3.mono hkeep.out.size)⟩
theorem sum_any (b off cap : Nat) (ss : List ByteArray) (w : World) (hE : Env w) (hlen : ss.length ≤ 9223372036854775807) (hb : b < w.heap.size)
    (hc : ∀ j, j < ss.length → w.cell? ⟨b, off + j, none⟩ = some (.string (ss.getD j ByteArray.empty))) :
    Calls Tryz.prog 8 #[.slice (some ⟨b, off, none⟩) ss.length cap] w fun e w' => e = .returned (rv (sumR ss)) ∧ Below w.heap.size w w' :=
  sum_gen (some ⟨b, off, none⟩) cap ss w hE hlen fun j hj => ⟨b, off, rfl, hb, hc j hj⟩
end Go.Proofs.YtnnojhgnfmieoaaGreatDoor.dec
