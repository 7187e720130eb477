/- Any values' bytes, or the refusal: as the reference tells: for every list of values, not above the bound, that may be read, where the listed variables of the library hold what the program's text lays. -/
import Derived.Test.YthecgifgjagmaaaGreatDoorVWakes
import Derived.Test.YthecgifgjagmaaaGreatDoorRMay2
import Derived.Test.YthecgifgjagmaaaGreatDoorVRBytes2
import Derived.IntWalk
import Derived.Deep.DeepCutAuto
namespace Go.Proofs.YthecgifgjagmaaaGreatDoor.val
open Go.ChangeShapes Go.WideShapes Go.ChangeAt Go.RowKit kit dec
set_option linter.unusedVariables false
set_option linter.unusedSimpArgs false
mutual
theorem encV_le : ∀ v, (encV v).length ≤ 9 * wtV v
  | .mk k b n t x l => by
    have hl := encL_le l
    rw [encV_mk, wtV, List.length_cons]
    have h1 : (txL t).length = 4 + t.size := by unfold txL; rw [List.length_append, bigL_len]; simp
    have h2 : (txL x).length = 4 + x.size := by unfold txL; rw [List.length_append, bigL_len]; simp
    split
    · simp; omega
    split
    · rw [bigL_len]; omega
    split
    · rw [h1]; omega
    split
    · rw [List.length_append, h1, h2]; omega
    split
    · rw [List.length_append, bigL_len]; omega
    · simp; omega
theorem encL_le : ∀ l, (encL l).length ≤ 9 * wtL l
  | [] => by simp [encL]
  | v :: r => by rw [encL, wtL, List.length_append]; have := encV_le v; have := encL_le r; omega
end
set_option maxRecDepth 100000 in
set_option maxHeartbeats 1000000 in
theorem rencode_call (N : Nat) (hN : N ≤ 1048576) (w : World) (k : Int) (b : Bool) (n : Int) (hk : In64 k) (hn : In64 n) (t x : ByteArray) (s : Value) (l : List V) (ha : LA w N s l) (ht : t.size ≤ N) (hx : x.size ≤ N) (hlen : (encV (.mk k b n t x l)).length ≤ 10000000) :
    Calls Tryz.prog 21 #[agg6 k b n t x s] w fun e w' => ∃ v', e = .returned (.tuple #[v', .int .i64 (if mayV (.mk k b n t x l) then 0 else 1)]) ∧ BytesAt w' v' (encR (.mk k b n t x l)) ∧ Below w.heap.size w w' := by
  have hal : Below w.heap.size w (w.alloc (.cells #[.int .i64 k, .bool b, .int .i64 n, .string t, .string x, s] 26)) := (Below.refl _ _).alloc (Nat.le_refl _) _
  have hblk := Blk.new w #[.int .i64 k, .bool b, .int .i64 n, .string t, .string x, s] 26
  have hck := rMay_call N hN _ k b n t x s l (ha.stay hal) ht hx
  have hby : ∀ W, Below w.heap.size w W → Calls Tryz.prog 50 #[agg6 k b n t x s] W fun e w' => ∃ v', e = .returned v' ∧ BW W W.heap.size v' (encV (.mk k b n t x l)) w' :=
    fun W hW => rbytes_all N (by omega) (SizeOf.sizeOf l + 1) W k b n hk hn t x s l (Nat.lt_succ_self _) (ha.stay hW) hlen
  unfold encR
  generalize mayV (.mk k b n t x l) = p at *
  generalize encV (.mk k b n t x l) = E at *
  unfold agg6 at hck hby ⊢
  replace hck := Lib.hid hck
  replace hby := Lib.hid hby
  clear ha
  go_enter Tryz.func21, Tryz.ntmps21
  go_wp2_with fail
  refine (hck.out).mono ?_
  rintro e w3 ⟨rfl, hb3⟩
  have hal3 := hal.trans (hb3.mono hal.size)
  have hblk3 := hblk.keep (Keep.ofBelow hb3) (by simp)
  clear hck hb3 hblk hal
  have x0 := hblk3.cell 0 rfl
  have x1 := hblk3.cell 1 rfl
  have x2c := hblk3.cell 2 rfl
  have x3 := hblk3.cell 3 rfl
  have x4 := hblk3.cell 4 rfl
  have x5 := hblk3.cell 5 rfl
  clear hblk3
  cases p
  · replace hal3 := Lib.hid hal3
    go_wp2
    go_ret2
    exact ⟨_, rfl, .inl ⟨rfl, rfl⟩, hal3.out⟩
  · go_wp2_with fail
    refine (hby.out _ hal3).mono ?_
    rintro e w4 ⟨v4, rfl, hbw4⟩
    have hr4 := Lib.hid hbw4.reads
    have hal4 := Lib.hid (hal3.trans (hbw4.below.mono hal3.size))
    clear hbw4 hby hal3
    go_wp2
    go_ret2
    exact ⟨_, rfl, hr4.out, hal4.out⟩
/-- The world of a law at a round's head. -/
structure LE (W w : World) (p : Array Value) : Prop where
  below : Below W.heap.size W w
  env : Env w
  bp : Blk w W.heap.size p 37
theorem LE.on {W w w' : World} {p : Array Value} (h : LE W w p) (hb : Below w.heap.size w w') : LE W w' p :=
  ⟨h.below.trans (hb.mono h.below.size), h.env.below hb, h.bp.keep (Keep.ofBelow hb) (by simp)⟩
set_option maxRecDepth 100000 in
set_option maxHeartbeats 8000000 in
theorem venc_any (N : Nat) (hN0 : N ≤ 1048576) (ao : Option Addr) (cap : Nat) (l : List V) (lang : Int) (W : World) (hE : Env W) (hl : l.length ≤ N) (hs : wtL l ≤ 1048576) (ha : ∀ j (hj : j < l.length), EA W N ao (6 * j) l[j]) :
    Calls Tryz.prog 5 #[.agg #[.slice ao l.length cap, .int .i64 lang]] W fun e w' => e = .returned (.bool true) ∧ Below W.heap.size W w' := by
  have hN : N ≤ 9223372036854775807 := by omega
  have hal : Below W.heap.size W (W.alloc (.cells #[.slice ao l.length cap, .int .i64 lang] 37)) := (Below.refl _ _).alloc (Nat.le_refl _) _
  have hh0 : LE W (W.alloc (.cells #[.slice ao l.length cap, .int .i64 lang] 37)) #[.slice ao l.length cap, .int .i64 lang] := ⟨hal, hE.below hal, Blk.new _ _ _⟩
  have hlg := light_call N hN _ (.slice ao l.length cap) l ((LA.mk ao cap l hl ha).stay hal) (by have := sizeL_wt l; omega)
  generalize lightL l = lg at *
  replace hlg := Lib.hid hlg
  replace ha := Lib.hid ha
  replace hh0 := Lib.hid hh0
  have hli : (l.length : Int) ≤ 9223372036854775807 := by omega
  clear hal hE
  go_enter Tryz.func5, Tryz.ntmps5
  go_wp2_with fail
  refine (hlg.out).mono ?_
  rintro e w1 ⟨rfl, hb1⟩
  have hh1 := Lib.hid (hh0.out.on hb1)
  clear hb1 hlg hh0
  cases lg
  case false =>
    have hwk := Lib.hid (wakes2_call w1 hh1.out.env)
    go_wp2_with fail
    refine (hwk.out).mono ?_
    rintro e w2 ⟨rfl, hb2⟩
    have hbe := Lib.hid (hh1.out.on hb2).below
    clear hb2 hwk hh1
    go_wp2
    go_ret
    exact ⟨rfl, hbe.out⟩
  go_wp2
  go_loopw [3] (fun i wr => (∃ j : Nat, j ≤ l.length + 1 ∧ i = .int .i64 (j : Int)) ∧ Hid (LE W wr #[.slice ao l.length cap, .int .i64 lang])) (fun i _ => l.length + 2 - (intOf i).toNat)
  case atStart => exact ⟨⟨0, by omega, rfl⟩, hh1⟩
  case round =>
    clear hh1
    obtain ⟨⟨j, hj, rfl⟩, hh⟩ := hrel
    obtain ⟨w0, rfl⟩ : ∃ w0 : World, w0 = wr := ⟨_, rfl⟩
    have p0 := hh.out.bp.cell 0 rfl
    obtain ⟨q, hqq⟩ : ∃ q : Bool, decide (j < l.length ∧ j < 30) = q := ⟨_, rfl⟩
    replace hqq := Lib.hid hqq
    go_upto_region 4 with (fail)
    go_cut [21] (fun v wx => v = .bool q ∧ wx = w0)
    case first =>
      as_aux_lemma =>
        by_cases h1 : j < l.length
        · have h1i : (j : Int) < (l.length : Int) := by omega
          by_cases h2 : j < 30
          · have h2i : (j : Int) < 30 := by omega
            obtain rfl : true = q := by rw [← hqq.out]; exact (decide_eq_true ⟨h1, h2⟩).symm
            go_wp2
            go_meet
            exact ⟨rfl, rfl⟩
          · have h2i : ¬ (j : Int) < 30 := by omega
            obtain rfl : false = q := by rw [← hqq.out]; exact (decide_eq_false (fun e => h2 e.2)).symm
            go_wp2
            go_meet
            exact ⟨by first | rfl | (simp; omega), rfl⟩
        · have h1i : ¬ (j : Int) < (l.length : Int) := by omega
          obtain rfl : false = q := by rw [← hqq.out]; exact (decide_eq_false (fun e => h1 e.1)).symm
          go_wp2
          go_meet
          exact ⟨rfl, rfl⟩
    obtain ⟨rfl, hwx⟩ := hcut
    rw [hwx]; clear hwx
    cases q
    case false =>
      have hwk := Lib.hid (wakes2_call w0 hh.out.env)
      clear p0 hqq
      go_wp2_with fail
      refine (hwk.out).mono ?_
      rintro e w2 ⟨rfl, hb2⟩
      have hbe := Lib.hid (hh.out.on hb2).below
      clear hb2 hwk hh
      go_wp2
      go_ret
      exact ⟨rfl, hbe.out⟩
    case true =>
      obtain ⟨hlt, _⟩ := of_decide_eq_true hqq.out
      clear hqq
      have i0 : (j : Int) < (l.length : Int) := by omega
      have el := (ha.out j hlt).stay hh.out.below
      have hwv := wtL_mem (List.getElem_mem hlt)
      rw [Nat.mul_comm 6 j] at el
      generalize l[j]'hlt = v at el hwv
      have hle := encV_le v
      cases el with
      | mk b off o k bo n t x l1 s hr hk hn ht hx hsl =>
        obtain ⟨aoE, capE, rfl⟩ := LA.form6 hsl
        obtain ⟨z0, z1, z2, z3, z4, z5⟩ := hr.six
        have henc := encode_call N hN w0 hh.out.env k bo n hk hn t x _ l1 hsl ht hx (by omega)
        have hren := fun (w : World) (h : Below w0.heap.size w0 w) => rencode_call N hN0 w k bo n hk hn t x _ l1 (hsl.stay h) ht hx (by omega)
        have hlen : (encR (.mk k bo n t x l1)).length ≤ 10000000 := by
          unfold encR
          split
          · omega
          · simp
        have hcells : ∀ w, Below w0.heap.size w0 w → Row6 w b (off + j * 6) k bo n t x (.slice aoE l1.length capE) := fun w h => hr.below h
        generalize encR (.mk k bo n t x l1) = EB at *
        obtain ⟨er, her⟩ : ∃ er : Int, (if mayV (.mk k bo n t x l1) = true then (0 : Int) else 1) = er := ⟨_, rfl⟩
        rw [her] at henc
        simp only [her] at hren
        unfold agg6 at henc hren
        replace henc := Lib.hid henc
        replace hren := Lib.hid hren
        replace hcells := Lib.hid hcells
        clear hsl hr her hle hwv
        go_wp2_with fail
        refine (henc.out).mono ?_
        rintro e w4 ⟨v4, rfl, hbw4⟩
        have hh4 := hh.out.on hbw4.below
        have hr4 := hbw4.reads
        have hb4 := hbw4.below
        clear hh hbw4 henc p0 z0 z1 z2 z3 z4 z5
        have p0 := hh4.bp.cell 0 rfl
        obtain ⟨z0, z1, z2, z3, z4, z5⟩ := (hcells.out w4 hb4).six
        go_wp2_with fail
        refine (hren.out w4 hb4).mono ?_
        rintro e w5 ⟨v5, rfl, hr5, hb5⟩
        have hh5 := hh4.on hb5
        have hr45 := hr4.below hb5
        have heq := eq_call w5 v4 v5 EB EB hr45 hr5 (by omega) (by omega)
        have hee : eqB EB EB = true := by unfold eqB; rw [decide_eq_true_iff]
        rw [hee] at heq
        replace heq := Lib.hid heq
        replace hh5 := Lib.hid hh5
        clear hee hren hr4 hr5 hr45 hb4 hb5 hh4 hcells p0 z0 z1 z2 z3 z4 z5
        go_wp2_with fail
        refine (heq.out).mono ?_
        rintro e w6 ⟨rfl, hb6⟩
        have hh6 := Lib.hid (hh5.out.on hb6)
        clear hh5 hb6 heq
        go_wp2
        go_roundw
        case rel => exact ⟨⟨j + 1, by omega, by go_num⟩, hh6⟩
        case measure => simp [intOf]; omega
end Go.Proofs.YthecgifgjagmaaaGreatDoor.val
