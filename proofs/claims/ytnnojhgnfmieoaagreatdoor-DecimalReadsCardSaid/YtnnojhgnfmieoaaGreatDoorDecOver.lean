/- Contract of decimal.over. -/
import Derived.Test.YtnnojhgnfmieoaaGreatDoorDecMul
import Derived.Deep.LoopGhost
import Derived.OwnWalk
import Derived.Lib.ConvBytes
import Derived.Laws.IdiomStrings
import Derived.Laws.OwnMore
import Derived.Maps.AppendAt
import Derived.Lib.SmallJoins
namespace Go.Proofs.YtnnojhgnfmieoaaGreatDoor.dec
open Go.ChangeShapes Go.WideShapes Go.ChangeAt Go.RowKit kit
set_option linter.unusedVariables false
set_option linter.unusedSimpArgs false
theorem Keep.grownBy {b : Nat} {w w' : World} (h : Keep [b] w w') : w.grownBy w' (some b) :=
  ⟨h.os, h.tape, h.output, h.size, fun k hk hne => h.block k hk (by simp; exact fun e => hne (by rw [e]))⟩
/-- What over has in hand: the divisor, the rest, ten, the digits, what is told so far. -/
structure OW (w : World) (bb M : Nat) (s : ByteArray) (R : Nat) (os : List UInt8) (W : World) : Prop where
  keep : Keep [] w W
  b3 : Blk W w.heap.size (wv (wd M)) 40
  b5 : Blk W (w.heap.size + 1) (wv (wd R)) 40
  b6 : Blk W (w.heap.size + 1 + 1) (wv (wd 10)) 40
  lt : bb < W.heap.size
  gt : w.heap.size + 1 + 1 + 1 < bb
  byt : ∀ j, j < s.size → W.cell? ⟨bb, j, none⟩ = some (.int .u8 (s.data.toList.getD j 0).toNat)
  own : W.ownsRow (w.heap.size + 1 + 1 + 1) 5 1 (.slice (some ⟨w.heap.size + 1 + 1 + 1, 0, none⟩) os.length s.size) os.length (Lib.byteCells os)
theorem OW.below {w W W' : World} {bb M R : Nat} {s : ByteArray} {os : List UInt8} (h : OW w bb M s R os W) (hb : Below W.heap.size W W') : OW w bb M s R os W' :=
  ⟨h.keep.trans (Keep.ofBelow hb) (by simp), h.b3.keep (Keep.ofBelow hb) (by simp), h.b5.keep (Keep.ofBelow hb) (by simp), h.b6.keep (Keep.ofBelow hb) (by simp), Nat.lt_of_lt_of_le h.lt hb.size, h.gt,
    fun j hj => (hb.cell (p := ⟨bb, j, none⟩) h.lt).trans (h.byt j hj), h.own.kept (row := none) (grown_of_below hb) (.inr (by simp [Value.ownBlock]))⟩
theorem OW.rest {w W W' : World} {bb M R R' : Nat} {s : ByteArray} {os : List UInt8} (h : OW w bb M s R os W) (hk : Keep [w.heap.size + 1] W W') (h5 : Blk W' (w.heap.size + 1) (wv (wd R')) 40) : OW w bb M s R' os W' :=
  ⟨h.keep.trans hk (by simp), h.b3.keep hk (by simp), h5, h.b6.keep hk (by simp), Nat.lt_of_lt_of_le h.lt hk.size, h.gt,
    fun j hj => by
      rw [← h.byt j hj]
      exact World.cell?_of_block (hk.block _ h.lt (by have := h.gt; simp; omega)),
    h.own.kept (row := some (w.heap.size + 1)) (Keep.grownBy hk) (.inr (by simp [Value.ownBlock]; omega))⟩
theorem OW.grow {w W W' : World} {bb M R : Nat} {s : ByteArray} {os os' : List UInt8} (h : OW w bb M s R os W) (hg : W.grownBy W' (some (w.heap.size + 1 + 1 + 1))) (ho : W'.ownsRow (w.heap.size + 1 + 1 + 1) 5 1 (.slice (some ⟨w.heap.size + 1 + 1 + 1, 0, none⟩) os'.length s.size) os'.length (Lib.byteCells os')) : OW w bb M s R os' W' := by
  have e : ∀ {b cs t}, Blk W b cs t → b ≠ w.heap.size + 1 + 1 + 1 → Blk W' b cs t := fun hb hn => (hg.block _ hb.lt (by simpa using hn)).trans hb
  exact ⟨h.keep.grown hg (by simp; omega), e h.b3 (by omega), e h.b5 (by omega), e h.b6 (by omega), Nat.lt_of_lt_of_le h.lt hg.size, h.gt, fun j hj => by
    rw [← h.byt j hj]
    exact World.cell?_of_block (hg.block _ h.lt (by have := h.gt; simp; omega)), ho⟩
theorem wd10 : wv (wd 10) = #[.int .u64 10, .int .u64 0, .int .u64 0, .int .u64 0, .int .u64 0, .int .u64 0, .int .u64 0, .int .u64 0, .int .u64 0, .int .u64 0, .int .u64 0, .int .u64 0, .int .u64 0, .int .u64 0, .int .u64 0, .int .u64 0] := by kernel_rfl
theorem wd_digit (d : Nat) (h : d < 10) : wv (wd d) = #[.int .u64 (d : Nat), .int .u64 0, .int .u64 0, .int .u64 0, .int .u64 0, .int .u64 0, .int .u64 0, .int .u64 0, .int .u64 0, .int .u64 0, .int .u64 0, .int .u64 0, .int .u64 0, .int .u64 0, .int .u64 0, .int .u64 0] := by
  have hB : 10 ≤ B9 := by decide
  rw [wv_congr (wd d) (fun i => if i = 0 then d else 0) (fun i hi => ?_)]
  · rfl
  · unfold wd
    by_cases hi0 : i = 0
    · subst hi0; rw [if_pos rfl, Nat.pow_zero, Nat.div_one, Nat.mod_eq_of_lt (by omega)]
    · rw [if_neg hi0, Nat.div_eq_of_lt, Nat.zero_mod]
      have : B9 ^ 1 ≤ B9 ^ i := Nat.pow_le_pow_right B9_pos (by omega)
      rw [Nat.pow_one] at this; omega
theorem grow10 {R M : Nat} (h : R < M) (hM : M < top) : R < B9 ^ 16 ∧ R * 10 < B9 ^ 16 ∧ R * 10 + 9 < B9 ^ 16 := by
  have h1 : top * 10 + 10 ≤ B9 ^ 16 := by unfold top B9; decide
  omega
theorem OW.start {w W1 : World} {M : Nat} {f : Nat → Nat} (hf : wd M = f) (s : ByteArray)
    (hg : (((w.alloc (.cells (wv f) 40)).alloc (.cells (wv fun _ => 0) 40)).alloc (.cells (wv (wd 10)) 40)).grownBy W1 none)
    (own : W1.ownsRow (w.heap.size + 1 + 1 + 1) 5 1 (.slice (some ⟨w.heap.size + 1 + 1 + 1, 0, none⟩) 0 s.size) 0 []) :
    OW w W1.heap.size M s 0 [] (Lib.bytesWorld W1 5 s) := by
  subst hf
  have q3 : Blk (((w.alloc (.cells (wv (wd M)) 40)).alloc (.cells (wv fun _ => 0) 40)).alloc (.cells (wv (wd 10)) 40)) w.heap.size (wv (wd M)) 40 := ((Blk.new _ _ _).alloc _).alloc _
  have q5 : Blk (((w.alloc (.cells (wv (wd M)) 40)).alloc (.cells (wv fun _ => 0) 40)).alloc (.cells (wv (wd 10)) 40)) (w.heap.size + 1) (wv fun _ => 0) 40 := by
    have := (Blk.new (w.alloc (.cells (wv (wd M)) 40)) (wv fun _ => 0) 40).alloc (.cells (wv (wd 10)) 40)
    rwa [World.size_alloc] at this
  have q6 : Blk (((w.alloc (.cells (wv (wd M)) 40)).alloc (.cells (wv fun _ => 0) 40)).alloc (.cells (wv (wd 10)) 40)) (w.heap.size + 1 + 1) (wv (wd 10)) 40 := by
    have := Blk.new ((w.alloc (.cells (wv (wd M)) 40)).alloc (.cells (wv fun _ => 0) 40)) (wv (wd 10)) 40
    rwa [World.size_alloc, World.size_alloc] at this
  have k0 : Keep [] w (((w.alloc (.cells (wv (wd M)) 40)).alloc (.cells (wv fun _ => 0) 40)).alloc (.cells (wv (wd 10)) 40)) := (((Keep.refl _ _).alloc _).alloc _).alloc _
  have hbw : Below W1.heap.size W1 (Lib.bytesWorld W1 5 s) := Lib.bytesWorld_below _ _ _
  have e : ∀ {b cs t}, Blk (((w.alloc (.cells (wv (wd M)) 40)).alloc (.cells (wv fun _ => 0) 40)).alloc (.cells (wv (wd 10)) 40)) b cs t → Blk (Lib.bytesWorld W1 5 s) b cs t := fun hb => by
    have h1 : Blk W1 _ _ _ := (hg.block _ hb.lt (by simp)).trans hb
    exact (hbw.block _ h1.lt).trans h1
  have hlt : w.heap.size + 1 + 1 + 1 < W1.heap.size := by
    rcases own.2 with ⟨h, _⟩ | ⟨g, cap, cur, hv, _, hgg, _⟩
    · cases h
    · cases hv; exact (Array.getElem?_eq_some_iff.1 hgg).1
  refine ⟨(k0.grown hg (by simp)).trans (Keep.ofBelow hbw) (by simp), e q3, ?_, e q6, ?_, hlt, fun j hj => Lib.bytesWorld_cell W1 _ s j hj, own.kept (row := none) (grown_of_below hbw) (.inr (by simp [Value.ownBlock]))⟩
  · rw [wd_zero]; exact e q5
  · rw [Lib.bytesWorld_size]; omega
theorem add_wcall (b N x : Nat) (w : World) (hB : Blk w b (wv (wd N)) 40) :
    Calls Tryz.prog 52 #[.pointer (some ⟨b, 0, none⟩), .agg (wv (wd x))] w fun e w' => e = .returned (.tuple #[]) ∧ Keep [b] w w' ∧ Blk w' b (wv (wd (N + x))) 40 := by
  have h := add_any b 0 (wv (wd N)) 40 (wd N) (wd x) w hB (fun i hi => by rw [Nat.zero_add]; exact wv_get _ i hi) (wd_lt N) (wd_lt x)
  rw [putW_wv, wv_congr _ _ fun i hi => sumW_wd N x i] at h
  exact h
theorem sub_wcall (b N x : Nat) (w : World) (hB : Blk w b (wv (wd N)) 40) (hx : x ≤ N) :
    Calls Tryz.prog 54 #[.pointer (some ⟨b, 0, none⟩), .agg (wv (wd x))] w fun e w' => e = .returned (.tuple #[]) ∧ Keep [b] w w' ∧ Blk w' b (wv (wd (N - x))) 40 := by
  have h := sub_any b 0 (wv (wd N)) 40 (wd N) (wd x) w hB (fun i hi => by rw [Nat.zero_add]; exact wv_get _ i hi) (wd_lt N) (wd_lt x)
  rw [putW_wv, wv_congr _ _ fun i hi => subW_wd N x i hx] at h
  exact h
theorem cmp_wcall (N M : Nat) (w : World) (hN : N < B9 ^ 16) (hM : M < B9 ^ 16) (r : Int) (hr : sgn N M = r) :
    Calls Tryz.prog 53 #[.agg (wv (wd N)), .agg (wv (wd M))] w fun e w' => e = .returned (.int .i64 r) ∧ Below w.heap.size w w' := by
  have h := compare_any (wd N) (wd M) w
  rw [cmpW_wd, Nat.mod_eq_of_lt hN, Nat.mod_eq_of_lt hM, hr] at h
  exact h
/-- What stands at the head of a round, k digits done. -/
def Done (s : ByteArray) (M k : Nat) (os : List UInt8) : Prop := allD os = true ∧ os.length = k ∧ val os = val (s.data.toList.take k) / M
theorem Done.step {s : ByteArray} {M k : Nat} {os : List UInt8} (h : Done s M k os) (hM : 0 < M) (hk : k < s.size) (d q : Nat) (hd : dv (s.data.toList.getD k 0) = d)
    (h1 : q * M ≤ val (s.data.toList.take k) % M * 10 + d) (h2 : val (s.data.toList.take k) % M * 10 + d - q * M < M) (hq : q < 10) :
    Done s M (k + 1) (os ++ [dg q]) ∧ val (s.data.toList.take (k + 1)) % M = val (s.data.toList.take k) % M * 10 + d - q * M := by
  obtain ⟨a, b, c⟩ := h
  have hl : k < s.data.toList.length := hk
  have ht : s.data.toList.take (k + 1) = s.data.toList.take k ++ [s.data.toList.getD k 0] := by
    rw [List.take_succ_eq_append_getElem hl, List.getD_eq_getElem?_getD, List.getElem?_eq_getElem hl]; rfl
  have hv : val (s.data.toList.take (k + 1)) = val (s.data.toList.take k) * 10 + d := by rw [ht, val_snoc, hd]
  have hm := Nat.div_add_mod (val (s.data.toList.take k)) M
  unfold Done
  generalize val (s.data.toList.take k) = V at *
  generalize val (s.data.toList.take (k + 1)) = V' at *
  have e : V' = M * (V / M * 10 + q) + (V % M * 10 + d - q * M) := by
    rw [hv, Nat.mul_add, Nat.mul_comm M q]
    rw [show M * (V / M * 10) = M * (V / M) * 10 by rw [Nat.mul_assoc]]
    generalize M * (V / M) = X at *
    omega
  have e1 : V' / M = V / M * 10 + q := by
    rw [e, Nat.mul_add_div hM, Nat.div_eq_of_lt h2, Nat.add_zero]
  have e2 : V' % M = V % M * 10 + d - q * M := by
    conv => lhs; rw [e]
    rw [Nat.mul_add_mod, Nat.mod_eq_of_lt h2]
  refine ⟨⟨by rw [allD_append, a]; simp [isD_dg hq], by simp [b], ?_⟩, e2⟩
  rw [val_snoc, c, dv_dg hq, e1]
set_option maxHeartbeats 4000000 in
set_option maxRecDepth 100000 in
theorem over_any (s : ByteArray) (M : Nat) (w : World) (hd : allD s.data.toList = true) (h0 : 0 < s.size) (hl : s.size ≤ 200) (hM0 : 0 < M) (hM : M < top) :
    Calls Tryz.prog 43 #[.string s, .agg (wv (wd M))] w fun e w' => e = .returned (.string ⟨(digs (val s.data.toList / M)).toArray⟩) ∧ Below w.heap.size w w' := by
  obtain ⟨i0, hi, hx⟩ := Option.map_eq_some_iff.1 infoByte
  simp only [Prod.mk.injEq] at hx
  obtain ⟨hz0, hz1, hz2⟩ := hx
  replace hi := Lib.hid hi
  replace hz0 := Lib.hid hz0
  replace hz1 := Lib.hid hz1
  replace hz2 := Lib.hid hz2
  have hcv := fun (w : World) => Lib.run_convert_string_bytes (P := Tryz.prog) w 9 72 5 s Tryz.underlying9 Tryz.underlying72 Tryz.underlying5
  have hdig : ∀ k, k < s.size → isD (s.data.toList.getD k 0) = true := fun k hk => by
    have hl : k < s.data.toList.length := hk
    rw [List.getD_eq_getElem?_getD, List.getElem?_eq_getElem hl]
    exact List.all_eq_true.1 hd _ (List.getElem_mem hl)
  replace hd := Lib.hid hd
  replace hM := Lib.hid hM
  replace hdig := Lib.hid hdig
  generalize hf : wd M = f
  replace hf := Lib.hid hf
  have hli : (s.size : Int) ≤ 200 := by omega
  go_enter Tryz.func43, Tryz.ntmps43
  go_wp2_with fail
  go_step3
  go_wp2_with (at_make; refine wpList_make_own _ rfl _ _ 72 rfl (w.heap.size + 1 + 1 + 1) 5 i0 (.int .u8 0) 1 Tryz.underlying72 hi.out hz0.out hz1.out _ _ _ s.size rfl rfl (by first | rfl | omega) (by rw [hz2.out]; omega) (by unfold maxLen; omega) (by simp) ?_; intro W1 own1 grow1; simp only [World.size_alloc] at own1; have hs1 := grow1.size; have gb1 := Lib.hid grow1; clear grow1; replace own1 := Lib.hid own1)
  go_step3
  go_wp2_with fail
  have ow := OW.start hf.out s (by rw [wv_zero, wd10]; exact gb1.out) own1.out
  clear own1 gb1 hcv hs1
  generalize Lib.bytesWorld W1 5 s = W at *
  generalize hbb : W1.heap.size = bb at *
  have hgt := ow.gt
  clear hbb
  generalize grownCap W1 s.size 0 5 = cp at *
  replace ow := Lib.hid ow
  go_loopg [7, 18] s.size (fun g v7 v18 wr => ∃ (k : Nat) (os : List UInt8), k + g = s.size ∧ v18 = .int .i64 k ∧ v7 = .slice (some ⟨w.heap.size + 1 + 1 + 1, 0, none⟩) os.length s.size ∧ Hid (Done s M k os) ∧ Hid (OW w bb M s (val (s.data.toList.take k) % M) os wr))
  case atStart => exact ⟨0, [], by omega, rfl, rfl, ⟨rfl, rfl, by simp [val]⟩, by show OW _ _ _ _ _ _ _; rw [List.take_zero]; simp [val]; exact ow.out⟩
  case round =>
    clear ow
    obtain ⟨k, os, hkg, rfl, rfl, hdo, ow⟩ := hrel
    cases gk with
    | zero =>
      have hks : k = s.size := by omega
      have hki : ¬ ((k : Int) < (s.size : Int)) := by omega
      have hval : trimL os = digs (val s.data.toList / M) := by
        rw [trimL_eq hdo.out.1, hdo.out.2.2, hks, List.take_of_length_le (show s.data.toList.length ≤ s.size from Nat.le_refl _)]
      have hown := ow.out.own
      have hcb : (convert 72 9 (.slice (some ⟨w.heap.size + 1 + 1 + 1, 0, none⟩) os.length s.size)).run Tryz.prog wr = .ok (.string ⟨os.toArray⟩) wr := by
        refine run_convert_bytes_back wr 72 9 5 ⟨w.heap.size + 1 + 1 + 1, 0, none⟩ s.size os Tryz.underlying72 Tryz.underlying5 Tryz.underlying9 (fun j hj => ?_)
        rw [Addr.add_mid, Nat.zero_add, hown.cellAt j (by omega)]
        simp [Lib.byteCells, hj]
      have hkeep := ow.out.keep
      clear ow hown hdo
      replace hval := Lib.hid hval
      replace hkeep := Lib.hid hkeep
      go_wp2_with fail
      refine (Tryz.strings_TrimLeft_one _ 48 (by decide) _).mono ?_
      rintro e w2 ⟨rfl, rfl⟩
      go_wp2
      rw [Exit.noGoto_ret]
      go_ret
      exact ⟨ret_val (by rw [← hval.out]; rfl), hkeep.out.below⟩
    | succ g =>
      have hk : k < s.size := by omega
      have hki : (k : Int) < (s.size : Int) := by omega
      obtain ⟨d, hdd⟩ : ∃ d, dv (s.data.toList.getD k 0) = d := ⟨_, rfl⟩
      have hd10 : d < 10 := by rw [← hdd]; exact dv_lt (hdig.out k hk)
      have hcd : ((s.data.toList.getD k 0).toNat : Int) = 48 + (d : Int) := by
        have h1 := dg_dv (hdig.out k hk)
        rw [hdd] at h1
        rw [← h1, dg_toNat hd10]; rfl
      have hcell : wr.cell? ⟨bb, k, none⟩ = some (.int .u8 (48 + (d : Int))) := by rw [ow.out.byt k hk, hcd]
      have hol : os.length = k := hdo.out.2.1
      have hRM : val (s.data.toList.take k) % M < M := Nat.mod_lt _ hM0
      obtain ⟨hB1, hB2, hB3⟩ := grow10 hRM hM.out
      have hMB : M < B9 ^ 16 := Nat.lt_of_lt_of_le hM.out top_lt
      clear hcd
      replace hdd := Lib.hid hdd
      replace hol := Lib.hid hol
      obtain ⟨R, hR⟩ : ∃ R, val (s.data.toList.take k) % M = R := ⟨_, rfl⟩
      rw [hR] at ow hRM hB1 hB2 hB3
      replace hR := Lib.hid hR
      replace hB1 := Lib.hid hB1
      replace hB2 := Lib.hid hB2
      replace hB3 := Lib.hid hB3
      replace hMB := Lib.hid hMB
      go_wp2_with (first | (with_reducible refine wpList_load_row rfl 40 (.tmp 5) rfl (w.heap.size + 1) rfl 40 _ (0, 0) _ (Blk.eq ow.out.b5) Tryz.underlying40 rfl (by rw [wv_size]; exact Tryz.infoW) ?_) | (with_reducible refine wpList_load_row rfl 40 (.tmp 6) rfl (w.heap.size + 1 + 1) rfl 40 _ (0, 0) _ (Blk.eq ow.out.b6) Tryz.underlying40 rfl (by rw [wv_size]; exact Tryz.infoW) ?_))
      refine (times_call R 10 _ hB1.out hB2.out).mono ?_
      rintro e w2 ⟨rfl, hb2⟩
      have ow2 := ow.out.below hb2
      have b5 := ow2.b5
      have ow3 := ow2.rest ((Keep.refl [w.heap.size + 1] w2).setRow (by simp) (wv (wd (R * 10)))) (Blk.setRow b5)
      clear hb2 ow
      replace ow2 := Lib.hid ow2
      replace ow3 := Lib.hid ow3
      replace b5 := Lib.hid b5
      go_wp2_with (first | (with_reducible refine wpList_store_row rfl 40 (.tmp 5) (.tmp 24) rfl (w.heap.size + 1) _ rfl rfl 40 _ (Blk.eq b5.out) (by rw [wv_size]; exact Tryz.infoW) (by rw [wv_size, wv_size]) (wv_one _) ?_))
      rw [show ((48 : Int) + (d : Int) - 48) = (d : Int) by omega, ← wd_digit d hd10]
      refine (add_wcall (w.heap.size + 1) (R * 10) d _ ow3.out.b5).mono ?_
      rintro e w4 ⟨rfl, k4, b4⟩
      have ow4 := ow3.out.rest k4 b4
      clear k4 b4 ow3 ow2 b5
      have hX9 : R * 10 + d < 10 * M := by omega
      have hXB : R * 10 + d < B9 ^ 16 := by have := hB3.out; omega
      obtain ⟨X, hX⟩ : ∃ X, R * 10 + d = X := ⟨_, rfl⟩
      rw [hX] at ow4 hX9 hXB
      replace hX := Lib.hid hX
      replace ow4 := Lib.hid ow4
      replace hXB := Lib.hid hXB
      clear hcell hRM hB1 hB2 hB3
      go_wp2_with fail
      go_loopg [7, 10] 10 (fun g2 v7 v10 wy => ∃ q : Nat, q + g2 = 10 ∧ v10 = .int .u8 (48 + (q : Int)) ∧ v7 = .slice (some ⟨w.heap.size + 1 + 1 + 1, 0, none⟩) os.length s.size ∧ q * M ≤ X ∧ Hid (OW w bb M s (X - q * M) os wy))
      case atStart => exact ⟨0, by omega, rfl, rfl, by omega, by show OW _ _ _ _ _ _ _; rw [Nat.zero_mul]; exact ow4.out⟩
      case round =>
        clear ow4
        obtain ⟨q, hq, rfl, rfl, hqX, ow5⟩ := hrel
        have hq10 : q < 10 := by
          apply Classical.byContradiction
          intro hc
          have : q = 10 := by omega
          subst this
          omega
        have hqi : (q : Int) ≤ 9 := by omega
        obtain ⟨Y, hY⟩ : ∃ Y, X - q * M = Y := ⟨_, rfl⟩
        rw [hY] at ow5
        have hYB : Y < B9 ^ 16 := by have := hXB.out; omega
        by_cases hlt : Y < M
        · have hsg : sgn Y M = -1 := by unfold sgn; rw [if_pos hlt]
          have hcm := fun W => cmp_wcall Y M W hYB hMB.out (-1) hsg
          have hfz := hf.out
          replace hcm := Lib.hid hcm
          replace hsg := Lib.hid hsg
          replace hY := Lib.hid hY
          replace hqX := Lib.hid hqX
          replace hlt := Lib.hid hlt
          replace hYB := Lib.hid hYB
          clear hfz
          go_wp2_with (first | (with_reducible refine wpList_load_row rfl 40 (.tmp 5) rfl (w.heap.size + 1) rfl 40 _ (0, 0) _ (Blk.eq ow5.out.b5) Tryz.underlying40 rfl (by rw [wv_size]; exact Tryz.infoW) ?_) | (with_reducible refine wpList_load_row rfl 40 (.tmp 3) rfl (w.heap.size) rfl 40 _ (0, 0) _ (Blk.eq ow5.out.b3) Tryz.underlying40 rfl (by rw [wv_size]; exact Tryz.infoW) ?_))
          refine (hcm.out _).mono ?_
          rintro e w6 ⟨rfl, hb6⟩
          have ow6 := ow5.out.below hb6
          have hown6 := ow6.own
          clear hb6 ow5
          replace ow6 := Lib.hid ow6
          replace hown6 := Lib.hid hown6
          have hol6 : os.length + 1 ≤ s.size := by rw [hol.out]; omega
          go_wp2_with (at_builtin; refine wpList_append_fits _ rfl _ _ 72 rfl (w.heap.size + 1 + 1 + 1) 5 i0 1 Tryz.underlying72 hi.out hz1.out (w.heap.size + 1 + 1 + 1) os.length s.size (Lib.byteCells os) rfl (hown6.out.alloc _) ⟨w6.heap.size, 0, none⟩ 1 1 [.int .u8 (48 + (q : Int))] rfl rfl (cell_one_new _ _ _) (fun x hx => by simp at hx; subst hx; rfl) (by omega) ?_; intro w7 own7 grow7; replace own7 := Lib.hid own7; replace grow7 := Lib.hid grow7)
          go_roundg g
          case measure => omega
          case rel =>
            have hst := hdo.out.step hM0 hk d q hdd.out (by rw [hR.out, hX.out]; exact hqX.out) (by rw [hR.out, hX.out, hY.out]; exact hlt.out) hq10
            rw [hR.out, hX.out, hY.out] at hst
            have ow7 := (ow6.out.below ((Below.refl _ _).alloc (Nat.le_refl _) (.cells #[.int .u8 (48 + (q : Int))] 5))).grow (os' := os ++ [dg q]) grow7.out (by
              have := own7.out
              rw [Lib.byteCells_append, List.length_append, List.length_singleton]
              have e : Lib.byteCells [dg q] = [.int .u8 (48 + (q : Int))] := by simp [Lib.byteCells, dg_toNat hq10]
              rw [e]; exact this)
            exact ⟨k + 1, os ++ [dg q], by omega, by go_num, by simp, hst.1, by show OW _ _ _ _ _ _ _; rw [hst.2]; exact ow7⟩
        · have hsg : 0 ≤ sgn Y M := by unfold sgn; rw [if_neg hlt]; split <;> omega
          obtain ⟨r, hr⟩ : ∃ r, sgn Y M = r := ⟨_, rfl⟩
          have hr0 : 0 ≤ r := by omega
          have hcm := fun W => cmp_wcall Y M W hYB hMB.out r hr
          have hMY : M ≤ Y := by omega
          replace hcm := Lib.hid hcm
          replace hY := Lib.hid hY
          replace hqX := Lib.hid hqX
          replace hMY := Lib.hid hMY
          replace hYB := Lib.hid hYB
          clear hr hsg hlt
          go_wp2_with (first | (with_reducible refine wpList_load_row rfl 40 (.tmp 5) rfl (w.heap.size + 1) rfl 40 _ (0, 0) _ (Blk.eq ow5.out.b5) Tryz.underlying40 rfl (by rw [wv_size]; exact Tryz.infoW) ?_) | (with_reducible refine wpList_load_row rfl 40 (.tmp 3) rfl (w.heap.size) rfl 40 _ (0, 0) _ (Blk.eq ow5.out.b3) Tryz.underlying40 rfl (by rw [wv_size]; exact Tryz.infoW) ?_))
          refine (hcm.out _).mono ?_
          rintro e w6 ⟨rfl, hb6⟩
          have ow6 := ow5.out.below hb6
          clear hb6 ow5
          replace ow6 := Lib.hid ow6
          go_wp2_with (first | (with_reducible refine wpList_load_row rfl 40 (.tmp 3) rfl (w.heap.size) rfl 40 _ (0, 0) _ (Blk.eq ow6.out.b3) Tryz.underlying40 rfl (by rw [wv_size]; exact Tryz.infoW) ?_))
          refine (sub_wcall (w.heap.size + 1) Y M _ ow6.out.b5 hMY.out).mono ?_
          rintro e w7 ⟨rfl, k7, b7⟩
          have ow7 := ow6.out.rest k7 b7
          clear k7 b7 ow6
          replace ow7 := Lib.hid ow7
          go_wp2_with fail
          go_roundg (gk - 1)
          case measure => omega
          case rel =>
            have e : X - (q + 1) * M = Y - M := by rw [Nat.succ_mul]; have := hY.out; omega
            exact ⟨q + 1, by omega, by go_num, rfl, by rw [Nat.succ_mul]; have := hY.out; have := hMY.out; have := hqX.out; omega, by show OW _ _ _ _ _ _ _; rw [e]; exact ow7.out⟩
end Go.Proofs.YtnnojhgnfmieoaaGreatDoor.dec
