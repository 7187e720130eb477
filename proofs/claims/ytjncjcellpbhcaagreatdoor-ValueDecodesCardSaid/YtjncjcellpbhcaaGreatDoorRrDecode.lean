/- Contract of the reference's Decode. -/
import Derived.Test.YtjncjcellpbhcaaGreatDoorRrVal
import Derived.Test.YtjncjcellpbhcaaGreatDoorRdDecode
import Derived.Test.YtjncjcellpbhcaaGreatDoorRMayA
namespace Go.Proofs.YtjncjcellpbhcaaGreatDoor.val
open Go.ChangeShapes Go.WideShapes Go.ChangeAt Go.RowKit kit dec
set_option linter.unusedVariables false
set_option linter.unusedSimpArgs false
theorem rvalue_all : ∀ m, m ≤ 61 → RrX m := by
  intro m
  induction m with
  | zero => exact fun _ => rvalue_step 0 (fun m' e => by omega)
  | succ m ih => exact fun h => rvalue_step (m + 1) (fun m' e => (by
      obtain rfl : m = m' := by omega
      exact ih (by omega)))
set_option maxRecDepth 100000 in
set_option maxHeartbeats 4000000 in
theorem rdecode_call (w : World) (v : Value) (L : List UInt8) (hLl : L.length ≤ 1048576) (h : BytesA w w.heap.size v L) : Calls Tryz.prog 7 #[v] w (AR w 1048576 (decodeV L)) := by
  obtain ⟨aoI, capI, rfl⟩ : ∃ ao cap, v = .slice ao L.length cap := by
    rcases h with ⟨ao, cap, rfl, rfl⟩ | ⟨b, off, cap, rfl, _⟩
    · exact ⟨ao, cap, rfl⟩
    · exact ⟨_, cap, rfl⟩
  have hw0 : Below w.heap.size w ((w.alloc (.cells #[.int .i64 0, .bool false, .int .i64 0, .string ByteArray.empty, .string ByteArray.empty, .slice none 0 0] 26)).alloc (.cells #[.slice aoI L.length capI, .bool false] 48)) := ((Below.refl _ _).alloc (Nat.le_refl _) _).alloc (by rw [World.size_alloc]; omega) _
  have hs0 : ((w.alloc (.cells #[.int .i64 0, .bool false, .int .i64 0, .string ByteArray.empty, .string ByteArray.empty, .slice none 0 0] 26)).alloc (.cells #[.slice aoI L.length capI, .bool false] 48)).heap.size = w.heap.size + 2 := by rw [World.size_alloc, World.size_alloc]
  have hz0 : Blk ((w.alloc (.cells #[.int .i64 0, .bool false, .int .i64 0, .string ByteArray.empty, .string ByteArray.empty, .slice none 0 0] 26)).alloc (.cells #[.slice aoI L.length capI, .bool false] 48)) w.heap.size #[.int .i64 0, .bool false, .int .i64 0, .string ByteArray.empty, .string ByteArray.empty, .slice none 0 0] 26 := (Blk.new _ _ _).alloc _
  have hr0 : RD 48 ((w.alloc (.cells #[.int .i64 0, .bool false, .int .i64 0, .string ByteArray.empty, .string ByteArray.empty, .slice none 0 0] 26)).alloc (.cells #[.slice aoI L.length capI, .bool false] 48)) (w.heap.size + 1) L false := by
    refine ⟨_, ?_, (h.stay fun k hk => hw0.block k hk).mono (Nat.le_succ _)⟩
    have := Blk.new (w.alloc (.cells #[.int .i64 0, .bool false, .int .i64 0, .string ByteArray.empty, .string ByteArray.empty, .slice none 0 0] 26)) #[.slice aoI L.length capI, .bool false] 48
    rwa [World.size_alloc] at this
  have hcall := rvalue_all 61 (Nat.le_refl _) _ _ L false 0 (by omega) (by omega) hLl hr0
  obtain ⟨W0, hW0⟩ : ∃ W0, ((w.alloc (.cells #[.int .i64 0, .bool false, .int .i64 0, .string ByteArray.empty, .string ByteArray.empty, .slice none 0 0] 26)).alloc (.cells #[.slice aoI L.length capI, .bool false] 48)) = W0 := ⟨_, rfl⟩
  rw [hW0] at hw0 hs0 hz0
  obtain ⟨R, hR⟩ : ∃ R, decodeV L = R := ⟨_, rfl⟩
  rw [hR]
  replace hcall := Lib.hid hcall
  replace hW0 := Lib.hid hW0
  replace hR := Lib.hid hR
  replace hw0 := Lib.hid hw0
  replace hs0 := Lib.hid hs0
  replace hz0 := Lib.hid hz0
  clear hr0 h
  go_enter Tryz.func7, Tryz.ntmps7
  go_wp2_with fail
  refine (hcall.out).mono ?_
  rintro e w1 ⟨x, sv, L', b', he, hvl, hr1, hk1, hl1, hok⟩
  rw [hW0.out] at hk1 hl1
  obtain ⟨k, bo, n, t, xx, l⟩ := x
  replace hl1 : LF w1 1048576 (Fr W0.heap.size w1) sv l := hl1
  obtain ⟨ao, cap, rfl, -⟩ := hl1.form
  obtain rfl : e = .returned (.agg #[.int .i64 k, .bool bo, .int .i64 n, .string t, .string xx, .slice ao l.length cap]) := he
  have hdo := decode_of hvl
  rw [hR.out] at hdo
  have hs1 := hk1.size
  rw [hs0.out] at hs1
  have hb1 : Below w.heap.size w w1 := hw0.out.trans (hk1.under w.heap.size (by rw [hs0.out]; omega) (fun x hx => by simp at hx; omega))
  have hz1 : Blk w1 w.heap.size #[.int .i64 0, .bool false, .int .i64 0, .string ByteArray.empty, .string ByteArray.empty, .slice none 0 0] 26 := hz0.out.keep hk1 (by simp)
  rw [hs0.out] at hl1
  have hal : Below w1.heap.size w1 (w1.alloc (.cells #[.int .i64 k, .bool bo, .int .i64 n, .string t, .string xx, .slice ao l.length cap] 26)) := (Below.refl _ _).alloc (Nat.le_refl _) _
  have hb2 := hb1.trans (hal.mono hb1.size)
  have hz2 := hz1.alloc (.cells #[.int .i64 k, .bool bo, .int .i64 n, .string t, .string xx, .slice ao l.length cap] 26)
  have hl2 := hl1.stay (w' := w1.alloc (.cells #[.int .i64 k, .bool bo, .int .i64 n, .string t, .string xx, .slice ao l.length cap] 26)) fun b hS hlt => hal.block b hlt
  have hx2 := Blk.new w1 #[.int .i64 k, .bool bo, .int .i64 n, .string t, .string xx, .slice ao l.length cap] 26
  have hr2 := hr1.keep (w' := w1.alloc (.cells #[.int .i64 k, .bool bo, .int .i64 n, .string t, .string xx, .slice ao l.length cap] 26)) fun k hk => hal.block k (by omega)
  have hck := rMay_call 1048576 (by omega) _ k bo n t xx _ l hl2.toLA hok.2.2.1 hok.2.2.2
  have hsz : (w1.alloc (.cells #[.int .i64 k, .bool bo, .int .i64 n, .string t, .string xx, .slice ao l.length cap] 26)).heap.size = w1.heap.size + 1 := World.size_alloc _ _
  replace hdo := Lib.hid hdo
  clear hcall hW0 hR hw0 hs0 hz0 hvl hr1 hk1 hl1 hb1 hz1 hal hok
  go_upto_region 3 with (fail)
  generalize (w1.alloc (.cells #[.int .i64 k, .bool bo, .int .i64 n, .string t, .string xx, .slice ao l.length cap] 26)) = w2 at *
  generalize mayV (.mk k bo n t xx l) = p at *
  unfold agg6 at hck
  replace hck := Lib.hid hck
  obtain ⟨aoR, capR, hqR, hbR⟩ := hr2.form
  have r0 := hqR.cell 0 rfl
  have r1 := hqR.cell 1 rfl
  have x0 := hx2.cell 0 rfl
  have x1 := hx2.cell 1 rfl
  have x2 := hx2.cell 2 rfl
  have x3 := hx2.cell 3 rfl
  have x4 := hx2.cell 4 rfl
  have x5 := hx2.cell 5 rfl
  have z0 := hz2.cell 0 rfl
  have z1 := hz2.cell 1 rfl
  have z2 := hz2.cell 2 rfl
  have z3 := hz2.cell 3 rfl
  have z4 := hz2.cell 4 rfl
  have z5 := hz2.cell 5 rfl
  have fz := hz2.free
  replace hb2 := Lib.hid hb2
  replace hz2 := Lib.hid hz2
  replace hl2 := Lib.hid hl2
  replace hx2 := Lib.hid hx2
  clear hqR hbR hr2
  cases b'
  case true =>
    obtain rfl : R = (zV, 6) := by rw [hdo.out, if_neg (by simp)]
    go_wp2
    obtain hf := Blk.set6 hz2.out (.int .i64 0) (.bool false) (.int .i64 0) (.string ByteArray.empty) (.string ByteArray.empty) (.slice none 0 0)
    exact bodyPost_ret (v := tupR (zV, 6)) (res2 rfl _ _ w.heap.size 26 _ (0, 0) _ _ rfl rfl hf.eq Tryz.underlying26 rfl infoV6) rfl (AR.plain rfl (Below.set6 hb2.out (Nat.le_refl _) _ _ _ _ _ _))
  by_cases hL : L' = []
  case neg =>
    obtain rfl : R = (zV, 6) := by rw [hdo.out, if_neg (fun e => hL e.2.1)]
    obtain ⟨n', hn'⟩ : ∃ n', L'.length = n' + 1 := ⟨L'.length - 1, by have := List.length_pos_iff.2 hL; omega⟩
    rw [hn'] at r0
    have hLl : (0 : Int) < ((n' + 1 : Nat) : Int) := by omega
    clear hL hn'
    go_wp2
    obtain hf := Blk.set6 hz2.out (.int .i64 0) (.bool false) (.int .i64 0) (.string ByteArray.empty) (.string ByteArray.empty) (.slice none 0 0)
    exact bodyPost_ret (v := tupR (zV, 6)) (res2 rfl _ _ w.heap.size 26 _ (0, 0) _ _ rfl rfl hf.eq Tryz.underlying26 rfl infoV6) rfl (AR.plain rfl (Below.set6 hb2.out (Nat.le_refl _) _ _ _ _ _ _))
  subst hL
  replace r0 : w2.cell? ⟨w.heap.size + 1, 0, none⟩ = some (.slice aoR 0 capR) := r0
  go_wp2_with fail
  refine (hck.out).mono ?_
  rintro e w3 ⟨rfl, hb3⟩
  have hb4 := Lib.hid (hb2.out.trans (hb3.mono hb2.out.size))
  have hz3 : Blk w3 w.heap.size #[.int .i64 0, .bool false, .int .i64 0, .string ByteArray.empty, .string ByteArray.empty, .slice none 0 0] 26 := (hb3.block _ hz2.out.lt).trans hz2.out
  have hx3 : Blk w3 w1.heap.size #[.int .i64 k, .bool bo, .int .i64 n, .string t, .string xx, .slice ao l.length cap] 26 := (hb3.block _ hx2.out.lt).trans hx2.out
  have hl3 := Lib.hid (hl2.out.stay (w' := w3) fun b hS hlt => hb3.block b hlt)
  have hw3 : w1.heap.size < w3.heap.size := hx3.lt
  clear r0 r1 x0 x1 x2 x3 x4 x5 z0 z1 z2 z3 z4 z5 fz hb2 hz2 hx2 hl2 hck hb3
  have x0 := hx3.cell 0 rfl
  have x1 := hx3.cell 1 rfl
  have x2 := hx3.cell 2 rfl
  have x3 := hx3.cell 3 rfl
  have x4 := hx3.cell 4 rfl
  have x5 := hx3.cell 5 rfl
  have z0 := hz3.cell 0 rfl
  have z1 := hz3.cell 1 rfl
  have z2 := hz3.cell 2 rfl
  have z3 := hz3.cell 3 rfl
  have z4 := hz3.cell 4 rfl
  have z5 := hz3.cell 5 rfl
  have fz := hz3.free
  have hz2 := Lib.hid hz3
  have hb2 := hb4
  clear hb4 hz3 hx3
  cases p
  case false =>
    obtain rfl : R = (zV, 6) := by rw [hdo.out, if_neg (by simp)]
    go_wp2
    obtain hf := Blk.set6 hz2.out (.int .i64 0) (.bool false) (.int .i64 0) (.string ByteArray.empty) (.string ByteArray.empty) (.slice none 0 0)
    exact bodyPost_ret (v := tupR (zV, 6)) (res2 rfl _ _ w.heap.size 26 _ (0, 0) _ _ rfl rfl hf.eq Tryz.underlying26 rfl infoV6) rfl (AR.plain rfl (Below.set6 hb2.out (Nat.le_refl _) _ _ _ _ _ _))
  case true =>
    obtain rfl : R = (.mk k bo n t xx l, 0) := by rw [hdo.out, if_pos (by simp)]
    go_wp2
    have hf := Blk.set6 hz2.out (.int .i64 k) (.bool bo) (.int .i64 n) (.string t) (.string xx) (.slice ao l.length cap)
    have hlf := hl3.out.set6 w.heap.size (fun h => by have := h.1; omega) (.int .i64 k) (.bool bo) (.int .i64 n) (.string t) (.string xx) (.slice ao l.length cap)
    exact bodyPost_ret (v := .tuple #[agg6 k bo n t xx (.slice ao l.length cap), .int .i64 0]) (res2 rfl _ _ w.heap.size 26 _ (0, 0) _ _ rfl rfl hf.eq Tryz.underlying26 rfl infoV6) rfl ⟨_, rfl, Below.set6 hb2.out (Nat.le_refl _) _ _ _ _ _ _, hlf.mono fun b hb => ⟨by have := hb.1; omega, by have := hb.2; simp only [World.setCell, Array.size_modify] at *; omega⟩⟩
end Go.Proofs.YtjncjcellpbhcaaGreatDoor.val
