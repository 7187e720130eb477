/- Any bytes: the value that is read, or the refusal, is the reference's; what is handed in stays: for every list of bytes, where the listed variables of the library hold what the program's text lays. -/
import Derived.Test.YtjncjcellpbhcaaGreatDoorVWakes
import Derived.Test.YtjncjcellpbhcaaGreatDoorRrDecode
import Derived.Test.YtjncjcellpbhcaaGreatDoorRdOpenA
import Derived.Test.YtjncjcellpbhcaaGreatDoorRdOpenA
import Derived.Test.YtjncjcellpbhcaaGreatDoorVRSame
import Derived.IntWalk
import Derived.Deep.DeepCutAuto
namespace Go.Proofs.YtjncjcellpbhcaaGreatDoor.val
open Go.ChangeShapes Go.WideShapes Go.ChangeAt Go.RowKit kit dec
set_option linter.unusedVariables false
set_option linter.unusedSimpArgs false
/-- The world of the law at a round's head. -/
structure LD (W w : World) : Prop where
  below : Below W.heap.size W w
  env : Env w
theorem LD.on {W w w' : World} (h : LD W w) (hb : Below w.heap.size w w') : LD W w' := ⟨h.below.trans (hb.mono h.below.size), h.env.below hb⟩
set_option maxRecDepth 100000 in
set_option maxHeartbeats 8000000 in
theorem vdec_any (ao : Option Addr) (cap : Nat) (l : List (List UInt8)) (W : World) (hE : Env W) (ha : ∀ j (hj : j < l.length), ∃ b off v, ao = some ⟨b, off, none⟩ ∧ b < W.heap.size ∧ W.cell? ⟨b, off + j, none⟩ = some v ∧ BytesA W W.heap.size v l[j]) :
    Calls Tryz.prog 3 #[.slice ao l.length cap] W fun e w' => e = .returned (.bool true) ∧ Below W.heap.size W w' := by
  have hh1 : LD W W := ⟨Below.refl _ _, hE⟩
  replace ha := Lib.hid ha
  replace hh1 := Lib.hid hh1
  clear hE
  go_enter Tryz.func3, Tryz.ntmps3
  go_wp2
  go_loopw [3] (fun i wr => (∃ j : Nat, j ≤ l.length ∧ j ≤ 30 ∧ i = .int .i64 (j : Int)) ∧ Hid (LD W wr)) (fun i _ => 31 - (intOf i).toNat)
  case atStart => exact ⟨⟨0, by omega, by omega, rfl⟩, hh1⟩
  case round =>
    clear hh1
    obtain ⟨⟨j, hj, hj30, rfl⟩, hh⟩ := hrel
    obtain ⟨w0, rfl⟩ : ∃ w0 : World, w0 = wr := ⟨_, rfl⟩
    obtain ⟨q, hqq⟩ : ∃ q : Bool, decide (j < l.length ∧ j < 30) = q := ⟨_, rfl⟩
    replace hqq := Lib.hid hqq
    go_upto_region 2 with (fail)
    go_cut [15] (fun v wx => v = .bool q ∧ wx = w0)
    case first =>
      as_aux_lemma =>
        by_cases h1 : j < l.length
        · have h1i : (j : Int) < (l.length : Int) := by omega
          by_cases h2 : j < 30
          · have h2i : (j : Int) < 30 := by omega
            obtain rfl : true = q := by rw [← hqq.out]; exact (decide_eq_true ⟨h1, h2⟩).symm
            go_wp2
            go_meet
            exact ⟨rfl, rfl⟩
          · have h2i : ¬ (j : Int) < 30 := by omega
            obtain rfl : false = q := by rw [← hqq.out]; exact (decide_eq_false (fun e => h2 e.2)).symm
            go_wp2
            go_meet
            exact ⟨by first | rfl | (simp; omega), rfl⟩
        · have h1i : ¬ (j : Int) < (l.length : Int) := by omega
          obtain rfl : false = q := by rw [← hqq.out]; exact (decide_eq_false (fun e => h1 e.1)).symm
          go_wp2
          go_meet
          exact ⟨rfl, rfl⟩
    obtain ⟨rfl, hwx⟩ := hcut
    rw [hwx]; clear hwx
    cases q
    case false =>
      have hwk := Lib.hid (wakes2_call w0 hh.out.env)
      clear hqq
      go_wp2_with fail
      refine (hwk.out).mono ?_
      rintro e w2 ⟨rfl, hb2⟩
      have hbe := Lib.hid (hh.out.on hb2).below
      clear hb2 hwk hh
      go_wp2
      go_ret
      exact ⟨rfl, hbe.out⟩
    case true =>
      obtain ⟨hlt, hlt30⟩ := of_decide_eq_true hqq.out
      clear hqq
      have i0 : (j : Int) < (l.length : Int) := by omega
      obtain ⟨b, off, v, rfl, hbs, hcj, hbj⟩ := ha.out j hlt
      have hcells : ∀ w, Below W.heap.size W w → w.cell? ⟨b, off + j, none⟩ = some v := fun w h => (cell_heap (h.block b hbs)).trans hcj
      have hbytes : ∀ w, Below W.heap.size W w → BytesA w w.heap.size v l[j] := fun w h => (hbj.stay fun k hk => h.block k hk).mono h.size
      generalize l[j]'hlt = L at *
      obtain ⟨aoI, capI, rfl⟩ : ∃ aoI capI, v = .slice aoI L.length capI := by
        rcases hbj with ⟨ao, cap, rfl, rfl⟩ | ⟨b, off, cap, rfl, _⟩
        · exact ⟨ao, cap, rfl⟩
        · exact ⟨_, cap, rfl⟩
      clear hbj hcj
      replace hcells := Lib.hid hcells
      replace hbytes := Lib.hid hbytes
      have c0 := hcells.out w0 hh.out.below
      by_cases hbig : 3000 < L.length
      · have hbi : (3000 : Int) < (L.length : Int) := by omega
        go_wp2
        go_roundw
        case rel => exact ⟨⟨j + 1, by omega, by omega, by go_num⟩, hh⟩
        case measure => simp [intOf]; omega
      · have hbi : ¬ (3000 : Int) < (L.length : Int) := by omega
        have hcp := Lib.hid (copyB_call w0 _ L (by omega) (hbytes.out w0 hh.out.below))
        go_wp2_with fail
        refine (hcp.out).mono ?_
        rintro e w1 ⟨v1, rfl, hv1, hb1⟩
        have hh1 := Lib.hid (hh.out.on hb1)
        have hd := decode_call w1 hh1.out.env v1 L hv1
        have hRd := fun w (h : Below W.heap.size W w) => rdecode_call w _ L (by omega) (hbytes.out w h)
        generalize decodeV L = R at *
        obtain ⟨⟨kr, br, nr, tr, xr, lr⟩, er⟩ := R
        unfold AR val6 agg6 at hd hRd
        replace hd := Lib.hid hd
        replace hRd := Lib.hid hRd
        clear hcp hv1 hb1 hh c0
        go_wp2_with fail
        refine (hd.out).mono ?_
        rintro e w3 ⟨sv, rfl, hb3, hl3⟩
        replace hl3 : LF w3 1048576 (Fr w1.heap.size w3) sv lr := hl3
        obtain ⟨aoV, capV, rfl, -⟩ := hl3.form
        have hbc : Below w3.heap.size w3 (w3.alloc (.cells #[.int .i64 kr, .bool br, .int .i64 nr, .string tr, .string xr, .slice aoV lr.length capV] 26)) := (Below.refl _ _).alloc (Nat.le_refl _) _
        have hh3 := (hh1.out.on hb3).on hbc
        have hl4 := hl3.stay (w' := w3.alloc (.cells #[.int .i64 kr, .bool br, .int .i64 nr, .string tr, .string xr, .slice aoV lr.length capV] 26)) fun b hS hlt => hbc.block b hlt
        have hqv := Blk.new w3 #[.int .i64 kr, .bool br, .int .i64 nr, .string tr, .string xr, .slice aoV lr.length capV] 26
        have hsc : (w3.alloc (.cells #[.int .i64 kr, .bool br, .int .i64 nr, .string tr, .string xr, .slice aoV lr.length capV] 26)).heap.size = w3.heap.size + 1 := World.size_alloc _ _
        have hs3 := hb3.size
        clear hd hb3 hl3 hbc hh1
        go_upto_region 6 with (fail)
        generalize (w3.alloc (.cells #[.int .i64 kr, .bool br, .int .i64 nr, .string tr, .string xr, .slice aoV lr.length capV] 26)) = wV at *
        have c0 := hcells.out wV hh3.below
        have hr := Lib.hid (hRd.out wV hh3.below)
        replace hh3 := Lib.hid hh3
        replace hl4 := Lib.hid hl4
        replace hqv := Lib.hid hqv
        go_wp2_with fail
        refine (hr.out).mono ?_
        rintro e w5 ⟨sw, rfl, hb5, hl5⟩
        replace hl5 : LF w5 1048576 (Fr wV.heap.size w5) sw lr := hl5
        obtain ⟨aoW, capW, rfl, -⟩ := hl5.form
        have hbd : Below w5.heap.size w5 (w5.alloc (.cells #[.int .i64 kr, .bool br, .int .i64 nr, .string tr, .string xr, .slice aoW lr.length capW] 26)) := (Below.refl _ _).alloc (Nat.le_refl _) _
        have hbb := hb5.trans (hbd.mono hb5.size)
        have hh6 := hh3.out.on hbb
        have hl6 := hl4.out.stay (w' := w5.alloc (.cells #[.int .i64 kr, .bool br, .int .i64 nr, .string tr, .string xr, .slice aoW lr.length capW] 26)) fun b hS hlt => hbb.block b hlt
        have hl7 := hl5.stay (w' := w5.alloc (.cells #[.int .i64 kr, .bool br, .int .i64 nr, .string tr, .string xr, .slice aoW lr.length capW] 26)) fun b hS hlt => hbd.block b hlt
        have hq6 : Blk (w5.alloc (.cells #[.int .i64 kr, .bool br, .int .i64 nr, .string tr, .string xr, .slice aoW lr.length capW] 26)) w3.heap.size #[.int .i64 kr, .bool br, .int .i64 nr, .string tr, .string xr, .slice aoV lr.length capV] 26 := (hbb.block _ hqv.out.lt).trans hqv.out
        have hq7 := Blk.new w5 #[.int .i64 kr, .bool br, .int .i64 nr, .string tr, .string xr, .slice aoW lr.length capW] 26
        clear hr hb5 hl5 hbd hbb hh3 hl4 hqv c0
        go_upto_region 7 with (fail)
        generalize (w5.alloc (.cells #[.int .i64 kr, .bool br, .int .i64 nr, .string tr, .string xr, .slice aoW lr.length capW] 26)) = w6 at *
        have hsm := rsame_call 1048576 (by omega) w6 kr br nr tr xr _ lr kr br nr tr xr _ lr hl6.toLA hl7.toLA
        unfold agg6 at hsm
        rw [sameP_self] at hsm
        replace hsm := Lib.hid hsm
        have x0 := hq6.cell 0 rfl
        have x1 := hq6.cell 1 rfl
        have x2 := hq6.cell 2 rfl
        have x3 := hq6.cell 3 rfl
        have x4 := hq6.cell 4 rfl
        have x5 := hq6.cell 5 rfl
        have y0 := hq7.cell 0 rfl
        have y1 := hq7.cell 1 rfl
        have y2 := hq7.cell 2 rfl
        have y3 := hq7.cell 3 rfl
        have y4 := hq7.cell 4 rfl
        have y5 := hq7.cell 5 rfl
        have hee : (er != er) = false := by simp
        replace hh6 := Lib.hid hh6
        clear hq6 hq7 hl6 hl7
        go_wp2_with fail
        refine (hsm.out).mono ?_
        rintro e w7 ⟨rfl, hb7⟩
        have hh7 := Lib.hid (hh6.out.on hb7)
        clear hh6 hb7 hsm
        go_wp2
        go_roundw
        case rel => exact ⟨⟨j + 1, by omega, by omega, by go_num⟩, hh7⟩
        case measure => simp [intOf]; omega
end Go.Proofs.YtjncjcellpbhcaaGreatDoor.val
