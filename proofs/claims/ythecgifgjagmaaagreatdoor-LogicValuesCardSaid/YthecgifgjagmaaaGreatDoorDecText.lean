/- Contract of decimal's number: text. -/
import Derived.Test.YthecgifgjagmaaaGreatDoorDecPlus
import Derived.Deep.RegionHeld3
namespace Go.Proofs.YthecgifgjagmaaaGreatDoor.dec
open Go.ChangeShapes Go.WideShapes Go.ChangeAt Go.RowKit kit
set_option linter.unusedVariables false
theorem Env.drew {w : World} (h : Env w) : Env w.drew := ⟨h.max, h.pow, h.syn, h.rng, h.size⟩
set_option maxHeartbeats 2000000 in
set_option maxRecDepth 100000 in
theorem text_any (s : Bool) (N : Nat) (w : World) (hE : Env w) (hN : N < B9 ^ 16) :
    Calls Tryz.prog 142 #[.agg (nv s (wd N))] w fun e w' => e = .returned (.tuple #[.string (tx (toldP s N 20).1), .int .i64 (toldP s N 20).2]) ∧ Below w.heap.size w w' := by
  have hsz : (tx (digs N)).size ≤ 100000 := by
    have h1 := (digs_lt N 144).2 (by rw [show (144 : Nat) = 9 * 16 from rfl, ← pow9]; exact hN)
    rw [tx_size]; omega
  have hu := Tryz.underlying90
  have hi : (Tryz.prog.info? 90).map (·.size) = some (wv (wd N)).toList.length := by rw [wv_len]; exact Tryz.infoW
  replace hN := Lib.hid hN
  go_enter Tryz.func142, Tryz.ntmps142
  go_upto_region 1 with (fail)
  have hb : Blk (w.alloc (.cells (nv s (wd N)) 92)) w.heap.size (nv s (wd N)) 92 := Blk.new _ _ _
  have hk : Below w.heap.size w (w.alloc (.cells (nv s (wd N)) 92)) := (Below.refl _ _).alloc (Nat.le_refl _) _
  have hs1 : w.heap.size < (w.alloc (.cells (nv s (wd N)) 92)).heap.size := by simp
  generalize w.alloc (.cells (nv s (wd N)) 92) = W at *
  have c0 : W.cell? ⟨w.heap.size, 0, none⟩ = some (.bool s) := hb.cell _ (nv_zero _ _)
  have hr : W.rangeAt w.heap.size 1 (wv (wd N)).toList := nv_range hb
  have hE1 := hE.below hk
  replace hE1 := Lib.hid hE1
  replace hk := Lib.hid hk
  replace hb := Lib.hid hb
  replace hE := Lib.hid hE
  go_region_held3 (fun w' => w'.cell? ⟨w.heap.size, 0, none⟩ = some (.bool s) ∧ w'.rangeAt w.heap.size 1 (wv (wd N)).toList) (first
    | go_keep_ranges
    | (exact ⟨(hb1.cell (p := ⟨w.heap.size, 0, none⟩) hs1).trans c0, nv_range (t := 92) ((hb1.block _ hs1).trans hb.out)⟩)
    | (exact ⟨(hb2.cell (p := ⟨w.heap.size, 0, none⟩) (Nat.lt_of_lt_of_le hs1 hb1.size)).trans ((hb1.cell (p := ⟨w.heap.size, 0, none⟩) hs1).trans c0), nv_range (t := 92) ((hb2.block _ (Nat.lt_of_lt_of_le hs1 hb1.size)).trans ((hb1.block _ hs1).trans hb.out))⟩)) (first
    | (go_at_call 145; refine (digits_any N _ hE1.out.drew hN.out).mono ?_; rintro e w1 ⟨rfl, hb1⟩)
    | (go_at_call 143; refine (told_at s (tx (digs N)) N 20 _ rfl _ (digs_val N) (digs_allD N) hsz (by decide)).mono ?_; rintro e w2 ⟨rfl, hb2⟩))
  go_wp2
  go_ret2
  exact ⟨rfl, (hk.out.drew.trans (hb1.mono (Nat.le_of_lt hs1))).trans (hb2.mono (Nat.le_trans (Nat.le_of_lt hs1) hb1.size))⟩
end Go.Proofs.YthecgifgjagmaaaGreatDoor.dec
