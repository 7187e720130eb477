/- An order of all values: of two the one or the other way round, three in a row; nought just of values that are the same, of those that may be; none stands last in C, first in S; it goes with Less: for every list of values, not above the bound, that may be read, where the listed variables of the library hold what the program's text lays. -/
import Derived.Test.YthecgifgjagmaaaGreatDoorVWakes
import Derived.Test.YthecgifgjagmaaaGreatDoorVOrd2
import Derived.Test.YthecgifgjagmaaaGreatDoorVRSame
import Derived.IntWalk
import Derived.Deep.DeepCutAuto
namespace Go.Proofs.YthecgifgjagmaaaGreatDoor.val
open Go.ChangeShapes Go.WideShapes Go.ChangeAt Go.RowKit kit dec
set_option linter.unusedVariables false
set_option linter.unusedSimpArgs false
/-- The world of a law at a round's head. -/
structure LH3 (W w : World) (p : Array Value) : Prop where
  below : Below W.heap.size W w
  env : Env w
  bp : Blk w W.heap.size p 37
theorem LH3.on {W w w' : World} {p : Array Value} (h : LH3 W w p) (hb : Below w.heap.size w w') : LH3 W w' p :=
  ⟨h.below.trans (hb.mono h.below.size), h.env.below hb, h.bp.keep (Keep.ofBelow hb) (by simp)⟩
/-- A round's world: the law's box, three values in boxes. -/
structure LR (W V w : World) (p c d f : Array Value) : Prop where
  below : Below W.heap.size W w
  env : Env w
  vb : Below V.heap.size V w
  bp : Blk w W.heap.size p 37
  b0 : Blk w V.heap.size c 26
  b1 : Blk w (V.heap.size + 1) d 26
  b2 : Blk w (V.heap.size + 1 + 1) f 26
theorem LR.on {W V w w' : World} {p c d f : Array Value} (h : LR W V w p c d f) (hb : Below w.heap.size w w') : LR W V w' p c d f :=
  ⟨h.below.trans (hb.mono h.below.size), h.env.below hb, h.vb.trans (hb.mono h.vb.size), h.bp.keep (Keep.ofBelow hb) (by simp), h.b0.keep (Keep.ofBelow hb) (by simp), h.b1.keep (Keep.ofBelow hb) (by simp), h.b2.keep (Keep.ofBelow hb) (by simp)⟩
theorem LR.cells {W V w : World} {p0 p1 c0 c1 c2 c3 c4 c5 d0 d1 d2 d3 d4 d5 f0 f1 f2 f3 f4 f5 : Value} (h : LR W V w #[p0, p1] #[c0, c1, c2, c3, c4, c5] #[d0, d1, d2, d3, d4, d5] #[f0, f1, f2, f3, f4, f5]) :
    w.cell? ⟨W.heap.size, 0, none⟩ = some p0 ∧ w.cell? ⟨W.heap.size, 1, none⟩ = some p1 ∧ w.cell? ⟨V.heap.size, 0, none⟩ = some c0 ∧ w.cell? ⟨V.heap.size, 1, none⟩ = some c1 ∧ w.cell? ⟨V.heap.size, 2, none⟩ = some c2 ∧ w.cell? ⟨V.heap.size, 3, none⟩ = some c3 ∧ w.cell? ⟨V.heap.size, 4, none⟩ = some c4 ∧ w.cell? ⟨V.heap.size, 5, none⟩ = some c5 ∧
    w.cell? ⟨V.heap.size + 1, 0, none⟩ = some d0 ∧ w.cell? ⟨V.heap.size + 1, 1, none⟩ = some d1 ∧ w.cell? ⟨V.heap.size + 1, 2, none⟩ = some d2 ∧ w.cell? ⟨V.heap.size + 1, 3, none⟩ = some d3 ∧ w.cell? ⟨V.heap.size + 1, 4, none⟩ = some d4 ∧ w.cell? ⟨V.heap.size + 1, 5, none⟩ = some d5 ∧
    w.cell? ⟨V.heap.size + 1 + 1, 0, none⟩ = some f0 ∧ w.cell? ⟨V.heap.size + 1 + 1, 1, none⟩ = some f1 ∧ w.cell? ⟨V.heap.size + 1 + 1, 2, none⟩ = some f2 ∧ w.cell? ⟨V.heap.size + 1 + 1, 3, none⟩ = some f3 ∧ w.cell? ⟨V.heap.size + 1 + 1, 4, none⟩ = some f4 ∧ w.cell? ⟨V.heap.size + 1 + 1, 5, none⟩ = some f5 :=
  ⟨h.bp.cell 0 rfl, h.bp.cell 1 rfl, h.b0.cell 0 rfl, h.b0.cell 1 rfl, h.b0.cell 2 rfl, h.b0.cell 3 rfl, h.b0.cell 4 rfl, h.b0.cell 5 rfl, h.b1.cell 0 rfl, h.b1.cell 1 rfl, h.b1.cell 2 rfl, h.b1.cell 3 rfl, h.b1.cell 4 rfl, h.b1.cell 5 rfl, h.b2.cell 0 rfl, h.b2.cell 1 rfl, h.b2.cell 2 rfl, h.b2.cell 3 rfl, h.b2.cell 4 rfl, h.b2.cell 5 rfl⟩
theorem LR.head {W V w : World} {p c d f : Array Value} (h : LR W V w p c d f) : LH3 W w p := ⟨h.below, h.env, h.bp⟩
theorem LR.made {W V : World} {p : Array Value} (h : LH3 W V p) (c d f : Array Value) : LR W V (((V.alloc (.cells c 26)).alloc (.cells d 26)).alloc (.cells f 26)) p c d f := by
  have hb := ((((Keep.refl [] V).alloc (.cells c 26)).alloc (.cells d 26)).alloc (.cells f 26)).below
  refine ⟨h.below.trans (hb.mono h.below.size), h.env.below hb, hb, h.bp.keep (Keep.ofBelow hb) (by simp), ((Blk.new _ _ _).alloc _).alloc _, ?_, ?_⟩
  · have := (Blk.new (V.alloc (.cells c 26)) d 26).alloc (.cells f 26)
    rwa [World.size_alloc] at this
  · have := Blk.new ((V.alloc (.cells c 26)).alloc (.cells d 26)) f 26
    rwa [World.size_alloc, World.size_alloc] at this
theorem null_la (w : World) (N : Nat) : LA w N (.slice none 0 0) [] := .mk none 0 [] (by simp) (fun j hj => by simp at hj)
set_option maxRecDepth 100000 in
set_option maxHeartbeats 8000000 in
theorem vorder_any (N : Nat) (hN0 : N ≤ 4000000000000000000) (ao : Option Addr) (cap : Nat) (l : List V) (lang : Int) (W : World) (hE : Env W) (hl : l.length ≤ N) (hs : sizeL l ≤ 1000000000000000000) (ha : ∀ j (hj : j < l.length), EA W N ao (6 * j) l[j]) :
    Calls Tryz.prog 8 #[.agg #[.slice ao l.length cap, .int .i64 lang]] W fun e w' => e = .returned (.bool true) ∧ Below W.heap.size W w' := by
  have hN : N ≤ 9223372036854775807 := by omega
  have hal : Below W.heap.size W (W.alloc (.cells #[.slice ao l.length cap, .int .i64 lang] 37)) := (Below.refl _ _).alloc (Nat.le_refl _) _
  have hh0 : LH3 W (W.alloc (.cells #[.slice ao l.length cap, .int .i64 lang] 37)) #[.slice ao l.length cap, .int .i64 lang] := ⟨hal, hE.below hal, Blk.new _ _ _⟩
  have hlg := light_call N hN _ (.slice ao l.length cap) l ((LA.mk ao cap l hl ha).stay hal) hs
  generalize lightL l = lg at *
  replace hlg := Lib.hid hlg
  replace ha := Lib.hid ha
  replace hh0 := Lib.hid hh0
  have hli : (l.length : Int) ≤ 9223372036854775807 := by omega
  clear hal hE
  go_enter Tryz.func8, Tryz.ntmps8
  go_wp2_with fail
  refine (hlg.out).mono ?_
  rintro e w1 ⟨rfl, hb1⟩
  have hh1 := Lib.hid (hh0.out.on hb1)
  clear hb1 hlg hh0
  cases lg
  case false =>
    have hwk := Lib.hid (wakes2_call w1 hh1.out.env)
    go_wp2_with fail
    refine (hwk.out).mono ?_
    rintro e w2 ⟨rfl, hb2⟩
    have hbe := Lib.hid (hh1.out.on hb2).below
    clear hb2 hwk hh1
    go_wp2
    go_ret
    exact ⟨rfl, hbe.out⟩
  go_wp2
  go_loopw [3] (fun i wr => (∃ j : Nat, j ≤ l.length + 1 ∧ i = .int .i64 (j : Int)) ∧ Hid (LH3 W wr #[.slice ao l.length cap, .int .i64 lang])) (fun i _ => l.length + 2 - (intOf i).toNat)
  case atStart => exact ⟨⟨0, by omega, rfl⟩, hh1⟩
  case round =>
    clear hh1
    obtain ⟨⟨j, hj, rfl⟩, hh⟩ := hrel
    obtain ⟨w0, rfl⟩ : ∃ w0 : World, w0 = wr := ⟨_, rfl⟩
    have p0 := hh.out.bp.cell 0 rfl
    have hjb : (j : Int) ≤ 4000000000000000001 := by omega
    obtain ⟨q, hqq⟩ : ∃ q : Bool, decide (j + 2 < l.length ∧ j < 20) = q := ⟨_, rfl⟩
    replace hqq := Lib.hid hqq
    go_upto_region 4 with (fail)
    go_cut [24] (fun v wx => v = .bool q ∧ wx = w0)
    case first =>
      as_aux_lemma =>
        by_cases h1 : j + 2 < l.length
        · have h1i : (j : Int) + 2 < (l.length : Int) := by omega
          by_cases h2 : j < 20
          · have h2i : (j : Int) < 20 := by omega
            obtain rfl : true = q := by rw [← hqq.out]; exact (decide_eq_true ⟨h1, h2⟩).symm
            go_wp2
            go_meet
            exact ⟨rfl, rfl⟩
          · have h2i : ¬ (j : Int) < 20 := by omega
            obtain rfl : false = q := by rw [← hqq.out]; exact (decide_eq_false (fun e => h2 e.2)).symm
            go_wp2
            go_meet
            exact ⟨by first | rfl | (simp; omega), rfl⟩
        · have h1i : ¬ (j : Int) + 2 < (l.length : Int) := by omega
          obtain rfl : false = q := by rw [← hqq.out]; exact (decide_eq_false (fun e => h1 e.1)).symm
          go_wp2
          go_meet
          exact ⟨rfl, rfl⟩
    obtain ⟨rfl, hwx⟩ := hcut
    rw [hwx]; clear hwx
    cases q
    case false =>
      have hwk := Lib.hid (wakes2_call w0 hh.out.env)
      clear p0 hqq
      go_wp2_with fail
      refine (hwk.out).mono ?_
      rintro e w2 ⟨rfl, hb2⟩
      have hbe := Lib.hid (hh.out.on hb2).below
      clear hb2 hwk hh
      go_wp2
      go_ret
      exact ⟨rfl, hbe.out⟩
    case true =>
      obtain ⟨hlt, _⟩ := of_decide_eq_true hqq.out
      clear hqq
      have i1 : (j : Int) + 1 < (l.length : Int) := by omega
      have i2 : (j : Int) + 2 < (l.length : Int) := by omega
      have i0 : (j : Int) < (l.length : Int) := by omega
      have e4 : ((j : Int) + 1).toNat = j + 1 := by omega
      have e5 : ((j : Int) + 2).toNat = j + 2 := by omega
      have c0 : 0 ≤ (j : Int) + 1 := by omega
      have c1 : 0 ≤ (j : Int) + 2 := by omega
      have el := (ha.out j (by omega)).stay hh.out.below
      have el2 := (ha.out (j + 1) (by omega)).stay hh.out.below
      have el3 := (ha.out (j + 2) (by omega)).stay hh.out.below
      rw [Nat.mul_comm 6 j] at el
      rw [Nat.mul_comm 6 (j + 1)] at el2
      rw [Nat.mul_comm 6 (j + 2)] at el3
      generalize l[j]'(by omega) = v at el
      generalize l[j + 1]'(by omega) = v2 at el2
      generalize l[j + 2]'(by omega) = v3 at el3
      cases el with
      | mk b off o k bo n t x l1 s hr hk hn ht hx hsl =>
      cases el2 with
      | mk b2' off2 o2 k2 bo2 n2 t2 x2 l12 s2 hr2 hk2 hn2 ht2 hx2 hsl2 =>
      cases el3 with
      | mk b3' off3 o3 k3 bo3 n3 t3 x3' l13 s3 hr3 hk3 hn3 ht3 hx3 hsl3 =>
        obtain ⟨aoE, capE, rfl⟩ := LA.form6 hsl
        obtain ⟨aoF, capF, rfl⟩ := LA.form6 hsl2
        obtain ⟨aoG, capG, rfl⟩ := LA.form6 hsl3
        have hq := LR.made hh.out #[.int .i64 k, .bool bo, .int .i64 n, .string t, .string x, .slice aoE l1.length capE] #[.int .i64 k2, .bool bo2, .int .i64 n2, .string t2, .string x2, .slice aoF l12.length capF] #[.int .i64 k3, .bool bo3, .int .i64 n3, .string t3, .string x3', .slice aoG l13.length capG]
        obtain ⟨z0, z1, z2, z3, z4, z5⟩ := hr.six
        have hal1 : Below w0.heap.size w0 (w0.alloc (.cells #[.int .i64 k, .bool bo, .int .i64 n, .string t, .string x, .slice aoE l1.length capE] 26)) := (Below.refl _ _).alloc (Nat.le_refl _) _
        have hal2 : Below w0.heap.size w0 ((w0.alloc (.cells #[.int .i64 k, .bool bo, .int .i64 n, .string t, .string x, .slice aoE l1.length capE] 26)).alloc (.cells #[.int .i64 k2, .bool bo2, .int .i64 n2, .string t2, .string x2, .slice aoF l12.length capF] 26)) := hal1.alloc hal1.size _
        obtain ⟨u0', u1', u2', u3', u4', u5'⟩ := (hr2.below hal1).six
        obtain ⟨s0', s1', s2', s3', s4', s5'⟩ := (hr3.below hal2).six
        have q0 := (hh.out.bp.alloc (.cells #[.int .i64 k, .bool bo, .int .i64 n, .string t, .string x, .slice aoE l1.length capE] 26)).cell 0 rfl
        have q00 := ((hh.out.bp.alloc (.cells #[.int .i64 k, .bool bo, .int .i64 n, .string t, .string x, .slice aoE l1.length capE] 26)).alloc (.cells #[.int .i64 k2, .bool bo2, .int .i64 n2, .string t2, .string x2, .slice aoF l12.length capF] 26)).cell 0 rfl
        have hoab := fun (w : World) (h : LR W w0 w #[.slice (some ⟨b, off, none⟩) l.length cap, .int .i64 lang] #[.int .i64 k, .bool bo, .int .i64 n, .string t, .string x, .slice aoE l1.length capE] #[.int .i64 k2, .bool bo2, .int .i64 n2, .string t2, .string x2, .slice aoF l12.length capF] #[.int .i64 k3, .bool bo3, .int .i64 n3, .string t3, .string x3', .slice aoG l13.length capG]) => order_all N hN lang (SizeOf.sizeOf l1 + 1) w h.env k bo n hn t x _ l1 k2 bo2 n2 hn2 t2 x2 _ l12 (Nat.lt_succ_self _) (hsl.stay h.vb) (hsl2.stay h.vb)
        have hobc := fun (w : World) (h : LR W w0 w #[.slice (some ⟨b, off, none⟩) l.length cap, .int .i64 lang] #[.int .i64 k, .bool bo, .int .i64 n, .string t, .string x, .slice aoE l1.length capE] #[.int .i64 k2, .bool bo2, .int .i64 n2, .string t2, .string x2, .slice aoF l12.length capF] #[.int .i64 k3, .bool bo3, .int .i64 n3, .string t3, .string x3', .slice aoG l13.length capG]) => order_all N hN lang (SizeOf.sizeOf l12 + 1) w h.env k2 bo2 n2 hn2 t2 x2 _ l12 k3 bo3 n3 hn3 t3 x3' _ l13 (Nat.lt_succ_self _) (hsl2.stay h.vb) (hsl3.stay h.vb)
        have hoac := fun (w : World) (h : LR W w0 w #[.slice (some ⟨b, off, none⟩) l.length cap, .int .i64 lang] #[.int .i64 k, .bool bo, .int .i64 n, .string t, .string x, .slice aoE l1.length capE] #[.int .i64 k2, .bool bo2, .int .i64 n2, .string t2, .string x2, .slice aoF l12.length capF] #[.int .i64 k3, .bool bo3, .int .i64 n3, .string t3, .string x3', .slice aoG l13.length capG]) => order_all N hN lang (SizeOf.sizeOf l1 + 1) w h.env k bo n hn t x _ l1 k3 bo3 n3 hn3 t3 x3' _ l13 (Nat.lt_succ_self _) (hsl.stay h.vb) (hsl3.stay h.vb)
        have hoba := fun (w : World) (h : LR W w0 w #[.slice (some ⟨b, off, none⟩) l.length cap, .int .i64 lang] #[.int .i64 k, .bool bo, .int .i64 n, .string t, .string x, .slice aoE l1.length capE] #[.int .i64 k2, .bool bo2, .int .i64 n2, .string t2, .string x2, .slice aoF l12.length capF] #[.int .i64 k3, .bool bo3, .int .i64 n3, .string t3, .string x3', .slice aoG l13.length capG]) => order_all N hN lang (SizeOf.sizeOf l12 + 1) w h.env k2 bo2 n2 hn2 t2 x2 _ l12 k bo n hn t x _ l1 (Nat.lt_succ_self _) (hsl2.stay h.vb) (hsl.stay h.vb)
        have hlt := fun (w : World) (h : LR W w0 w #[.slice (some ⟨b, off, none⟩) l.length cap, .int .i64 lang] #[.int .i64 k, .bool bo, .int .i64 n, .string t, .string x, .slice aoE l1.length capE] #[.int .i64 k2, .bool bo2, .int .i64 n2, .string t2, .string x2, .slice aoF l12.length capF] #[.int .i64 k3, .bool bo3, .int .i64 n3, .string t3, .string x3', .slice aoG l13.length capG]) => less_call N lang hN w h.env k bo n hn t x _ l1 k2 bo2 n2 hn2 t2 x2 _ l12 (hsl.stay h.vb) ht hx (hsl2.stay h.vb) ht2 hx2
        have hcka := fun (w : World) (h : LR W w0 w #[.slice (some ⟨b, off, none⟩) l.length cap, .int .i64 lang] #[.int .i64 k, .bool bo, .int .i64 n, .string t, .string x, .slice aoE l1.length capE] #[.int .i64 k2, .bool bo2, .int .i64 n2, .string t2, .string x2, .slice aoF l12.length capF] #[.int .i64 k3, .bool bo3, .int .i64 n3, .string t3, .string x3', .slice aoG l13.length capG]) => check_any N hN w h.env k bo n t x _ l1 (hsl.stay h.vb) ht hx
        have hckb := fun (w : World) (h : LR W w0 w #[.slice (some ⟨b, off, none⟩) l.length cap, .int .i64 lang] #[.int .i64 k, .bool bo, .int .i64 n, .string t, .string x, .slice aoE l1.length capE] #[.int .i64 k2, .bool bo2, .int .i64 n2, .string t2, .string x2, .slice aoF l12.length capF] #[.int .i64 k3, .bool bo3, .int .i64 n3, .string t3, .string x3', .slice aoG l13.length capG]) => check_any N hN w h.env k2 bo2 n2 t2 x2 _ l12 (hsl2.stay h.vb) ht2 hx2
        have hsm := fun (w : World) (h : LR W w0 w #[.slice (some ⟨b, off, none⟩) l.length cap, .int .i64 lang] #[.int .i64 k, .bool bo, .int .i64 n, .string t, .string x, .slice aoE l1.length capE] #[.int .i64 k2, .bool bo2, .int .i64 n2, .string t2, .string x2, .slice aoF l12.length capF] #[.int .i64 k3, .bool bo3, .int .i64 n3, .string t3, .string x3', .slice aoG l13.length capG]) => rsame_call N hN w k bo n t x _ l1 k2 bo2 n2 t2 x2 _ l12 (hsl.stay h.vb) (hsl2.stay h.vb)
        have honc := fun (w : World) (h : LR W w0 w #[.slice (some ⟨b, off, none⟩) l.length cap, .int .i64 lang] #[.int .i64 k, .bool bo, .int .i64 n, .string t, .string x, .slice aoE l1.length capE] #[.int .i64 k2, .bool bo2, .int .i64 n2, .string t2, .string x2, .slice aoF l12.length capF] #[.int .i64 k3, .bool bo3, .int .i64 n3, .string t3, .string x3', .slice aoG l13.length capG]) => order_all N hN 0 (SizeOf.sizeOf l1 + 1) w h.env k bo n hn t x _ l1 0 false 0 (by unfold In64; omega) ⟨#[]⟩ ⟨#[]⟩ _ [] (Nat.lt_succ_self _) (hsl.stay h.vb) (null_la _ _)
        have hons := fun (w : World) (h : LR W w0 w #[.slice (some ⟨b, off, none⟩) l.length cap, .int .i64 lang] #[.int .i64 k, .bool bo, .int .i64 n, .string t, .string x, .slice aoE l1.length capE] #[.int .i64 k2, .bool bo2, .int .i64 n2, .string t2, .string x2, .slice aoF l12.length capF] #[.int .i64 k3, .bool bo3, .int .i64 n3, .string t3, .string x3', .slice aoG l13.length capG]) => order_all N hN 1 (SizeOf.sizeOf l1 + 1) w h.env k bo n hn t x _ l1 0 false 0 (by unfold In64; omega) ⟨#[]⟩ ⟨#[]⟩ _ [] (Nat.lt_succ_self _) (hsl.stay h.vb) (null_la _ _)
        have f1 := ordV_neg (decide (lang = 1)) (.mk k bo n t x l1) (.mk k2 bo2 n2 t2 x2 l12)
        have f2 := ordV_tri (decide (lang = 1)) (.mk k bo n t x l1) (.mk k2 bo2 n2 t2 x2 l12) (.mk k3 bo3 n3 t3 x3' l13)
        have f3 := ordV_in (decide (lang = 1)) (.mk k bo n t x l1) (.mk k2 bo2 n2 t2 x2 l12)
        have f4 := ordV_in (decide (lang = 1)) (.mk k2 bo2 n2 t2 x2 l12) (.mk k3 bo3 n3 t3 x3' l13)
        have f5 := ordV_in (decide (lang = 1)) (.mk k bo n t x l1) (.mk k3 bo3 n3 t3 x3' l13)
        have f6 := ord_same (decide (lang = 1)) (.mk k bo n t x l1) (.mk k2 bo2 n2 t2 x2 l12)
        have f7 := sameP_iff (.mk k bo n t x l1) (.mk k2 bo2 n2 t2 x2 l12)
        have f8 := lessV_ord (decide (lang = 1)) (.mk k bo n t x l1) (.mk k2 bo2 n2 t2 x2 l12)
        have f9 : 0 < ordV (decide ((0 : Int) = 1)) (.mk k bo n t x l1) (.mk 0 false 0 ⟨#[]⟩ ⟨#[]⟩ []) → k < 1 ∨ 10 < k := null_last (.mk k bo n t x l1)
        have f10 : ¬ ordV (decide ((1 : Int) = 1)) (.mk k bo n t x l1) (.mk 0 false 0 ⟨#[]⟩ ⟨#[]⟩ []) < 0 := null_first (.mk k bo n t x l1)
        rw [f1] at hoba
        generalize ordV (decide (lang = 1)) (.mk k bo n t x l1) (.mk k2 bo2 n2 t2 x2 l12) = AB at *
        generalize ordV (decide (lang = 1)) (.mk k2 bo2 n2 t2 x2 l12) (.mk k3 bo3 n3 t3 x3' l13) = BC at *
        generalize ordV (decide (lang = 1)) (.mk k bo n t x l1) (.mk k3 bo3 n3 t3 x3' l13) = AC at *
        generalize ordV (decide ((0 : Int) = 1)) (.mk k bo n t x l1) (.mk 0 false 0 ⟨#[]⟩ ⟨#[]⟩ []) = OC at *
        generalize ordV (decide ((1 : Int) = 1)) (.mk k bo n t x l1) (.mk 0 false 0 ⟨#[]⟩ ⟨#[]⟩ []) = OS at *
        generalize lessV (.mk k bo n t x l1) (.mk k2 bo2 n2 t2 x2 l12) = L1 at *
        generalize mayV (.mk k bo n t x l1) = MA at *
        generalize mayV (.mk k2 bo2 n2 t2 x2 l12) = MB at *
        rw [← f7] at f6
        generalize sameP (.mk k bo n t x l1) (.mk k2 bo2 n2 t2 x2 l12) = Q at *
        unfold agg6 at hoab hobc hoac hoba hlt hcka hckb hsm honc hons
        replace hoab := Lib.hid hoab
        replace hobc := Lib.hid hobc
        replace hoac := Lib.hid hoac
        replace hoba := Lib.hid hoba
        replace hlt := Lib.hid hlt
        replace hcka := Lib.hid hcka
        replace hckb := Lib.hid hckb
        replace hsm := Lib.hid hsm
        replace honc := Lib.hid honc
        replace hons := Lib.hid hons
        replace f2 := Lib.hid f2
        replace f3 := Lib.hid f3
        replace f4 := Lib.hid f4
        replace f5 := Lib.hid f5
        replace f6 := Lib.hid f6
        replace f8 := Lib.hid f8
        replace f9 := Lib.hid f9
        have q1 := hq.bp.cell 1 rfl
        replace hq := Lib.hid hq
        clear hsl hsl2 hsl3 hr hr2 hr3 hal1 hal2 f1 f7 hh hk hk2 hk3
        have e1 : IntKind.i64.wrap ((j : Int) + 1) = (j : Int) + 1 := IntWalk.i64_in _ (by omega)
        have e2 : IntKind.i64.wrap ((j : Int) + 2) = (j : Int) + 2 := IntWalk.i64_in _ (by omega)
        go_wp2_with fail
        refine (hoab.out _ hq.out).mono ?_
        rintro e w4 ⟨rfl, hb4⟩
        have hq4 := hq.out.on hb4
        clear hb4 hq p0 q0 q00 q1 z0 z1 z2 z3 z4 z5 u0' u1' u2' u3' u4' u5' s0' s1' s2' s3' s4' s5' hoab
        obtain ⟨p0, p1, x0, x1, x2c, x3, x4, x5, y0, y1, y2, y3, y4, y5, v0, v1, v2c, v3, v4, v5⟩ := LR.cells hq4
        have hq := Lib.hid hq4
        clear hq4
        go_wp2_with fail
        refine (hobc.out _ hq.out).mono ?_
        rintro e w4 ⟨rfl, hb4⟩
        have hq4 := hq.out.on hb4
        clear hb4 hq
        clear p0 p1 x0 x1 x2c x3 x4 x5 y0 y1 y2 y3 y4 y5 v0 v1 v2c v3 v4 v5
        obtain ⟨p0, p1, x0, x1, x2c, x3, x4, x5, y0, y1, y2, y3, y4, y5, v0, v1, v2c, v3, v4, v5⟩ := LR.cells hq4
        have hq := Lib.hid hq4
        clear hq4
        go_wp2_with fail
        refine (hoac.out _ hq.out).mono ?_
        rintro e w4 ⟨rfl, hb4⟩
        have hq4 := hq.out.on hb4
        clear hb4 hq
        clear p0 p1 x0 x1 x2c x3 x4 x5 y0 y1 y2 y3 y4 y5 v0 v1 v2c v3 v4 v5
        obtain ⟨p0, p1, x0, x1, x2c, x3, x4, x5, y0, y1, y2, y3, y4, y5, v0, v1, v2c, v3, v4, v5⟩ := LR.cells hq4
        have hq := Lib.hid hq4
        clear hq4
        clear hobc hoac
        go_upto_region 12 with (fail)
        go_cut [118] (fun v wx => v = .bool false ∧ Hid (LR W w0 wx #[.slice (some ⟨b, off, none⟩) l.length cap, .int .i64 lang] #[.int .i64 k, .bool bo, .int .i64 n, .string t, .string x, .slice aoE l1.length capE] #[.int .i64 k2, .bool bo2, .int .i64 n2, .string t2, .string x2, .slice aoF l12.length capF] #[.int .i64 k3, .bool bo3, .int .i64 n3, .string t3, .string x3', .slice aoG l13.length capG]))
        case first =>
          as_aux_lemma =>
            go_wp2_with fail
            refine (hoba.out _ hq.out).mono ?_
            rintro e w4 ⟨rfl, hb4⟩
            have hq4 := hq.out.on hb4
            clear hb4 hq
            clear p0 p1 x0 x1 x2c x3 x4 x5 y0 y1 y2 y3 y4 y5 v0 v1 v2c v3 v4 v5
            obtain ⟨p0, p1, x0, x1, x2c, x3, x4, x5, y0, y1, y2, y3, y4, y5, v0, v1, v2c, v3, v4, v5⟩ := LR.cells hq4
            have hq := Lib.hid hq4
            clear hq4
            clear hoba f6 f8 f9 hlt hcka hckb hsm honc hons
            have g2 := f2.out
            have g3 := f3.out
            have g4 := f4.out
            have g5 := f5.out
            unfold Tri at g2
            unfold In1 at g3 g4 g5
            clear f2 f3 f4 f5
            rcases g3 with rfl | rfl | rfl
            · rcases g4 with rfl | rfl | rfl
              · obtain rfl : AC = -1 := by omega
                clear g2 g5
                go_wp2
                go_meet
                exact ⟨by first | rfl | (simp; omega), hq⟩
              · obtain rfl : AC = -1 := by omega
                clear g2 g5
                go_wp2
                go_meet
                exact ⟨by first | rfl | (simp; omega), hq⟩
              · clear g2 g5
                go_wp2
                go_meet
                exact ⟨by first | rfl | (simp; omega), hq⟩
            · rcases g4 with rfl | rfl | rfl
              · obtain rfl : AC = -1 := by omega
                clear g2 g5
                go_wp2
                go_meet
                exact ⟨by first | rfl | (simp; omega), hq⟩
              · obtain rfl : AC = 0 := by omega
                clear g2 g5
                go_wp2
                go_meet
                exact ⟨by first | rfl | (simp; omega), hq⟩
              · clear g2 g5
                go_wp2
                go_meet
                exact ⟨by first | rfl | (simp; omega), hq⟩
            · clear g2 g4 g5
              go_wp2
              go_meet
              exact ⟨by first | rfl | (simp; omega), hq⟩
        obtain ⟨rfl, hq5⟩ := hcut
        clear hq
        clear p0 p1 x0 x1 x2c x3 x4 x5 y0 y1 y2 y3 y4 y5 v0 v1 v2c v3 v4 v5
        obtain ⟨p0, p1, x0, x1, x2c, x3, x4, x5, y0, y1, y2, y3, y4, y5, v0, v1, v2c, v3, v4, v5⟩ := LR.cells hq5.out
        have hq := hq5
        clear hq5
        clear hoba f2 f4 f5
        go_upto_region 14 with (fail)
        go_cut [132] (fun v wx => v = .bool false ∧ Hid (LR W w0 wx #[.slice (some ⟨b, off, none⟩) l.length cap, .int .i64 lang] #[.int .i64 k, .bool bo, .int .i64 n, .string t, .string x, .slice aoE l1.length capE] #[.int .i64 k2, .bool bo2, .int .i64 n2, .string t2, .string x2, .slice aoF l12.length capF] #[.int .i64 k3, .bool bo3, .int .i64 n3, .string t3, .string x3', .slice aoG l13.length capG]))
        case first =>
          as_aux_lemma =>
            go_wp2_with fail
            refine (hcka.out _ hq.out).mono ?_
            rintro e w4 ⟨rfl, hb4⟩
            have hq4 := hq.out.on hb4
            clear hb4 hq
            clear p0 p1 x0 x1 x2c x3 x4 x5 y0 y1 y2 y3 y4 y5 v0 v1 v2c v3 v4 v5
            obtain ⟨p0, p1, x0, x1, x2c, x3, x4, x5, y0, y1, y2, y3, y4, y5, v0, v1, v2c, v3, v4, v5⟩ := LR.cells hq4
            have hq := Lib.hid hq4
            clear hq4
            cases MA
            · go_wp2
              go_meet
              exact ⟨by first | rfl | (simp; omega), hq⟩
            go_wp2_with fail
            refine (hckb.out _ hq.out).mono ?_
            rintro e w4 ⟨rfl, hb4⟩
            have hq4 := hq.out.on hb4
            clear hb4 hq
            clear p0 p1 x0 x1 x2c x3 x4 x5 y0 y1 y2 y3 y4 y5 v0 v1 v2c v3 v4 v5
            obtain ⟨p0, p1, x0, x1, x2c, x3, x4, x5, y0, y1, y2, y3, y4, y5, v0, v1, v2c, v3, v4, v5⟩ := LR.cells hq4
            have hq := Lib.hid hq4
            clear hq4
            cases MB
            · go_wp2
              go_meet
              exact ⟨by first | rfl | (simp; omega), hq⟩
            go_wp2_with fail
            refine (hsm.out _ hq.out).mono ?_
            rintro e w4 ⟨rfl, hb4⟩
            have hq4 := hq.out.on hb4
            clear hb4 hq
            clear p0 p1 x0 x1 x2c x3 x4 x5 y0 y1 y2 y3 y4 y5 v0 v1 v2c v3 v4 v5
            obtain ⟨p0, p1, x0, x1, x2c, x3, x4, x5, y0, y1, y2, y3, y4, y5, v0, v1, v2c, v3, v4, v5⟩ := LR.cells hq4
            have hq := Lib.hid hq4
            clear hq4
            have g6 := f6.out (by simp) (by simp)
            clear f6
            cases Q
            · have g7 : (AB == 0) = false := beq_eq_false_iff_ne.2 fun e => by have := g6.1 e; cases this
              clear g6
              go_wp2
              go_meet
              exact ⟨by first | rfl | (simp; omega), hq⟩
            · have g7 : (AB == 0) = true := beq_iff_eq.2 (g6.2 (by simp))
              clear g6
              go_wp2
              go_meet
              exact ⟨by first | rfl | (simp; omega), hq⟩
        obtain ⟨rfl, hq5⟩ := hcut
        clear hq
        clear p0 p1 x0 x1 x2c x3 x4 x5 y0 y1 y2 y3 y4 y5 v0 v1 v2c v3 v4 v5
        obtain ⟨p0, p1, x0, x1, x2c, x3, x4, x5, y0, y1, y2, y3, y4, y5, v0, v1, v2c, v3, v4, v5⟩ := LR.cells hq5.out
        have hq := hq5
        clear hq5
        clear hcka hckb hsm f6
        go_upto_region 16 with (fail)
        go_cut [164] (fun v wx => v = .bool false ∧ Hid (LR W w0 wx #[.slice (some ⟨b, off, none⟩) l.length cap, .int .i64 lang] #[.int .i64 k, .bool bo, .int .i64 n, .string t, .string x, .slice aoE l1.length capE] #[.int .i64 k2, .bool bo2, .int .i64 n2, .string t2, .string x2, .slice aoF l12.length capF] #[.int .i64 k3, .bool bo3, .int .i64 n3, .string t3, .string x3', .slice aoG l13.length capG]))
        case first =>
          as_aux_lemma =>
            go_wp2_with fail
            refine (hlt.out _ hq.out).mono ?_
            rintro e w4 ⟨rfl, hb4⟩
            have hq4 := hq.out.on hb4
            clear hb4 hq
            clear p0 p1 x0 x1 x2c x3 x4 x5 y0 y1 y2 y3 y4 y5 v0 v1 v2c v3 v4 v5
            obtain ⟨p0, p1, x0, x1, x2c, x3, x4, x5, y0, y1, y2, y3, y4, y5, v0, v1, v2c, v3, v4, v5⟩ := LR.cells hq4
            have hq := Lib.hid hq4
            clear hq4
            have hL : (L1 == 1) = false ∨ ((L1 == 1) = true ∧ (AB != -1) = false) := by
              by_cases e : L1 = 1
              · exact .inr ⟨beq_iff_eq.2 e, by rw [f8.out e]; rfl⟩
              · exact .inl (beq_eq_false_iff_ne.2 e)
            rcases hL with hL | ⟨hL, hL2⟩
            all_goals
              go_wp2_with fail
              refine (honc.out _ hq.out).mono ?_
              rintro e w4 ⟨rfl, hb4⟩
              have hq4 := hq.out.on hb4
              clear hb4 hq
              clear p0 p1 x0 x1 x2c x3 x4 x5 y0 y1 y2 y3 y4 y5 v0 v1 v2c v3 v4 v5
              obtain ⟨p0, p1, x0, x1, x2c, x3, x4, x5, y0, y1, y2, y3, y4, y5, v0, v1, v2c, v3, v4, v5⟩ := LR.cells hq4
              have hq := Lib.hid hq4
              clear hq4
              by_cases hOC : 0 < OC
              · rcases f9.out hOC with hk1 | hk10
                · have hk1' : ¬ 1 ≤ k := by omega
                  go_wp2_with fail
                  refine (hons.out _ hq.out).mono ?_
                  rintro e w4 ⟨rfl, hb4⟩
                  have hq4 := hq.out.on hb4
                  clear hb4 hq
                  clear p0 p1 x0 x1 x2c x3 x4 x5 y0 y1 y2 y3 y4 y5 v0 v1 v2c v3 v4 v5
                  obtain ⟨p0, p1, x0, x1, x2c, x3, x4, x5, y0, y1, y2, y3, y4, y5, v0, v1, v2c, v3, v4, v5⟩ := LR.cells hq4
                  have hq := Lib.hid hq4
                  clear hq4
                  go_wp2
                  go_meet
                  exact ⟨by first | rfl | (simp; omega), hq⟩
                · have hk1' : 1 ≤ k := by omega
                  have hk10' : ¬ k ≤ 10 := by omega
                  go_wp2_with fail
                  refine (hons.out _ hq.out).mono ?_
                  rintro e w4 ⟨rfl, hb4⟩
                  have hq4 := hq.out.on hb4
                  clear hb4 hq
                  clear p0 p1 x0 x1 x2c x3 x4 x5 y0 y1 y2 y3 y4 y5 v0 v1 v2c v3 v4 v5
                  obtain ⟨p0, p1, x0, x1, x2c, x3, x4, x5, y0, y1, y2, y3, y4, y5, v0, v1, v2c, v3, v4, v5⟩ := LR.cells hq4
                  have hq := Lib.hid hq4
                  clear hq4
                  go_wp2
                  go_meet
                  exact ⟨by first | rfl | (simp; omega), hq⟩
              · go_wp2_with fail
                refine (hons.out _ hq.out).mono ?_
                rintro e w4 ⟨rfl, hb4⟩
                have hq4 := hq.out.on hb4
                clear hb4 hq
                clear p0 p1 x0 x1 x2c x3 x4 x5 y0 y1 y2 y3 y4 y5 v0 v1 v2c v3 v4 v5
                obtain ⟨p0, p1, x0, x1, x2c, x3, x4, x5, y0, y1, y2, y3, y4, y5, v0, v1, v2c, v3, v4, v5⟩ := LR.cells hq4
                have hq := Lib.hid hq4
                clear hq4
                go_wp2
                go_meet
                exact ⟨by first | rfl | (simp; omega), hq⟩
        obtain ⟨rfl, hq5⟩ := hcut
        have hhd := Lib.hid hq5.out.head
        clear hq hq5 hlt honc hons f3 f8 f9
        clear p0 p1 x0 x1 x2c x3 x4 x5 y0 y1 y2 y3 y4 y5 v0 v1 v2c v3 v4 v5
        go_wp2
        go_roundw
        case rel => exact ⟨⟨j + 1, by omega, by go_num⟩, hhd⟩
        case measure => simp [intOf]; omega
end Go.Proofs.YthecgifgjagmaaaGreatDoor.val
