/- Equality goes both ways; of what is the same (and may be) it is true, in C but for what has none in it; Less of equal ones is never true; of two unlike ones only one is below: for every list of values, not above the bound, that may be read, where the listed variables of the library hold what the program's text lays. -/
import Derived.Test.YthecgifgjagmaaaGreatDoorVWakes
import Derived.IntWalk
import Derived.Deep.DeepCutAuto
namespace Go.Proofs.YthecgifgjagmaaaGreatDoor.val
open Go.ChangeShapes Go.WideShapes Go.ChangeAt Go.RowKit kit dec
set_option linter.unusedVariables false
set_option linter.unusedSimpArgs false
/-- A round's world: the law's box, two values in boxes. -/
structure LQ (W V w : World) (p c d : Array Value) : Prop where
  below : Below W.heap.size W w
  env : Env w
  wv : W.heap.size < V.heap.size
  vb : Below V.heap.size V w
  bp : Blk w W.heap.size p 37
  b0 : Blk w V.heap.size c 26
  b1 : Blk w (V.heap.size + 1) d 26
theorem LQ.on {W V w w' : World} {p c d : Array Value} (h : LQ W V w p c d) (hb : Below w.heap.size w w') : LQ W V w' p c d :=
  ⟨h.below.trans (hb.mono h.below.size), h.env.below hb, h.wv, h.vb.trans (hb.mono h.vb.size), h.bp.keep (Keep.ofBelow hb) (by simp), h.b0.keep (Keep.ofBelow hb) (by simp), h.b1.keep (Keep.ofBelow hb) (by simp)⟩
theorem LQ.cells {W V w : World} {p0 p1 c0 c1 c2 c3 c4 c5 d0 d1 d2 d3 d4 d5 : Value} (h : LQ W V w #[p0, p1] #[c0, c1, c2, c3, c4, c5] #[d0, d1, d2, d3, d4, d5]) :
    w.cell? ⟨W.heap.size, 0, none⟩ = some p0 ∧ w.cell? ⟨W.heap.size, 1, none⟩ = some p1 ∧ w.cell? ⟨V.heap.size, 0, none⟩ = some c0 ∧ w.cell? ⟨V.heap.size, 1, none⟩ = some c1 ∧ w.cell? ⟨V.heap.size, 2, none⟩ = some c2 ∧ w.cell? ⟨V.heap.size, 3, none⟩ = some c3 ∧ w.cell? ⟨V.heap.size, 4, none⟩ = some c4 ∧ w.cell? ⟨V.heap.size, 5, none⟩ = some c5 ∧
    w.cell? ⟨V.heap.size + 1, 0, none⟩ = some d0 ∧ w.cell? ⟨V.heap.size + 1, 1, none⟩ = some d1 ∧ w.cell? ⟨V.heap.size + 1, 2, none⟩ = some d2 ∧ w.cell? ⟨V.heap.size + 1, 3, none⟩ = some d3 ∧ w.cell? ⟨V.heap.size + 1, 4, none⟩ = some d4 ∧ w.cell? ⟨V.heap.size + 1, 5, none⟩ = some d5 :=
  ⟨h.bp.cell 0 rfl, h.bp.cell 1 rfl, h.b0.cell 0 rfl, h.b0.cell 1 rfl, h.b0.cell 2 rfl, h.b0.cell 3 rfl, h.b0.cell 4 rfl, h.b0.cell 5 rfl, h.b1.cell 0 rfl, h.b1.cell 1 rfl, h.b1.cell 2 rfl, h.b1.cell 3 rfl, h.b1.cell 4 rfl, h.b1.cell 5 rfl⟩
/-- The world of a law at a round's head. -/
structure LH (W w : World) (p : Array Value) : Prop where
  below : Below W.heap.size W w
  env : Env w
  bp : Blk w W.heap.size p 37
theorem LH.on {W w w' : World} {p : Array Value} (h : LH W w p) (hb : Below w.heap.size w w') : LH W w' p :=
  ⟨h.below.trans (hb.mono h.below.size), h.env.below hb, h.bp.keep (Keep.ofBelow hb) (by simp)⟩
theorem LQ.head {W V w : World} {p c d : Array Value} (h : LQ W V w p c d) : LH W w p := ⟨h.below, h.env, h.bp⟩
theorem LQ.made {W V : World} {p : Array Value} (h : LH W V p) (c d : Array Value) : LQ W V ((V.alloc (.cells c 26)).alloc (.cells d 26)) p c d := by
  have hb := (((Keep.refl [] V).alloc (.cells c 26)).alloc (.cells d 26)).below
  refine ⟨h.below.trans (hb.mono h.below.size), h.env.below hb, h.bp.lt, hb, h.bp.keep (Keep.ofBelow hb) (by simp), (Blk.new _ _ _).alloc _, ?_⟩
  have := Blk.new (V.alloc (.cells c 26)) d 26
  rwa [World.size_alloc] at this
set_option maxRecDepth 100000 in
set_option maxHeartbeats 8000000 in
theorem vequal_any (N : Nat) (hN : N ≤ 9223372036854775807) (ao : Option Addr) (cap : Nat) (l : List V) (lang : Int) (W : World) (hE : Env W) (hl : l.length ≤ N) (hs : sizeL l ≤ 1000000000000000000) (ha : ∀ j (hj : j < l.length), EA W N ao (6 * j) l[j]) :
    Calls Tryz.prog 6 #[.agg #[.slice ao l.length cap, .int .i64 lang]] W fun e w' => e = .returned (.bool true) ∧ Below W.heap.size W w' := by
  have hal : Below W.heap.size W (W.alloc (.cells #[.slice ao l.length cap, .int .i64 lang] 37)) := (Below.refl _ _).alloc (Nat.le_refl _) _
  have hh0 : LH W (W.alloc (.cells #[.slice ao l.length cap, .int .i64 lang] 37)) #[.slice ao l.length cap, .int .i64 lang] := ⟨hal, hE.below hal, Blk.new _ _ _⟩
  have hlg := light_call N hN _ (.slice ao l.length cap) l ((LA.mk ao cap l hl ha).stay hal) hs
  generalize lightL l = lg at *
  replace hlg := Lib.hid hlg
  replace ha := Lib.hid ha
  replace hh0 := Lib.hid hh0
  have hli : (l.length : Int) ≤ 9223372036854775807 := by omega
  clear hal hE
  go_enter Tryz.func6, Tryz.ntmps6
  go_wp2_with fail
  refine (hlg.out).mono ?_
  rintro e w1 ⟨rfl, hb1⟩
  have hh1 := Lib.hid (hh0.out.on hb1)
  clear hb1 hlg hh0
  cases lg
  case false =>
    have hwk := Lib.hid (wakes2_call w1 hh1.out.env)
    go_wp2_with fail
    refine (hwk.out).mono ?_
    rintro e w2 ⟨rfl, hb2⟩
    have hbe := Lib.hid (hh1.out.on hb2).below
    clear hb2 hwk hh1
    go_wp2
    go_ret
    exact ⟨rfl, hbe.out⟩
  go_wp2
  go_loopw [3] (fun i wr => (∃ j : Nat, j ≤ l.length ∧ i = .int .i64 ((j : Int) + 1)) ∧ Hid (LH W wr #[.slice ao l.length cap, .int .i64 lang])) (fun i _ => l.length + 2 - (intOf i).toNat)
  case atStart => exact ⟨⟨0, by omega, rfl⟩, hh1⟩
  case round =>
    clear hh1
    obtain ⟨⟨j, hj, rfl⟩, hh⟩ := hrel
    obtain ⟨w0, rfl⟩ : ∃ w0 : World, w0 = wr := ⟨_, rfl⟩
    have p0 := hh.out.bp.cell 0 rfl
    obtain ⟨q, hqq⟩ : ∃ q : Bool, decide (j + 1 < l.length ∧ j + 1 < 20) = q := ⟨_, rfl⟩
    replace hqq := Lib.hid hqq
    go_upto_region 4 with (fail)
    go_cut [21] (fun v wx => v = .bool q ∧ wx = w0)
    case first =>
      as_aux_lemma =>
        by_cases h1 : j + 1 < l.length
        · have h1i : (j : Int) + 1 < (l.length : Int) := by omega
          by_cases h2 : j + 1 < 20
          · have h2i : (j : Int) + 1 < 20 := by omega
            obtain rfl : true = q := by rw [← hqq.out]; exact (decide_eq_true ⟨h1, h2⟩).symm
            go_wp2
            go_meet
            exact ⟨rfl, rfl⟩
          · have h2i : ¬ (j : Int) + 1 < 20 := by omega
            obtain rfl : false = q := by rw [← hqq.out]; exact (decide_eq_false (fun e => h2 e.2)).symm
            go_wp2
            go_meet
            exact ⟨rfl, rfl⟩
        · have h1i : ¬ (j : Int) + 1 < (l.length : Int) := by omega
          obtain rfl : false = q := by rw [← hqq.out]; exact (decide_eq_false (fun e => h1 e.1)).symm
          go_wp2
          go_meet
          exact ⟨rfl, rfl⟩
    obtain ⟨rfl, hwx⟩ := hcut
    rw [hwx]; clear hwx
    cases q
    case false =>
      have hwk := Lib.hid (wakes2_call w0 hh.out.env)
      clear p0 hqq
      go_wp2_with fail
      refine (hwk.out).mono ?_
      rintro e w2 ⟨rfl, hb2⟩
      have hbe := Lib.hid (hh.out.on hb2).below
      clear hb2 hwk hh
      go_wp2
      go_ret
      exact ⟨rfl, hbe.out⟩
    case true =>
      obtain ⟨hlt, _⟩ := of_decide_eq_true hqq.out
      clear hqq
      have i1 : (j : Int) + 1 < (l.length : Int) := by omega
      have b2 : (j : Int) < (l.length : Int) := by omega
      have e4 : ((j : Int) + 1).toNat = j + 1 := by omega
      have b0 : 0 ≤ (j : Int) + 1 := by omega
      have el := (ha.out j (by omega)).stay hh.out.below
      have el2 := (ha.out (j + 1) hlt).stay hh.out.below
      rw [Nat.mul_comm 6 j] at el
      rw [Nat.mul_comm 6 (j + 1)] at el2
      generalize l[j]'(by omega) = v at el
      generalize l[j + 1]'hlt = v2 at el2
      cases el with
      | mk b off o k bo n t x l1 s hr hk hn ht hx hsl =>
      cases el2 with
      | mk b2' off2 o2 k2 bo2 n2 t2 x2 l12 s2 hr2 hk2 hn2 ht2 hx2 hsl2 =>
        obtain ⟨aoE, capE, rfl⟩ := LA.form6 hsl
        obtain ⟨aoF, capF, rfl⟩ := LA.form6 hsl2
        have hq := LQ.made hh.out #[.int .i64 k, .bool bo, .int .i64 n, .string t, .string x, .slice aoE l1.length capE] #[.int .i64 k2, .bool bo2, .int .i64 n2, .string t2, .string x2, .slice aoF l12.length capF]
        obtain ⟨z0, z1, z2, z3, z4, z5⟩ := hr.six
        obtain ⟨u0, u1, u2, u3, u4, u5⟩ := hr2.six
        have hal1 : Below w0.heap.size w0 (w0.alloc (.cells #[.int .i64 k, .bool bo, .int .i64 n, .string t, .string x, .slice aoE l1.length capE] 26)) := (Below.refl _ _).alloc (Nat.le_refl _) _
        obtain ⟨u0', u1', u2', u3', u4', u5'⟩ := (hr2.below hal1).six
        have q0 := (hh.out.bp.alloc (.cells #[.int .i64 k, .bool bo, .int .i64 n, .string t, .string x, .slice aoE l1.length capE] 26)).cell 0 rfl
        have heqab := fun (w : World) (h : LQ W w0 w #[.slice (some ⟨b, off, none⟩) l.length cap, .int .i64 lang] #[.int .i64 k, .bool bo, .int .i64 n, .string t, .string x, .slice aoE l1.length capE] #[.int .i64 k2, .bool bo2, .int .i64 n2, .string t2, .string x2, .slice aoF l12.length capF]) => equalX_call N lang hN w h.env k bo n hn t x _ l1 k2 bo2 n2 hn2 t2 x2 _ l12 (hsl.stay h.vb) ht hx (hsl2.stay h.vb) ht2 hx2
        have heqba := fun (w : World) (h : LQ W w0 w #[.slice (some ⟨b, off, none⟩) l.length cap, .int .i64 lang] #[.int .i64 k, .bool bo, .int .i64 n, .string t, .string x, .slice aoE l1.length capE] #[.int .i64 k2, .bool bo2, .int .i64 n2, .string t2, .string x2, .slice aoF l12.length capF]) => equalX_call N lang hN w h.env k2 bo2 n2 hn2 t2 x2 _ l12 k bo n hn t x _ l1 (hsl2.stay h.vb) ht2 hx2 (hsl.stay h.vb) ht hx
        have heqaa := fun (w : World) (h : LQ W w0 w #[.slice (some ⟨b, off, none⟩) l.length cap, .int .i64 lang] #[.int .i64 k, .bool bo, .int .i64 n, .string t, .string x, .slice aoE l1.length capE] #[.int .i64 k2, .bool bo2, .int .i64 n2, .string t2, .string x2, .slice aoF l12.length capF]) => equalX_call N lang hN w h.env k bo n hn t x _ l1 k bo n hn t x _ l1 (hsl.stay h.vb) ht hx (hsl.stay h.vb) ht hx
        have hltab := fun (w : World) (h : LQ W w0 w #[.slice (some ⟨b, off, none⟩) l.length cap, .int .i64 lang] #[.int .i64 k, .bool bo, .int .i64 n, .string t, .string x, .slice aoE l1.length capE] #[.int .i64 k2, .bool bo2, .int .i64 n2, .string t2, .string x2, .slice aoF l12.length capF]) => less_call N lang hN w h.env k bo n hn t x _ l1 k2 bo2 n2 hn2 t2 x2 _ l12 (hsl.stay h.vb) ht hx (hsl2.stay h.vb) ht2 hx2
        have hltba := fun (w : World) (h : LQ W w0 w #[.slice (some ⟨b, off, none⟩) l.length cap, .int .i64 lang] #[.int .i64 k, .bool bo, .int .i64 n, .string t, .string x, .slice aoE l1.length capE] #[.int .i64 k2, .bool bo2, .int .i64 n2, .string t2, .string x2, .slice aoF l12.length capF]) => less_call N lang hN w h.env k2 bo2 n2 hn2 t2 x2 _ l12 k bo n hn t x _ l1 (hsl2.stay h.vb) ht2 hx2 (hsl.stay h.vb) ht hx
        have hcka := fun (w : World) (h : LQ W w0 w #[.slice (some ⟨b, off, none⟩) l.length cap, .int .i64 lang] #[.int .i64 k, .bool bo, .int .i64 n, .string t, .string x, .slice aoE l1.length capE] #[.int .i64 k2, .bool bo2, .int .i64 n2, .string t2, .string x2, .slice aoF l12.length capF]) => check_any N hN w h.env k bo n t x _ l1 (hsl.stay h.vb) ht hx
        have f1 := equalV_sym (decide (lang = 1)) (.mk k bo n t x l1) (.mk k2 bo2 n2 t2 x2 l12)
        have f2 := equalV_in (decide (lang = 1)) (.mk k bo n t x l1) (.mk k2 bo2 n2 t2 x2 l12)
        have f3 := equalV_less (decide (lang = 1)) (.mk k bo n t x l1) (.mk k2 bo2 n2 t2 x2 l12)
        have f4 : equalV (decide (lang = 1)) (.mk k bo n t x l1) (.mk k2 bo2 n2 t2 x2 l12) = 1 → lessV (.mk k2 bo2 n2 t2 x2 l12) (.mk k bo n t x l1) ≠ 1 := fun e => equalV_less _ _ _ (f1.trans e)
        have f5 := equalV_self (decide (lang = 1)) (.mk k bo n t x l1)
        have f6 : mayV (.mk k bo n t x l1) = true → 1 ≤ k → k ≤ 4 → equalV (decide (lang = 1)) (.mk k bo n t x l1) (.mk k bo n t x l1) = 1 := fun e h1 h4 => equalV_plain _ _ e h1 h4
        have f7 := lessV_asym (.mk k bo n t x l1) (.mk k2 bo2 n2 t2 x2 l12)
        rw [f1] at heqba
        generalize equalV (decide (lang = 1)) (.mk k bo n t x l1) (.mk k2 bo2 n2 t2 x2 l12) = EQ at *
        generalize equalV (decide (lang = 1)) (.mk k bo n t x l1) (.mk k bo n t x l1) = ES at *
        generalize lessV (.mk k bo n t x l1) (.mk k2 bo2 n2 t2 x2 l12) = L1 at *
        generalize lessV (.mk k2 bo2 n2 t2 x2 l12) (.mk k bo n t x l1) = L2 at *
        generalize mayV (.mk k bo n t x l1) = MA at *
        unfold agg6 at heqab heqba heqaa hltab hltba hcka
        have n1 : ¬ EQ < 0 := by omega
        have n2' : ¬ 2 < EQ := by omega
        have n5 : (ES == 0) = false := beq_eq_false_iff_ne.2 f5
        replace heqab := Lib.hid heqab
        replace heqba := Lib.hid heqba
        replace heqaa := Lib.hid heqaa
        replace hltab := Lib.hid hltab
        replace hltba := Lib.hid hltba
        replace hcka := Lib.hid hcka
        replace f3 := Lib.hid f3
        replace f4 := Lib.hid f4
        replace f6 := Lib.hid f6
        replace f7 := Lib.hid f7
        have q1 := hq.bp.cell 1 rfl
        replace hq := Lib.hid hq
        clear hsl hsl2 hr hr2 hal1 f1 f2 f5 hh hk hk2
        have e1 : IntKind.i64.wrap ((j : Int) + 1 - 1) = (j : Int) := by rw [IntWalk.i64_in _ (by omega)]; omega
        have e1' : IntKind.i64.wrap (j : Int) = (j : Int) := IntWalk.i64_in _ (by omega)
        -- the two values, whether they are equal
        go_wp2_with fail
        refine (heqab.out _ hq.out).mono ?_
        rintro e w4 ⟨rfl, hb4⟩
        have hq4 := hq.out.on hb4
        clear hb4 hq p0 q0 q1 z0 z1 z2 z3 z4 z5 u0 u1 u2 u3 u4 u5 u0' u1' u2' u3' u4' u5' heqab
        obtain ⟨p0, p1, x0, x1, x2c, x3, x4, x5, y0, y1, y2, y3, y4, y5⟩ := LQ.cells hq4
        have hq := Lib.hid hq4
        clear hq4
        go_wp2_with fail
        refine (heqba.out _ hq.out).mono ?_
        rintro e w4 ⟨rfl, hb4⟩
        have hq4 := hq.out.on hb4
        clear hb4 hq
        clear p0 p1 x0 x1 x2c x3 x4 x5 y0 y1 y2 y3 y4 y5
        obtain ⟨p0, p1, x0, x1, x2c, x3, x4, x5, y0, y1, y2, y3, y4, y5⟩ := LQ.cells hq4
        have hq := Lib.hid hq4
        clear hq4
        clear heqba
        go_upto_region 11 with (fail)
        go_cut [72] (fun v wx => v = .bool false ∧ Hid (LQ W w0 wx #[.slice (some ⟨b, off, none⟩) l.length cap, .int .i64 lang] #[.int .i64 k, .bool bo, .int .i64 n, .string t, .string x, .slice aoE l1.length capE] #[.int .i64 k2, .bool bo2, .int .i64 n2, .string t2, .string x2, .slice aoF l12.length capF]))
        case first =>
          as_aux_lemma =>
            by_cases hE1 : EQ = 1
            · subst hE1
              have g1 : (L1 == 1) = false := beq_eq_false_iff_ne.2 (f3.out rfl)
              have g2 : (L2 == 1) = false := beq_eq_false_iff_ne.2 (f4.out rfl)
              go_wp2_with fail
              refine (hltab.out _ hq.out).mono ?_
              rintro e w4 ⟨rfl, hb4⟩
              have hq4 := hq.out.on hb4
              clear hb4 hq
              clear p0 p1 x0 x1 x2c x3 x4 x5 y0 y1 y2 y3 y4 y5
              obtain ⟨p0, p1, x0, x1, x2c, x3, x4, x5, y0, y1, y2, y3, y4, y5⟩ := LQ.cells hq4
              have hq := Lib.hid hq4
              clear hq4
              go_wp2_with fail
              refine (hltba.out _ hq.out).mono ?_
              rintro e w4 ⟨rfl, hb4⟩
              have hq4 := hq.out.on hb4
              clear hb4 hq
              clear p0 p1 x0 x1 x2c x3 x4 x5 y0 y1 y2 y3 y4 y5
              obtain ⟨p0, p1, x0, x1, x2c, x3, x4, x5, y0, y1, y2, y3, y4, y5⟩ := LQ.cells hq4
              have hq := Lib.hid hq4
              clear hq4
              go_wp2
              go_meet
              exact ⟨rfl, hq⟩
            · have g0 : (EQ == 1) = false := beq_eq_false_iff_ne.2 hE1
              clear hE1
              go_wp2
              go_meet
              exact ⟨rfl, hq⟩
        obtain ⟨rfl, hq5⟩ := hcut
        clear hq f3 f4
        clear p0 p1 x0 x1 x2c x3 x4 x5 y0 y1 y2 y3 y4 y5
        obtain ⟨p0, p1, x0, x1, x2c, x3, x4, x5, y0, y1, y2, y3, y4, y5⟩ := LQ.cells hq5.out
        have hq := hq5
        clear hq5
        go_wp2_with fail
        refine (heqaa.out _ hq.out).mono ?_
        rintro e w4 ⟨rfl, hb4⟩
        have hq4 := hq.out.on hb4
        clear hb4 hq
        clear p0 p1 x0 x1 x2c x3 x4 x5 y0 y1 y2 y3 y4 y5
        obtain ⟨p0, p1, x0, x1, x2c, x3, x4, x5, y0, y1, y2, y3, y4, y5⟩ := LQ.cells hq4
        have hq := Lib.hid hq4
        clear hq4
        clear heqaa
        go_upto_region 14 with (fail)
        go_cut [97] (fun v wx => v = .bool false ∧ Hid (LQ W w0 wx #[.slice (some ⟨b, off, none⟩) l.length cap, .int .i64 lang] #[.int .i64 k, .bool bo, .int .i64 n, .string t, .string x, .slice aoE l1.length capE] #[.int .i64 k2, .bool bo2, .int .i64 n2, .string t2, .string x2, .slice aoF l12.length capF]))
        case first =>
          as_aux_lemma =>
            go_wp2_with fail
            refine (hcka.out _ hq.out).mono ?_
            rintro e w4 ⟨rfl, hb4⟩
            have hq4 := hq.out.on hb4
            clear hb4 hq
            clear p0 p1 x0 x1 x2c x3 x4 x5 y0 y1 y2 y3 y4 y5
            obtain ⟨p0, p1, x0, x1, x2c, x3, x4, x5, y0, y1, y2, y3, y4, y5⟩ := LQ.cells hq4
            have hq := Lib.hid hq4
            clear hq4
            cases MA
            · go_wp2
              go_meet
              exact ⟨rfl, hq⟩
            by_cases h1 : 1 ≤ k
            · by_cases h4 : k ≤ 4
              · have g0 : (ES != 1) = false := by rw [f6.out rfl h1 h4]; rfl
                go_wp2
                go_meet
                exact ⟨rfl, hq⟩
              · go_wp2
                go_meet
                exact ⟨rfl, hq⟩
            · go_wp2
              go_meet
              exact ⟨rfl, hq⟩
        obtain ⟨rfl, hq5⟩ := hcut
        clear hq hcka f6
        clear p0 p1 x0 x1 x2c x3 x4 x5 y0 y1 y2 y3 y4 y5
        obtain ⟨p0, p1, x0, x1, x2c, x3, x4, x5, y0, y1, y2, y3, y4, y5⟩ := LQ.cells hq5.out
        have hq := hq5
        clear hq5
        go_upto_region 16 with (fail)
        go_cut [111] (fun v wx => v = .bool false ∧ Hid (LQ W w0 wx #[.slice (some ⟨b, off, none⟩) l.length cap, .int .i64 lang] #[.int .i64 k, .bool bo, .int .i64 n, .string t, .string x, .slice aoE l1.length capE] #[.int .i64 k2, .bool bo2, .int .i64 n2, .string t2, .string x2, .slice aoF l12.length capF]))
        case first =>
          as_aux_lemma =>
            go_wp2_with fail
            refine (hltab.out _ hq.out).mono ?_
            rintro e w4 ⟨rfl, hb4⟩
            have hq4 := hq.out.on hb4
            clear hb4 hq
            clear p0 p1 x0 x1 x2c x3 x4 x5 y0 y1 y2 y3 y4 y5
            obtain ⟨p0, p1, x0, x1, x2c, x3, x4, x5, y0, y1, y2, y3, y4, y5⟩ := LQ.cells hq4
            have hq := Lib.hid hq4
            clear hq4
            by_cases hE1 : L1 = 1
            · have g1 : (L1 == 1) = true := beq_iff_eq.2 hE1
              have g2 : (L2 != 0) = false := by rw [f7.out hE1]; rfl
              replace hE1 := Lib.hid hE1
              go_wp2_with fail
              refine (hltba.out _ hq.out).mono ?_
              rintro e w4 ⟨rfl, hb4⟩
              have hq4 := hq.out.on hb4
              clear hb4 hq
              clear p0 p1 x0 x1 x2c x3 x4 x5 y0 y1 y2 y3 y4 y5
              obtain ⟨p0, p1, x0, x1, x2c, x3, x4, x5, y0, y1, y2, y3, y4, y5⟩ := LQ.cells hq4
              have hq := Lib.hid hq4
              clear hq4
              go_wp2
              go_meet
              exact ⟨rfl, hq⟩
            · have g0 : (L1 == 1) = false := beq_eq_false_iff_ne.2 hE1
              clear hE1
              go_wp2
              go_meet
              exact ⟨rfl, hq⟩
        obtain ⟨rfl, hq5⟩ := hcut
        have hhd := Lib.hid hq5.out.head
        clear hq hq5 hltab hltba f7
        clear p0 p1 x0 x1 x2c x3 x4 x5 y0 y1 y2 y3 y4 y5
        go_wp2
        go_roundw
        case rel => exact ⟨⟨j + 1, by omega, by go_num⟩, hhd⟩
        case measure => simp [intOf]; omega
end Go.Proofs.YthecgifgjagmaaaGreatDoor.val
