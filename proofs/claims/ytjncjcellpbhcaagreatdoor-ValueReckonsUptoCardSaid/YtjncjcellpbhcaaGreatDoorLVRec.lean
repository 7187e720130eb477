/- Any two values, any operation, in either language: the value, or the refusal, is the reference's; what is handed in stays: for every list of values, not above the bound, that may be read, where the listed variables of the library hold what the program's text lays. -/
import Derived.Test.YtjncjcellpbhcaaGreatDoorVWakes
import Derived.Test.YtjncjcellpbhcaaGreatDoorRArith
import Derived.Test.YtjncjcellpbhcaaGreatDoorVRSame
import Derived.IntWalk
import Derived.Deep.DeepCutAuto
namespace Go.Proofs.YtjncjcellpbhcaaGreatDoor.val
open Go.ChangeShapes Go.WideShapes Go.ChangeAt Go.RowKit kit dec
set_option linter.unusedVariables false
set_option linter.unusedSimpArgs false
/-- The world of a law at a round's head. -/
structure LH4 (W w : World) (p : Array Value) : Prop where
  below : Below W.heap.size W w
  bp : Blk w W.heap.size p 35
theorem LH4.lt {W w : World} {p : Array Value} (h : LH4 W w p) : W.heap.size < w.heap.size := h.bp.lt
theorem LH4.on {W w w' : World} {p : Array Value} (h : LH4 W w p) (hb : Below w.heap.size w w') : LH4 W w' p :=
  ⟨h.below.trans (hb.mono h.below.size), (hb.block _ h.lt).trans h.bp⟩
theorem LH4.under {W w w' : World} {p : Array Value} (h : LH4 W w p) {B : Nat} (hB : W.heap.size < B) (hb : Below B w w') : LH4 W w' p :=
  ⟨h.below.trans (hb.mono (by omega)), (hb.block _ hB).trans h.bp⟩
/-- Two values in boxes. -/
structure KB (W V : World) (p c d : Array Value) (ga gb : Nat) : Prop where
  head : LH4 W V p
  ba : Blk V ga c 26
  bb : Blk V gb d 26
theorem KB.on {W V V' : World} {p c d : Array Value} {ga gb : Nat} (h : KB W V p c d ga gb) (hb : Below V.heap.size V V') : KB W V' p c d ga gb :=
  ⟨h.head.on hb, (hb.block _ h.ba.lt).trans h.ba, (hb.block _ h.bb.lt).trans h.bb⟩
theorem KB.under {W V V' : World} {p c d : Array Value} {ga gb : Nat} (h : KB W V p c d ga gb) {B : Nat} (hB : W.heap.size < B) (ha : ga < B) (hb2 : gb < B) (hb : Below B V V') : KB W V' p c d ga gb :=
  ⟨h.head.under hB hb, (hb.block _ ha).trans h.ba, (hb.block _ hb2).trans h.bb⟩
set_option maxRecDepth 100000 in
set_option maxHeartbeats 16000000 in
theorem vreck_any (ao : Option Addr) (cap : Nat) (l : List V) (lang : Int) (W : World) (hE : Env W) (hl : l.length ≤ 1048576) (hs : sizeL l ≤ 1000000000000000000) (ha : ∀ j (hj : j < l.length), EA W 1048576 ao (6 * j) l[j]) :
    Calls Tryz.prog 4 #[.agg #[.slice ao l.length cap, .int .i64 lang]] W fun e w' => e = .returned (.bool true) ∧ Below W.heap.size W w' := by
  have hal : Below W.heap.size W (W.alloc (.cells #[.slice ao l.length cap, .int .i64 lang] 35)) := (Below.refl _ _).alloc (Nat.le_refl _) _
  have hh0 : LH4 W (W.alloc (.cells #[.slice ao l.length cap, .int .i64 lang] 35)) #[.slice ao l.length cap, .int .i64 lang] := ⟨hal, Blk.new _ _ _⟩
  have hlg := light_call 1048576 (by omega) _ (.slice ao l.length cap) l ((LA.mk ao cap l hl ha).stay hal) hs
  generalize lightL l = lg at *
  replace hlg := Lib.hid hlg
  replace ha := Lib.hid ha
  replace hh0 := Lib.hid hh0
  have hli : (l.length : Int) ≤ 9223372036854775807 := by omega
  replace hE := Lib.hid hE
  clear hal hl hs
  go_enter Tryz.func4, Tryz.ntmps4
  go_wp2_with fail
  refine (hlg.out).mono ?_
  rintro e w1 ⟨rfl, hb1⟩
  have hh1 := Lib.hid (hh0.out.on hb1)
  clear hb1 hlg hh0
  cases lg
  case false =>
    have hwk := Lib.hid (wakes2_call w1 (hE.out.below hh1.out.below))
    go_wp2_with fail
    refine (hwk.out).mono ?_
    rintro e w2 ⟨rfl, hb2⟩
    have hbe := Lib.hid (hh1.out.on hb2).below
    clear hb2 hwk hh1
    go_wp2
    go_ret
    exact ⟨rfl, hbe.out⟩
  go_wp2
  go_loopw [3] (fun i wr => (∃ j : Nat, j ≤ l.length ∧ i = .int .i64 ((j : Int) + 1)) ∧ Hid (LH4 W wr #[.slice ao l.length cap, .int .i64 lang])) (fun i _ => l.length + 2 - (intOf i).toNat)
  case atStart => exact ⟨⟨0, by omega, rfl⟩, hh1⟩
  case round =>
    clear hh1
    obtain ⟨⟨j, hj, rfl⟩, hh⟩ := hrel
    obtain ⟨w0, rfl⟩ : ∃ w0 : World, w0 = wr := ⟨_, rfl⟩
    have p0 := hh.out.bp.cell 0 rfl
    obtain ⟨q, hqq⟩ : ∃ q : Bool, decide (j + 1 < l.length ∧ j + 1 < 10) = q := ⟨_, rfl⟩
    replace hqq := Lib.hid hqq
    go_upto_region 4 with (fail)
    go_cut [24] (fun v wx => v = .bool q ∧ wx = w0)
    case first =>
      as_aux_lemma =>
        by_cases h1 : j + 1 < l.length
        · have h1i : (j : Int) + 1 < (l.length : Int) := by omega
          by_cases h2 : j + 1 < 10
          · have h2i : (j : Int) + 1 < 10 := by omega
            obtain rfl : true = q := by rw [← hqq.out]; exact (decide_eq_true ⟨h1, h2⟩).symm
            go_wp2
            go_meet
            exact ⟨rfl, rfl⟩
          · have h2i : ¬ (j : Int) + 1 < 10 := by omega
            obtain rfl : false = q := by rw [← hqq.out]; exact (decide_eq_false (fun e => h2 e.2)).symm
            go_wp2
            go_meet
            exact ⟨rfl, rfl⟩
        · have h1i : ¬ (j : Int) + 1 < (l.length : Int) := by omega
          obtain rfl : false = q := by rw [← hqq.out]; exact (decide_eq_false (fun e => h1 e.1)).symm
          go_wp2
          go_meet
          exact ⟨rfl, rfl⟩
    obtain ⟨rfl, hwx⟩ := hcut
    rw [hwx]; clear hwx
    cases q
    case false =>
      clear p0 hqq
      have hwk := Lib.hid (wakes2_call w0 (hE.out.below hh.out.below))
      go_wp2_with fail
      refine (hwk.out).mono ?_
      rintro e w2 ⟨rfl, hb2⟩
      have hbe := Lib.hid (hh.out.on hb2).below
      clear hb2 hwk hh
      go_wp2
      go_ret
      exact ⟨rfl, hbe.out⟩
    case true =>
      obtain ⟨hlt, _⟩ := of_decide_eq_true hqq.out
      clear hqq
      have i1 : (j : Int) + 1 < (l.length : Int) := by omega
      have b2 : (j : Int) < (l.length : Int) := by omega
      have e4 : ((j : Int) + 1).toNat = j + 1 := by omega
      have b0 : 0 ≤ (j : Int) + 1 := by omega
      have el := ha.out j (by omega)
      have el2 := ha.out (j + 1) hlt
      rw [Nat.mul_comm 6 j] at el
      rw [Nat.mul_comm 6 (j + 1)] at el2
      generalize l[j]'(by omega) = v at el
      generalize l[j + 1]'hlt = v2 at el2
      cases el with
      | mk b off o k bo n t x l1 s hr hk hn ht hx hsl =>
      cases el2 with
      | mk b2' off2 o2 k2 bo2 n2 t2 x2 l12 s2 hr2 hk2 hn2 ht2 hx2 hsl2 =>
        obtain ⟨aoE, capE, rfl⟩ := LA.form6 hsl
        obtain ⟨aoF, capF, rfl⟩ := LA.form6 hsl2
        clear p0 ha hlt hk hk2
        go_wp2
        go_loopw [4] (fun i wr => (∃ o : Int, 16 ≤ o ∧ o ≤ 23 ∧ i = .int .i64 o) ∧ Hid (LH4 W wr #[.slice (some ⟨b, off, none⟩) l.length cap, .int .i64 lang])) (fun i _ => 24 - (intOf i).toNat)
        case atStart => exact ⟨⟨16, by omega, by omega, rfl⟩, hh⟩
        case round =>
          clear hh
          obtain ⟨⟨op, ho1, ho2, rfl⟩, hh⟩ := hrel
          obtain ⟨V, rfl⟩ : ∃ V : World, V = wr := ⟨_, rfl⟩
          by_cases hop : op ≤ 22
          case neg =>
            go_wp2
            go_roundw
            case rel => exact ⟨⟨j + 1, by omega, by go_num⟩, hh⟩
            case measure => simp [intOf]; omega
          have p0 := hh.out.bp.cell 0 rfl
          obtain ⟨z0, z1, z2, z3, z4, z5⟩ := (hr.below hh.out.below).six
          have hcv := copyValue_of 1048576 _ (copyRow_all 1048576 (by omega) _) V k bo n t x _ l1 (Nat.lt_succ_self _) (hsl.stay hh.out.below)
          unfold agg6 at hcv
          replace hcv := Lib.hid hcv
          go_wp2_with fail
          refine (hcv.out).mono ?_
          rintro e w1 ⟨ao1, cap1, rfl, hb1, hl1⟩
          clear hcv p0
          clear z0 z1 z2 z3 z4 z5
          have hh1 := hh.out.on hb1
          have hba : Below w1.heap.size w1 (w1.alloc (.cells #[.int .i64 k, .bool bo, .int .i64 n, .string t, .string x, .slice ao1 l1.length cap1] 26)) := (Below.refl _ _).alloc (Nat.le_refl _) _
          have hha := hh1.on hba
          have hla := hl1.stay (w' := w1.alloc (.cells #[.int .i64 k, .bool bo, .int .i64 n, .string t, .string x, .slice ao1 l1.length cap1] 26)) fun b hS hlt => hba.block b hlt
          have hqa := Blk.new w1 #[.int .i64 k, .bool bo, .int .i64 n, .string t, .string x, .slice ao1 l1.length cap1] 26
          have p0 := hha.bp.cell 0 rfl
          obtain ⟨u0, u1, u2, u3, u4, u5⟩ := (hr2.below hha.below).six
          have hcv := copyValue_of 1048576 _ (copyRow_all 1048576 (by omega) _) (w1.alloc (.cells #[.int .i64 k, .bool bo, .int .i64 n, .string t, .string x, .slice ao1 l1.length cap1] 26)) k2 bo2 n2 t2 x2 _ l12 (Nat.lt_succ_self _) (hsl2.stay hha.below)
          unfold agg6 at hcv
          replace hcv := Lib.hid hcv
          have hs1 := hb1.size
          replace hla := Lib.hid hla
          replace hqa := Lib.hid hqa
          replace hha := Lib.hid hha
          clear hh hh1 hl1 hb1 hba
          go_wp2_with fail
          refine (hcv.out).mono ?_
          rintro e w2 ⟨ao2, cap2, rfl, hb2, hl2⟩
          clear hcv p0
          clear u0 u1 u2 u3 u4 u5
          have hs2 := hb2.size
          rw [World.size_alloc] at hs2
          have hbb : Below w2.heap.size w2 (w2.alloc (.cells #[.int .i64 k2, .bool bo2, .int .i64 n2, .string t2, .string x2, .slice ao2 l12.length cap2] 26)) := (Below.refl _ _).alloc (Nat.le_refl _) _
          have hKB : KB W (w2.alloc (.cells #[.int .i64 k2, .bool bo2, .int .i64 n2, .string t2, .string x2, .slice ao2 l12.length cap2] 26)) #[.slice (some ⟨b, off, none⟩) l.length cap, .int .i64 lang] #[.int .i64 k, .bool bo, .int .i64 n, .string t, .string x, .slice ao1 l1.length cap1] #[.int .i64 k2, .bool bo2, .int .i64 n2, .string t2, .string x2, .slice ao2 l12.length cap2] w1.heap.size w2.heap.size :=
            ⟨(hha.out.on hb2).on hbb, (hbb.block _ (by omega)).trans ((hb2.block _ (by rw [World.size_alloc]; omega)).trans hqa.out), Blk.new _ _ _⟩
          have hla2 := (hla.out.stay fun b hS hlt => hb2.block b hlt).stay (w' := w2.alloc (.cells #[.int .i64 k2, .bool bo2, .int .i64 n2, .string t2, .string x2, .slice ao2 l12.length cap2] 26)) fun b hS hlt => hbb.block b hlt
          have hlb2 := hl2.stay (w' := w2.alloc (.cells #[.int .i64 k2, .bool bo2, .int .i64 n2, .string t2, .string x2, .slice ao2 l12.length cap2] 26)) fun b hS hlt => hbb.block b hlt
          rw [World.size_alloc] at hlb2
          have hsz : (w2.alloc (.cells #[.int .i64 k2, .bool bo2, .int .i64 n2, .string t2, .string x2, .slice ao2 l12.length cap2] 26)).heap.size = w2.heap.size + 1 := World.size_alloc _ _
          have hEb := hE.out.below hKB.head.below
          have hWlt := hKB.head.lt
          go_upto_region 11 with (fail)
          generalize (w2.alloc (.cells #[.int .i64 k2, .bool bo2, .int .i64 n2, .string t2, .string x2, .slice ao2 l12.length cap2] 26)) = wb at *
          clear hha hla hqa hb2 hl2 hbb
          have hA := arith_call lang op wb hEb k bo n hn t x _ l1 k2 bo2 n2 hn2 t2 x2 _ l12 hla2.toLA ht hx hlb2.toLA ht2 hx2
          have hRA := fun w (h : Below W.heap.size W w) => rarith_call lang op w k bo n hn t x _ l1 k2 bo2 n2 hn2 t2 x2 _ l12 (hsl.stay h) ht hx (hsl2.stay h) ht2 hx2
          generalize arithV (decide (lang = 1)) op (.mk k bo n t x l1) (.mk k2 bo2 n2 t2 x2 l12) = R at *
          obtain ⟨⟨kr, br, nr, tr, xr, lr⟩, er⟩ := R
          unfold AR val6 agg6 at hA hRA
          replace hA := Lib.hid hA
          replace hRA := Lib.hid hRA
          have p0 := hKB.head.bp.cell 0 rfl
          have p1 := hKB.head.bp.cell 1 rfl
          have x0 := hKB.ba.cell 0 rfl
          have x1 := hKB.ba.cell 1 rfl
          have x2' := hKB.ba.cell 2 rfl
          have x3 := hKB.ba.cell 3 rfl
          have x4 := hKB.ba.cell 4 rfl
          have x5 := hKB.ba.cell 5 rfl
          have y0 := hKB.bb.cell 0 rfl
          have y1 := hKB.bb.cell 1 rfl
          have y2 := hKB.bb.cell 2 rfl
          have y3 := hKB.bb.cell 3 rfl
          have y4 := hKB.bb.cell 4 rfl
          have y5 := hKB.bb.cell 5 rfl
          replace hKB := Lib.hid hKB
          replace hla2 := Lib.hid hla2
          replace hlb2 := Lib.hid hlb2
          clear hEb
          go_wp2_with fail
          refine (hA.out).mono ?_
          rintro e w3 ⟨sv, rfl, hb3, hl3⟩
          clear hA p0 p1 x0 x1 x2' x3 x4 x5 y0 y1 y2 y3 y4 y5
          replace hl3 : LF w3 1048576 (Fr wb.heap.size w3) sv lr := hl3
          obtain ⟨aoV, capV, rfl, -⟩ := hl3.form
          have hbc : Below w3.heap.size w3 (w3.alloc (.cells #[.int .i64 kr, .bool br, .int .i64 nr, .string tr, .string xr, .slice aoV lr.length capV] 26)) := (Below.refl _ _).alloc (Nat.le_refl _) _
          have hKc := (hKB.out.on hb3).on hbc
          have hlac := (hla2.out.stay fun b hS hlt => hb3.block b hlt).stay (w' := w3.alloc (.cells #[.int .i64 kr, .bool br, .int .i64 nr, .string tr, .string xr, .slice aoV lr.length capV] 26)) fun b hS hlt => hbc.block b hlt
          have hlbc := (hlb2.out.stay fun b hS hlt => hb3.block b hlt).stay (w' := w3.alloc (.cells #[.int .i64 kr, .bool br, .int .i64 nr, .string tr, .string xr, .slice aoV lr.length capV] 26)) fun b hS hlt => hbc.block b hlt
          have hlvc := hl3.stay (w' := w3.alloc (.cells #[.int .i64 kr, .bool br, .int .i64 nr, .string tr, .string xr, .slice aoV lr.length capV] 26)) fun b hS hlt => hbc.block b hlt
          have hqv := Blk.new w3 #[.int .i64 kr, .bool br, .int .i64 nr, .string tr, .string xr, .slice aoV lr.length capV] 26
          have hs3 := hb3.size
          have hsc : (w3.alloc (.cells #[.int .i64 kr, .bool br, .int .i64 nr, .string tr, .string xr, .slice aoV lr.length capV] 26)).heap.size = w3.heap.size + 1 := World.size_alloc _ _
          clear hb3 hl3 hbc hKB hla2 hlb2
          go_upto_region 12 with (fail)
          generalize (w3.alloc (.cells #[.int .i64 kr, .bool br, .int .i64 nr, .string tr, .string xr, .slice aoV lr.length capV] 26)) = wV at *
          replace hlac := Lib.hid hlac
          replace hlbc := Lib.hid hlbc
          replace hlvc := Lib.hid hlvc
          replace hqv := Lib.hid hqv
          replace hKc := Lib.hid hKc
          go_cut [9, 10] (fun v9 v10 wx => ∃ (gw : Nat) (aoW : Option Addr) (capW : Nat), v9 = .pointer (some ⟨gw, 0, none⟩) ∧ v10 = .int .i64 er ∧ Hid (Below wV.heap.size wV wx) ∧ Hid (Blk wx gw #[.int .i64 kr, .bool br, .int .i64 nr, .string tr, .string xr, .slice aoW lr.length capW] 26) ∧ Hid (LF wx 1048576 (Fr wV.heap.size wx) (.slice aoW lr.length capW) lr))
          case first =>
            as_aux_lemma =>
              clear hlac hlbc hlvc hqv
              have hKd : LH4 W wV.drew #[.slice (some ⟨b, off, none⟩) l.length cap, .int .i64 lang] := hKc.out.head.on (below_drewN (Below.refl _ _) 1)
              have hwd : Below wV.heap.size wV wV.drew := below_drewN (Below.refl _ _) 1
              have hS0 := hKd
              have hWc := hKc.out.head.lt
              refine wp_region_held_drew (S := fun V => LH4 W V #[.slice (some ⟨b, off, none⟩) l.length cap, .int .i64 lang]) (by kernel_rfl) hS0 (fun hS => ?_)
              clear hS0 hKc
              generalize wV.drew = V0 at *
              refine wpAnyH_take (i := 0) (v := ?_) rfl (by kernel_rfl) (by kernel_rfl) (by kernel_rfl) (fun _ _ _ h => h) (.inl ⟨by kernel_rfl, fun w' hS => ?_⟩) hS ?_
              rotate_left
              ·
                skip
                go_simp
                try with_reducible rfl
              simp only [List.getElem_toArray, List.getElem_cons_succ, List.getElem_cons_zero, Act.put, List.setIfInBounds_toArray, List.set_cons_zero, List.set_cons_succ]
              refine wpAnyH_take (i := 1) (v := ?_) rfl (by kernel_rfl) (by kernel_rfl) (by kernel_rfl) (fun _ _ _ h => h) (.inl ⟨by kernel_rfl, fun w' hS => ?_⟩) hS ?_
              rotate_left
              ·
                have p1 := hS.bp.cell 1 rfl
                go_simp
                try with_reducible rfl
              simp only [List.getElem_toArray, List.getElem_cons_succ, List.getElem_cons_zero, Act.put, List.setIfInBounds_toArray, List.set_cons_zero, List.set_cons_succ]
              refine wpAnyH_take (i := 2) (v := ?_) rfl (by kernel_rfl) (by kernel_rfl) (by kernel_rfl) (fun _ _ _ h => h) (.inl ⟨by kernel_rfl, fun w' hS => ?_⟩) hS ?_
              rotate_left
              ·
                skip
                go_simp
                try with_reducible rfl
              simp only [List.getElem_toArray, List.getElem_cons_succ, List.getElem_cons_zero, Act.put, List.setIfInBounds_toArray, List.set_cons_zero, List.set_cons_succ]
              refine wpAnyH_take (i := 3) (v := ?_) rfl (by kernel_rfl) (by kernel_rfl) (by kernel_rfl) (fun _ _ _ h => h) (.inl ⟨by kernel_rfl, fun w' hS => ?_⟩) hS ?_
              rotate_left
              ·
                skip
                go_simp
                try with_reducible rfl
              simp only [List.getElem_toArray, List.getElem_cons_succ, List.getElem_cons_zero, Act.put, List.setIfInBounds_toArray, List.set_cons_zero, List.set_cons_succ]
              refine wpAnyH_take (i := 4) (v := ?_) rfl (by kernel_rfl) (by kernel_rfl) (by kernel_rfl) (fun _ _ _ h => h) (.inl ⟨by kernel_rfl, fun w' hS => ?_⟩) hS ?_
              rotate_left
              ·
                have p0 := hS.bp.cell 0 rfl
                go_simp
                try with_reducible rfl
              simp only [List.getElem_toArray, List.getElem_cons_succ, List.getElem_cons_zero, Act.put, List.setIfInBounds_toArray, List.set_cons_zero, List.set_cons_succ]
              refine wpAnyH_take (i := 5) (v := ?_) rfl (by kernel_rfl) (by kernel_rfl) (by kernel_rfl) (fun _ _ _ h => h) (.inl ⟨by kernel_rfl, fun w' hS => ?_⟩) hS ?_
              rotate_left
              ·
                skip
                go_simp
                try with_reducible rfl
              simp only [List.getElem_toArray, List.getElem_cons_succ, List.getElem_cons_zero, Act.put, List.setIfInBounds_toArray, List.set_cons_zero, List.set_cons_succ]
              refine wpAnyH_take (i := 6) (v := ?_) rfl (by kernel_rfl) (by kernel_rfl) (by kernel_rfl) (fun _ _ _ h => h) (.inl ⟨by kernel_rfl, fun w' hS => ?_⟩) hS ?_
              rotate_left
              ·
                have ew : IntKind.i64.wrap (j : Int) = (j : Int) := IntWalk.i64_in _ (by omega)
                go_simp
                try with_reducible rfl
              simp only [List.getElem_toArray, List.getElem_cons_succ, List.getElem_cons_zero, Act.put, List.setIfInBounds_toArray, List.set_cons_zero, List.set_cons_succ]
              refine wpAnyH_take (i := 7) (v := ?_) rfl (by kernel_rfl) (by kernel_rfl) (by kernel_rfl) (fun _ _ _ h => h) (.inl ⟨by kernel_rfl, fun w' hS => ?_⟩) hS ?_
              rotate_left
              ·
                skip
                go_simp
                try with_reducible rfl
              simp only [List.getElem_toArray, List.getElem_cons_succ, List.getElem_cons_zero, Act.put, List.setIfInBounds_toArray, List.set_cons_zero, List.set_cons_succ]
              refine wpAnyH_take (i := 8) (v := ?_) rfl (by kernel_rfl) (by kernel_rfl) (by kernel_rfl) (fun _ _ _ h => h) (.inl ⟨by kernel_rfl, fun w' hS => ?_⟩) hS ?_
              rotate_left
              ·
                obtain ⟨z0, z1, z2, z3, z4, z5⟩ := (hr.below hS.below).six
                go_simp
                try with_reducible rfl
              simp only [List.getElem_toArray, List.getElem_cons_succ, List.getElem_cons_zero, Act.put, List.setIfInBounds_toArray, List.set_cons_zero, List.set_cons_succ]
              refine wpAnyH_take (i := 9) (v := ?_) rfl (by kernel_rfl) (by kernel_rfl) (by kernel_rfl) (fun _ _ _ h => h) (.inl ⟨by kernel_rfl, fun w' hS => ?_⟩) hS ?_
              rotate_left
              ·
                skip
                go_simp
                try with_reducible rfl
              simp only [List.getElem_toArray, List.getElem_cons_succ, List.getElem_cons_zero, Act.put, List.setIfInBounds_toArray, List.set_cons_zero, List.set_cons_succ]
              refine wpAnyH_take (i := 10) (v := ?_) rfl (by kernel_rfl) (by kernel_rfl) (by kernel_rfl) (fun _ _ _ h => h) (.inl ⟨by kernel_rfl, fun w' hS => ?_⟩) hS ?_
              rotate_left
              ·
                have p0 := hS.bp.cell 0 rfl
                go_simp
                try with_reducible rfl
              simp only [List.getElem_toArray, List.getElem_cons_succ, List.getElem_cons_zero, Act.put, List.setIfInBounds_toArray, List.set_cons_zero, List.set_cons_succ]
              refine wpAnyH_take (i := 11) (v := ?_) rfl (by kernel_rfl) (by kernel_rfl) (by kernel_rfl) (fun _ _ _ h => h) (.inl ⟨by kernel_rfl, fun w' hS => ?_⟩) hS ?_
              rotate_left
              ·
                skip
                go_simp
                try with_reducible rfl
              simp only [List.getElem_toArray, List.getElem_cons_succ, List.getElem_cons_zero, Act.put, List.setIfInBounds_toArray, List.set_cons_zero, List.set_cons_succ]
              refine wpAnyH_take (i := 12) (v := ?_) rfl (by kernel_rfl) (by kernel_rfl) (by kernel_rfl) (fun _ _ _ h => h) (.inl ⟨by kernel_rfl, fun w' hS => ?_⟩) hS ?_
              rotate_left
              ·
                skip
                go_simp
                try with_reducible rfl
              simp only [List.getElem_toArray, List.getElem_cons_succ, List.getElem_cons_zero, Act.put, List.setIfInBounds_toArray, List.set_cons_zero, List.set_cons_succ]
              refine wpAnyH_take (i := 13) (v := ?_) rfl (by kernel_rfl) (by kernel_rfl) (by kernel_rfl) (fun _ _ _ h => h) (.inl ⟨by kernel_rfl, fun w' hS => ?_⟩) hS ?_
              rotate_left
              ·
                obtain ⟨u0, u1, u2, u3, u4, u5⟩ := (hr2.below hS.below).six
                go_simp
                try with_reducible rfl
              simp only [List.getElem_toArray, List.getElem_cons_succ, List.getElem_cons_zero, Act.put, List.setIfInBounds_toArray, List.set_cons_zero, List.set_cons_succ]
              refine wpAnyH_ready (rs := [14, 18]) (by kernel_rfl) (by simp) ?_
              refine AllReadyH.cons rfl (fun K hK => ?_) (AllReadyH.cons rfl (fun K hK => ?_) AllReadyH.nil)
              · clear hS
                go_simp
                refine (hRA.out _ hKd.below).mono ?_
                rintro e w4 ⟨sv2, rfl, hb4, hl4⟩
                go_wp2_with fail
                refine hK.out _ _ (hKd.on hb4) (fun hS => ?_)
                clear hK K
                try simp only [List.getElem_toArray, List.getElem_cons_succ, List.getElem_cons_zero, Act.put, List.setIfInBounds_toArray, List.set_cons_zero, List.set_cons_succ]
                replace hl4 : LF w4 1048576 (Fr V0.heap.size w4) sv2 lr := hl4
                obtain ⟨aoW, capW, rfl, -⟩ := hl4.form
                have hK4 := hKd.on hb4
                have hs4 := hb4.size
                have hb40 := hwd.trans (hb4.mono hwd.size)
                have hsV := hwd.size
                clear hKd hwd hb4
                refine wpAnyH_take (i := 15) (v := ?_) rfl (by kernel_rfl) (by kernel_rfl) (by kernel_rfl) (fun _ _ _ h => h) (.inl ⟨by kernel_rfl, fun w' hS => ?_⟩) hS ?_
                rotate_left
                ·
                  skip
                  go_simp
                  try with_reducible rfl
                simp only [List.getElem_toArray, List.getElem_cons_succ, List.getElem_cons_zero, Act.put, List.setIfInBounds_toArray, List.set_cons_zero, List.set_cons_succ]
                refine wpAnyH_take (i := 16) (v := ?_) rfl (by kernel_rfl) (by kernel_rfl) (by kernel_rfl) (fun _ _ _ h => h) (.inl ⟨by kernel_rfl, fun w' hS => ?_⟩) hS ?_
                rotate_left
                ·
                  skip
                  go_simp
                  try with_reducible rfl
                simp only [List.getElem_toArray, List.getElem_cons_succ, List.getElem_cons_zero, Act.put, List.setIfInBounds_toArray, List.set_cons_zero, List.set_cons_succ]
                refine wpAnyH_take (i := 17) (v := ?_) rfl (by kernel_rfl) (by kernel_rfl) (by kernel_rfl) (fun _ _ _ h => h) (.inl ⟨by kernel_rfl, fun w' hS => ?_⟩) hS ?_
                rotate_left
                ·
                  skip
                  go_simp
                  try with_reducible rfl
                simp only [List.getElem_toArray, List.getElem_cons_succ, List.getElem_cons_zero, Act.put, List.setIfInBounds_toArray, List.set_cons_zero, List.set_cons_succ]
                refine wpAnyH_ready (rs := [18]) (by kernel_rfl) (by simp) ?_
                refine AllReadyH.cons rfl (fun K hK => ?_) AllReadyH.nil
                clear hS
                go_simp
                go_wp2_with fail
                have hal : Below w4.heap.size w4 (w4.alloc (.cells #[.int .i64 0, .bool false, .int .i64 0, .string ⟨#[]⟩, .string ⟨#[]⟩, .slice none 0 0] 26)) := (Below.refl _ _).alloc (Nat.le_refl _) _
                have hq5 := Blk.new w4 #[.int .i64 0, .bool false, .int .i64 0, .string ⟨#[]⟩, .string ⟨#[]⟩, .slice none 0 0] 26
                have hl5 := hl4.stay (w' := w4.alloc (.cells #[.int .i64 0, .bool false, .int .i64 0, .string ⟨#[]⟩, .string ⟨#[]⟩, .slice none 0 0] 26)) fun b hS hlt => hal.block b hlt
                have hb5 := hb40.trans (hal.mono hb40.size)
                have hK5 := hK4.on hal
                have hz5 : (w4.alloc (.cells #[.int .i64 0, .bool false, .int .i64 0, .string ⟨#[]⟩, .string ⟨#[]⟩, .slice none 0 0] 26)).heap.size = w4.heap.size + 1 := World.size_alloc _ _
                have hgl : ∀ b, Fr V0.heap.size w4 b → b ≠ w4.heap.size := fun b hb => by have := hb.2; omega
                refine hK.out _ _ hK5 (fun hS => ?_)
                clear hK K hal hl4 hb40 hK4
                try simp only [List.getElem_toArray, List.getElem_cons_succ, List.getElem_cons_zero, Act.put, List.setIfInBounds_toArray, List.set_cons_zero, List.set_cons_succ]
                generalize (w4.alloc (.cells #[.int .i64 0, .bool false, .int .i64 0, .string ⟨#[]⟩, .string ⟨#[]⟩, .slice none 0 0] 26)) = w5 at *
                refine wpAnyH_ready (rs := [19]) (by kernel_rfl) (by simp) ?_
                refine AllReadyH.cons rfl (fun K hK => ?_) AllReadyH.nil
                clear hS
                have z0 := hq5.cell 0 rfl
                have z1 := hq5.cell 1 rfl
                have z2 := hq5.cell 2 rfl
                have z3 := hq5.cell 3 rfl
                have z4 := hq5.cell 4 rfl
                have z5 := hq5.cell 5 rfl
                have f2 := hq5.free
                have hq6 := Lib.hid (Blk.set6 hq5 (.int .i64 kr) (.bool br) (.int .i64 nr) (.string tr) (.string xr) (.slice aoW lr.length capW))
                have hl6 := Lib.hid ((hl5.set6 w4.heap.size (fun h => hgl _ h rfl) (.int .i64 kr) (.bool br) (.int .i64 nr) (.string tr) (.string xr) (.slice aoW lr.length capW)).mono (S' := Fr wV.heap.size (set6 w5 w4.heap.size (.int .i64 kr) (.bool br) (.int .i64 nr) (.string tr) (.string xr) (.slice aoW lr.length capW))) fun b hb => ⟨by have := hb.1; omega, by rw [size_set6]; have := hb.2; omega⟩)
                have hb6 := Lib.hid (Below.set6 hb5 (b := w4.heap.size) (by omega) (.int .i64 kr) (.bool br) (.int .i64 nr) (.string tr) (.string xr) (.slice aoW lr.length capW))
                have hK6 : LH4 W (set6 w5 w4.heap.size (.int .i64 kr) (.bool br) (.int .i64 nr) (.string tr) (.string xr) (.slice aoW lr.length capW)) #[.slice (some ⟨b, off, none⟩) l.length cap, .int .i64 lang] := hK5.under (B := wV.heap.size) hWc (Below.set6 (Below.refl _ _) (by omega) _ _ _ _ _ _)
                clear hq5 hl5 hb5
                go_simp
                go_wp2_with fail
                refine hK.out _ (set6 w5 w4.heap.size (.int .i64 kr) (.bool br) (.int .i64 nr) (.string tr) (.string xr) (.slice aoW lr.length capW)) hK6 (fun hS => ?_)
                clear hK K z0 z1 z2 z3 z4 z5 f2
                try simp only [List.getElem_toArray, List.getElem_cons_succ, List.getElem_cons_zero, Act.put, List.setIfInBounds_toArray, List.set_cons_zero, List.set_cons_succ]
                generalize (set6 w5 w4.heap.size (.int .i64 kr) (.bool br) (.int .i64 nr) (.string tr) (.string xr) (.slice aoW lr.length capW)) = w6 at *
                refine wpAnyH_take (i := 20) (v := ?_) rfl (by kernel_rfl) (by kernel_rfl) (by kernel_rfl) (fun _ _ _ h => h) (.inl ⟨by kernel_rfl, fun w' hS => ?_⟩) hS ?_
                rotate_left
                ·
                  skip
                  go_simp
                  try with_reducible rfl
                simp only [List.getElem_toArray, List.getElem_cons_succ, List.getElem_cons_zero, Act.put, List.setIfInBounds_toArray, List.set_cons_zero, List.set_cons_succ]
                refine wpAnyH_done (by kernel_rfl) ?_ _
                go_wp2
                go_meet
                exact ⟨_, _, _, rfl, rfl, hb6, hq6, hl6⟩
              · clear hS
                go_simp
                go_wp2_with fail
                have hal : Below V0.heap.size V0 (V0.alloc (.cells #[.int .i64 0, .bool false, .int .i64 0, .string ⟨#[]⟩, .string ⟨#[]⟩, .slice none 0 0] 26)) := (Below.refl _ _).alloc (Nat.le_refl _) _
                have hq5 := Blk.new V0 #[.int .i64 0, .bool false, .int .i64 0, .string ⟨#[]⟩, .string ⟨#[]⟩, .slice none 0 0] 26
                have hK5 := hKd.on hal
                have hz5 : (V0.alloc (.cells #[.int .i64 0, .bool false, .int .i64 0, .string ⟨#[]⟩, .string ⟨#[]⟩, .slice none 0 0] 26)).heap.size = V0.heap.size + 1 := World.size_alloc _ _
                have hb5 := hwd.trans (hal.mono hwd.size)
                have hsV := hwd.size
                refine hK.out _ _ hK5 (fun hS => ?_)
                clear hK K hal hwd hKd
                try simp only [List.getElem_toArray, List.getElem_cons_succ, List.getElem_cons_zero, Act.put, List.setIfInBounds_toArray, List.set_cons_zero, List.set_cons_succ]
                generalize (V0.alloc (.cells #[.int .i64 0, .bool false, .int .i64 0, .string ⟨#[]⟩, .string ⟨#[]⟩, .slice none 0 0] 26)) = V1 at *
                refine wpAnyH_ready (rs := [14]) (by kernel_rfl) (by simp) ?_
                refine AllReadyH.cons rfl (fun K hK => ?_) AllReadyH.nil
                clear hS
                go_simp
                refine (hRA.out _ hK5.below).mono ?_
                rintro e w5 ⟨sv2, rfl, hb6, hl5⟩
                go_wp2_with fail
                refine hK.out _ _ (hK5.on hb6) (fun hS => ?_)
                clear hK K
                try simp only [List.getElem_toArray, List.getElem_cons_succ, List.getElem_cons_zero, Act.put, List.setIfInBounds_toArray, List.set_cons_zero, List.set_cons_succ]
                replace hl5 : LF w5 1048576 (Fr V1.heap.size w5) sv2 lr := hl5
                obtain ⟨aoW, capW, rfl, -⟩ := hl5.form
                replace hq5 : Blk w5 V0.heap.size #[.int .i64 0, .bool false, .int .i64 0, .string ⟨#[]⟩, .string ⟨#[]⟩, .slice none 0 0] 26 := (hb6.block _ (by omega)).trans hq5
                replace hK5 := hK5.on hb6
                have hs6 := hb6.size
                replace hb5 := hb5.trans (hb6.mono hb5.size)
                have hgl : ∀ b, Fr V1.heap.size w5 b → b ≠ V0.heap.size := fun b hb => by have := hb.1; omega
                clear hb6
                refine wpAnyH_take (i := 15) (v := ?_) rfl (by kernel_rfl) (by kernel_rfl) (by kernel_rfl) (fun _ _ _ h => h) (.inl ⟨by kernel_rfl, fun w' hS => ?_⟩) hS ?_
                rotate_left
                ·
                  skip
                  go_simp
                  try with_reducible rfl
                simp only [List.getElem_toArray, List.getElem_cons_succ, List.getElem_cons_zero, Act.put, List.setIfInBounds_toArray, List.set_cons_zero, List.set_cons_succ]
                refine wpAnyH_take (i := 16) (v := ?_) rfl (by kernel_rfl) (by kernel_rfl) (by kernel_rfl) (fun _ _ _ h => h) (.inl ⟨by kernel_rfl, fun w' hS => ?_⟩) hS ?_
                rotate_left
                ·
                  skip
                  go_simp
                  try with_reducible rfl
                simp only [List.getElem_toArray, List.getElem_cons_succ, List.getElem_cons_zero, Act.put, List.setIfInBounds_toArray, List.set_cons_zero, List.set_cons_succ]
                refine wpAnyH_take (i := 17) (v := ?_) rfl (by kernel_rfl) (by kernel_rfl) (by kernel_rfl) (fun _ _ _ h => h) (.inl ⟨by kernel_rfl, fun w' hS => ?_⟩) hS ?_
                rotate_left
                ·
                  skip
                  go_simp
                  try with_reducible rfl
                simp only [List.getElem_toArray, List.getElem_cons_succ, List.getElem_cons_zero, Act.put, List.setIfInBounds_toArray, List.set_cons_zero, List.set_cons_succ]
                refine wpAnyH_ready (rs := [19]) (by kernel_rfl) (by simp) ?_
                refine AllReadyH.cons rfl (fun K hK => ?_) AllReadyH.nil
                clear hS
                have z0 := hq5.cell 0 rfl
                have z1 := hq5.cell 1 rfl
                have z2 := hq5.cell 2 rfl
                have z3 := hq5.cell 3 rfl
                have z4 := hq5.cell 4 rfl
                have z5 := hq5.cell 5 rfl
                have f2 := hq5.free
                have hq6 := Lib.hid (Blk.set6 hq5 (.int .i64 kr) (.bool br) (.int .i64 nr) (.string tr) (.string xr) (.slice aoW lr.length capW))
                have hl6 := Lib.hid ((hl5.set6 V0.heap.size (fun h => hgl _ h rfl) (.int .i64 kr) (.bool br) (.int .i64 nr) (.string tr) (.string xr) (.slice aoW lr.length capW)).mono (S' := Fr wV.heap.size (set6 w5 V0.heap.size (.int .i64 kr) (.bool br) (.int .i64 nr) (.string tr) (.string xr) (.slice aoW lr.length capW))) fun b hb => ⟨by have := hb.1; omega, by rw [size_set6]; have := hb.2; omega⟩)
                have hb6 := Lib.hid (Below.set6 hb5 (b := V0.heap.size) (by omega) (.int .i64 kr) (.bool br) (.int .i64 nr) (.string tr) (.string xr) (.slice aoW lr.length capW))
                have hK6 : LH4 W (set6 w5 V0.heap.size (.int .i64 kr) (.bool br) (.int .i64 nr) (.string tr) (.string xr) (.slice aoW lr.length capW)) #[.slice (some ⟨b, off, none⟩) l.length cap, .int .i64 lang] := hK5.under (B := wV.heap.size) hWc (Below.set6 (Below.refl _ _) (by omega) _ _ _ _ _ _)
                clear hq5 hl5 hb5
                go_simp
                go_wp2_with fail
                refine hK.out _ (set6 w5 V0.heap.size (.int .i64 kr) (.bool br) (.int .i64 nr) (.string tr) (.string xr) (.slice aoW lr.length capW)) hK6 (fun hS => ?_)
                clear hK K z0 z1 z2 z3 z4 z5 f2
                try simp only [List.getElem_toArray, List.getElem_cons_succ, List.getElem_cons_zero, Act.put, List.setIfInBounds_toArray, List.set_cons_zero, List.set_cons_succ]
                generalize (set6 w5 V0.heap.size (.int .i64 kr) (.bool br) (.int .i64 nr) (.string tr) (.string xr) (.slice aoW lr.length capW)) = w6 at *
                refine wpAnyH_take (i := 20) (v := ?_) rfl (by kernel_rfl) (by kernel_rfl) (by kernel_rfl) (fun _ _ _ h => h) (.inl ⟨by kernel_rfl, fun w' hS => ?_⟩) hS ?_
                rotate_left
                ·
                  skip
                  go_simp
                  try with_reducible rfl
                simp only [List.getElem_toArray, List.getElem_cons_succ, List.getElem_cons_zero, Act.put, List.setIfInBounds_toArray, List.set_cons_zero, List.set_cons_succ]
                refine wpAnyH_done (by kernel_rfl) ?_ _
                go_wp2
                go_meet
                exact ⟨_, _, _, rfl, rfl, hb6, hq6, hl6⟩
          obtain ⟨gw, aoW, capW, rfl, rfl, hbW, hqW, hlW⟩ := hcut
          have hKw := hKc.out.on hbW.out
          have hqv2 : Blk wc w3.heap.size #[.int .i64 kr, .bool br, .int .i64 nr, .string tr, .string xr, .slice aoV lr.length capV] 26 := (hbW.out.block _ hqv.out.lt).trans hqv.out
          have hlv2 := hlvc.out.stay fun b hS hlt => hbW.out.block b hlt
          have hla3 := hlac.out.stay fun b hS hlt => hbW.out.block b hlt
          have hlb3 := hlbc.out.stay fun b hS hlt => hbW.out.block b hlt
          have hsm := rsame_call 1048576 (by omega) wc kr br nr tr xr _ lr kr br nr tr xr _ lr hlv2.toLA hlW.out.toLA
          rw [sameP_self] at hsm
          unfold agg6 at hsm
          replace hsm := Lib.hid hsm
          have x0 := hqv2.cell 0 rfl
          have x1 := hqv2.cell 1 rfl
          have x2' := hqv2.cell 2 rfl
          have x3 := hqv2.cell 3 rfl
          have x4 := hqv2.cell 4 rfl
          have x5 := hqv2.cell 5 rfl
          have y0 := hqW.out.cell 0 rfl
          have y1 := hqW.out.cell 1 rfl
          have y2 := hqW.out.cell 2 rfl
          have y3 := hqW.out.cell 3 rfl
          have y4 := hqW.out.cell 4 rfl
          have y5 := hqW.out.cell 5 rfl
          replace hKw := Lib.hid hKw
          replace hqv2 := Lib.hid hqv2
          replace hlv2 := Lib.hid hlv2
          replace hla3 := Lib.hid hla3
          replace hlb3 := Lib.hid hlb3
          clear hKc hqv hlvc hlac hlbc hlW hbW hqW
          go_wp2_with fail
          refine (hsm.out).mono ?_
          rintro e w5 ⟨rfl, hb5⟩
          clear hsm x0 x1 x2' x3 x4 x5 y0 y1 y2 y3 y4 y5
          have hK5 := hKw.out.on hb5
          have hqv5 : Blk w5 w3.heap.size #[.int .i64 kr, .bool br, .int .i64 nr, .string tr, .string xr, .slice aoV lr.length capV] 26 := (hb5.block _ hqv2.out.lt).trans hqv2.out
          have hlv5 := hlv2.out.stay fun b hS hlt => hb5.block b hlt
          have hla5 := hla3.out.stay fun b hS hlt => hb5.block b hlt
          have hlb5 := hlb3.out.stay fun b hS hlt => hb5.block b hlt
          have hov := overValue_call 1048576 (by omega) w5 kr br nr tr xr _ lr (Fr wb.heap.size w3) hlv5 (fun b hb => Nat.lt_trans hb.2 hqv5.lt)
          unfold agg6 at hov
          replace hov := Lib.hid hov
          have x0 := hqv5.cell 0 rfl
          have x1 := hqv5.cell 1 rfl
          have x2' := hqv5.cell 2 rfl
          have x3 := hqv5.cell 3 rfl
          have x4 := hqv5.cell 4 rfl
          have x5 := hqv5.cell 5 rfl
          have hwb5 : wb.heap.size ≤ w5.heap.size := by have := hqv5.lt; omega
          replace hK5 := Lib.hid hK5
          replace hla5 := Lib.hid hla5
          replace hlb5 := Lib.hid hlb5
          clear hKw hqv2 hlv2 hla3 hlb3 hb5 hqv5 hlv5
          go_wp2_with fail
          refine (hov.out).mono ?_
          rintro e w6 ⟨rfl, ho6⟩
          have hb6 : Below wb.heap.size w5 w6 := ho6.below wb.heap.size hwb5 (fun x h => h.1)
          have hK6 := hK5.out.under (B := wb.heap.size) hWlt (by omega) (by omega) hb6
          have hla6 := hla5.out.stay (w' := w6) fun b hS hlt => hb6.block b (by have := hS.2; omega)
          have hlb6 := hlb5.out.stay (w' := w6) fun b hS hlt => hb6.block b (by have := hS.2; omega)
          clear hov x0 x1 x2' x3 x4 x5 ho6 hb6 hK5 hla5 hlb5 hwb5
          go_upto_region 16 with (fail)
          have hK7 : KB W w6.drew #[.slice (some ⟨b, off, none⟩) l.length cap, .int .i64 lang] #[.int .i64 k, .bool bo, .int .i64 n, .string t, .string x, .slice ao1 l1.length cap1] #[.int .i64 k2, .bool bo2, .int .i64 n2, .string t2, .string x2, .slice ao2 l12.length cap2] w1.heap.size w2.heap.size := hK6.on (below_drewN (Below.refl _ _) 1)
          have hla7 := hla6.stay (w' := w6.drew) fun b hS hlt => rfl
          have hlb7 := hlb6.stay (w' := w6.drew) fun b hS hlt => rfl
          have hS0 := hK7
          refine wp_region_held_drew (S := fun V => KB W V #[.slice (some ⟨b, off, none⟩) l.length cap, .int .i64 lang] #[.int .i64 k, .bool bo, .int .i64 n, .string t, .string x, .slice ao1 l1.length cap1] #[.int .i64 k2, .bool bo2, .int .i64 n2, .string t2, .string x2, .slice ao2 l12.length cap2] w1.heap.size w2.heap.size) (by kernel_rfl) hS0 (fun hS => ?_)
          clear hS0 hK6 hla6 hlb6
          generalize w6.drew = V0 at *
          have hsA := rsame_call 1048576 (by omega) V0 k bo n t x _ l1 k bo n t x _ l1 hla7.toLA (hsl.stay hK7.head.below)
          rw [sameP_self] at hsA
          have hsB := fun w (h : Below V0.heap.size V0 w) => rsame_call 1048576 (by omega) w k2 bo2 n2 t2 x2 _ l12 k2 bo2 n2 t2 x2 _ l12 (hlb7.stay (w' := w) fun b hS hlt => h.block b hlt).toLA (hsl2.stay (hK7.on h).head.below)
          rw [sameP_self] at hsB
          unfold agg6 at hsA hsB
          replace hsA := Lib.hid hsA
          replace hsB := Lib.hid hsB
          refine wpAnyH_take (i := 0) (v := ?_) rfl (by kernel_rfl) (by kernel_rfl) (by kernel_rfl) (fun _ _ _ h => h) (.inl ⟨by kernel_rfl, fun w' hS => ?_⟩) hS ?_
          rotate_left
          ·
            have x0 := hS.ba.cell 0 rfl; have x1 := hS.ba.cell 1 rfl; have x2' := hS.ba.cell 2 rfl; have x3 := hS.ba.cell 3 rfl; have x4 := hS.ba.cell 4 rfl; have x5 := hS.ba.cell 5 rfl
            go_simp
            try with_reducible rfl
          simp only [List.getElem_toArray, List.getElem_cons_succ, List.getElem_cons_zero, Act.put, List.setIfInBounds_toArray, List.set_cons_zero, List.set_cons_succ]
          refine wpAnyH_take (i := 1) (v := ?_) rfl (by kernel_rfl) (by kernel_rfl) (by kernel_rfl) (fun _ _ _ h => h) (.inl ⟨by kernel_rfl, fun w' hS => ?_⟩) hS ?_
          rotate_left
          ·
            skip
            go_simp
            try with_reducible rfl
          simp only [List.getElem_toArray, List.getElem_cons_succ, List.getElem_cons_zero, Act.put, List.setIfInBounds_toArray, List.set_cons_zero, List.set_cons_succ]
          refine wpAnyH_take (i := 2) (v := ?_) rfl (by kernel_rfl) (by kernel_rfl) (by kernel_rfl) (fun _ _ _ h => h) (.inl ⟨by kernel_rfl, fun w' hS => ?_⟩) hS ?_
          rotate_left
          ·
            have p0 := hS.head.bp.cell 0 rfl
            go_simp
            try with_reducible rfl
          simp only [List.getElem_toArray, List.getElem_cons_succ, List.getElem_cons_zero, Act.put, List.setIfInBounds_toArray, List.set_cons_zero, List.set_cons_succ]
          refine wpAnyH_take (i := 3) (v := ?_) rfl (by kernel_rfl) (by kernel_rfl) (by kernel_rfl) (fun _ _ _ h => h) (.inl ⟨by kernel_rfl, fun w' hS => ?_⟩) hS ?_
          rotate_left
          ·
            skip
            go_simp
            try with_reducible rfl
          simp only [List.getElem_toArray, List.getElem_cons_succ, List.getElem_cons_zero, Act.put, List.setIfInBounds_toArray, List.set_cons_zero, List.set_cons_succ]
          refine wpAnyH_take (i := 4) (v := ?_) rfl (by kernel_rfl) (by kernel_rfl) (by kernel_rfl) (fun _ _ _ h => h) (.inl ⟨by kernel_rfl, fun w' hS => ?_⟩) hS ?_
          rotate_left
          ·
            have ew : IntKind.i64.wrap (j : Int) = (j : Int) := IntWalk.i64_in _ (by omega)
            go_simp
            try with_reducible rfl
          simp only [List.getElem_toArray, List.getElem_cons_succ, List.getElem_cons_zero, Act.put, List.setIfInBounds_toArray, List.set_cons_zero, List.set_cons_succ]
          refine wpAnyH_take (i := 5) (v := ?_) rfl (by kernel_rfl) (by kernel_rfl) (by kernel_rfl) (fun _ _ _ h => h) (.inl ⟨by kernel_rfl, fun w' hS => ?_⟩) hS ?_
          rotate_left
          ·
            skip
            go_simp
            try with_reducible rfl
          simp only [List.getElem_toArray, List.getElem_cons_succ, List.getElem_cons_zero, Act.put, List.setIfInBounds_toArray, List.set_cons_zero, List.set_cons_succ]
          refine wpAnyH_take (i := 6) (v := ?_) rfl (by kernel_rfl) (by kernel_rfl) (by kernel_rfl) (fun _ _ _ h => h) (.inl ⟨by kernel_rfl, fun w' hS => ?_⟩) hS ?_
          rotate_left
          ·
            obtain ⟨z0, z1, z2, z3, z4, z5⟩ := (hr.below hS.head.below).six
            go_simp
            try with_reducible rfl
          simp only [List.getElem_toArray, List.getElem_cons_succ, List.getElem_cons_zero, Act.put, List.setIfInBounds_toArray, List.set_cons_zero, List.set_cons_succ]
          refine wpAnyH_ready (rs := [7]) (by kernel_rfl) (by simp) ?_
          refine AllReadyH.cons rfl (fun K hK => ?_) AllReadyH.nil
          clear hS
          go_simp
          refine (hsA.out).mono ?_
          rintro e w7 ⟨rfl, hb7⟩
          go_wp2_with fail
          refine hK.out _ _ (hK7.on hb7) (fun hS => ?_)
          clear hK K
          try simp only [List.getElem_toArray, List.getElem_cons_succ, List.getElem_cons_zero, Act.put, List.setIfInBounds_toArray, List.set_cons_zero, List.set_cons_succ]
          refine wpAnyH_take (i := 8) (v := ?_) rfl (by kernel_rfl) (by kernel_rfl) (by kernel_rfl) (fun _ _ _ h => h) (.inl ⟨by kernel_rfl, fun w' hS => ?_⟩) hS ?_
          rotate_left
          ·
            skip
            go_simp
            try with_reducible rfl
          simp only [List.getElem_toArray, List.getElem_cons_succ, List.getElem_cons_zero, Act.put, List.setIfInBounds_toArray, List.set_cons_zero, List.set_cons_succ]
          refine wpAnyH_take (i := 9) (v := ?_) rfl (by kernel_rfl) (by kernel_rfl) (by kernel_rfl) (fun _ _ _ h => h) (.inl ⟨by kernel_rfl, fun w' hS => ?_⟩) hS ?_
          rotate_left
          ·
            skip
            go_simp
            try with_reducible rfl
          simp only [List.getElem_toArray, List.getElem_cons_succ, List.getElem_cons_zero, Act.put, List.setIfInBounds_toArray, List.set_cons_zero, List.set_cons_succ]
          refine wpAnyH_take (i := 10) (v := ?_) rfl (by kernel_rfl) (by kernel_rfl) (by kernel_rfl) (fun _ _ _ h => h) (.inl ⟨by kernel_rfl, fun w' hS => ?_⟩) hS ?_
          rotate_left
          ·
            have x0 := hS.bb.cell 0 rfl; have x1 := hS.bb.cell 1 rfl; have x2' := hS.bb.cell 2 rfl; have x3 := hS.bb.cell 3 rfl; have x4 := hS.bb.cell 4 rfl; have x5 := hS.bb.cell 5 rfl
            go_simp
            try with_reducible rfl
          simp only [List.getElem_toArray, List.getElem_cons_succ, List.getElem_cons_zero, Act.put, List.setIfInBounds_toArray, List.set_cons_zero, List.set_cons_succ]
          refine wpAnyH_take (i := 11) (v := ?_) rfl (by kernel_rfl) (by kernel_rfl) (by kernel_rfl) (fun _ _ _ h => h) (.inl ⟨by kernel_rfl, fun w' hS => ?_⟩) hS ?_
          rotate_left
          ·
            skip
            go_simp
            try with_reducible rfl
          simp only [List.getElem_toArray, List.getElem_cons_succ, List.getElem_cons_zero, Act.put, List.setIfInBounds_toArray, List.set_cons_zero, List.set_cons_succ]
          refine wpAnyH_take (i := 12) (v := ?_) rfl (by kernel_rfl) (by kernel_rfl) (by kernel_rfl) (fun _ _ _ h => h) (.inl ⟨by kernel_rfl, fun w' hS => ?_⟩) hS ?_
          rotate_left
          ·
            have p0 := hS.head.bp.cell 0 rfl
            go_simp
            try with_reducible rfl
          simp only [List.getElem_toArray, List.getElem_cons_succ, List.getElem_cons_zero, Act.put, List.setIfInBounds_toArray, List.set_cons_zero, List.set_cons_succ]
          refine wpAnyH_take (i := 13) (v := ?_) rfl (by kernel_rfl) (by kernel_rfl) (by kernel_rfl) (fun _ _ _ h => h) (.inl ⟨by kernel_rfl, fun w' hS => ?_⟩) hS ?_
          rotate_left
          ·
            skip
            go_simp
            try with_reducible rfl
          simp only [List.getElem_toArray, List.getElem_cons_succ, List.getElem_cons_zero, Act.put, List.setIfInBounds_toArray, List.set_cons_zero, List.set_cons_succ]
          refine wpAnyH_take (i := 14) (v := ?_) rfl (by kernel_rfl) (by kernel_rfl) (by kernel_rfl) (fun _ _ _ h => h) (.inl ⟨by kernel_rfl, fun w' hS => ?_⟩) hS ?_
          rotate_left
          ·
            skip
            go_simp
            try with_reducible rfl
          simp only [List.getElem_toArray, List.getElem_cons_succ, List.getElem_cons_zero, Act.put, List.setIfInBounds_toArray, List.set_cons_zero, List.set_cons_succ]
          refine wpAnyH_take (i := 15) (v := ?_) rfl (by kernel_rfl) (by kernel_rfl) (by kernel_rfl) (fun _ _ _ h => h) (.inl ⟨by kernel_rfl, fun w' hS => ?_⟩) hS ?_
          rotate_left
          ·
            obtain ⟨u0, u1, u2, u3, u4, u5⟩ := (hr2.below hS.head.below).six
            go_simp
            try with_reducible rfl
          simp only [List.getElem_toArray, List.getElem_cons_succ, List.getElem_cons_zero, Act.put, List.setIfInBounds_toArray, List.set_cons_zero, List.set_cons_succ]
          refine wpAnyH_ready (rs := [16]) (by kernel_rfl) (by simp) ?_
          refine AllReadyH.cons rfl (fun K hK => ?_) AllReadyH.nil
          clear hS
          go_simp
          refine (hsB.out _ hb7).mono ?_
          rintro e w8 ⟨rfl, hb8⟩
          go_wp2_with fail
          refine hK.out _ _ ((hK7.on hb7).on hb8) (fun hS => ?_)
          clear hK K
          try simp only [List.getElem_toArray, List.getElem_cons_succ, List.getElem_cons_zero, Act.put, List.setIfInBounds_toArray, List.set_cons_zero, List.set_cons_succ]
          have hh9 := Lib.hid ((hK7.on hb7).on hb8).head
          refine wpAnyH_take (i := 17) (v := ?_) rfl (by kernel_rfl) (by kernel_rfl) (by kernel_rfl) (fun _ _ _ h => h) (.inl ⟨by kernel_rfl, fun w' hS => ?_⟩) hS ?_
          rotate_left
          ·
            skip
            go_simp
            try with_reducible rfl
          simp only [List.getElem_toArray, List.getElem_cons_succ, List.getElem_cons_zero, Act.put, List.setIfInBounds_toArray, List.set_cons_zero, List.set_cons_succ]
          refine wpAnyH_take (i := 18) (v := ?_) rfl (by kernel_rfl) (by kernel_rfl) (by kernel_rfl) (fun _ _ _ h => h) (.inl ⟨by kernel_rfl, fun w' hS => ?_⟩) hS ?_
          rotate_left
          ·
            skip
            go_simp
            try with_reducible rfl
          simp only [List.getElem_toArray, List.getElem_cons_succ, List.getElem_cons_zero, Act.put, List.setIfInBounds_toArray, List.set_cons_zero, List.set_cons_succ]
          refine wpAnyH_done (by kernel_rfl) ?_ _
          clear hS hK7 hla7 hlb7 hsA hsB hb7 hb8
          go_wp2
          go_roundw
          case rel => exact ⟨⟨op + 1, by omega, by omega, by go_num⟩, hh9⟩
          case measure => simp [intOf]; omega
end Go.Proofs.YtjncjcellpbhcaaGreatDoor.val
