/- Any values in either language as conditions, and truth values back as values, as the reference tells: for every list of values, not above the bound, that may be read, where the listed variables of the library hold what the program's text lays. -/
import Derived.Test.YthecgifgjagmaaaGreatDoorLOfA
import Derived.Test.YthecgifgjagmaaaGreatDoorLogicOps
import Derived.Test.YthecgifgjagmaaaGreatDoorVRSame
import Derived.IntWalk
import Derived.Deep.DeepCutAuto
namespace Go.Proofs.YthecgifgjagmaaaGreatDoor.val
open Go.ChangeShapes Go.WideShapes Go.ChangeAt Go.RowKit kit dec
set_option linter.unusedVariables false
set_option linter.unusedSimpArgs false
theorem null_la2 (w : World) (N : Nat) : LA w N (.slice none 0 0) [] := .mk none 0 [] (by simp) (fun j hj => by simp at hj)
/-- The world of the law at a round's head. -/
structure LE (W w : World) (p : Array Value) : Prop where
  below : Below W.heap.size W w
  env : Env w
  bp : Blk w W.heap.size p 24
theorem LE.on {W w w' : World} {p : Array Value} (h : LE W w p) (hb : Below w.heap.size w w') : LE W w' p :=
  ⟨h.below.trans (hb.mono h.below.size), h.env.below hb, h.bp.keep (Keep.ofBelow hb) (by simp)⟩
/-- What the regions read: the law's box, the element. -/
structure LS (g : Nat) (V : World) (p : Array Value) (b o : Nat) (k : Int) (bo : Bool) (n : Int) (t x : ByteArray) (s : Value) : Prop where
  bp : Blk V g p 24
  row : Row6 V b o k bo n t x s
theorem LS.on {g : Nat} {V V' : World} {p : Array Value} {b o : Nat} {k : Int} {bo : Bool} {n : Int} {t x : ByteArray} {s : Value} (h : LS g V p b o k bo n t x s) (hb : Below V.heap.size V V') : LS g V' p b o k bo n t x s := ⟨h.bp.keep (Keep.ofBelow hb) (by simp), h.row.below hb⟩
theorem LS.cells {g : Nat} {V : World} {p0 p1 : Value} {b o : Nat} {k : Int} {bo : Bool} {n : Int} {t x : ByteArray} {s : Value} (h : LS g V #[p0, p1] b o k bo n t x s) :
    V.cell? ⟨g, 0, none⟩ = some p0 ∧ V.cell? ⟨g, 1, none⟩ = some p1 ∧ V.cell? ⟨b, o, none⟩ = some (.int .i64 k) ∧ V.cell? ⟨b, o + 1, none⟩ = some (.bool bo) ∧ V.cell? ⟨b, o + 2, none⟩ = some (.int .i64 n) ∧ V.cell? ⟨b, o + 3, none⟩ = some (.string t) ∧ V.cell? ⟨b, o + 4, none⟩ = some (.string x) ∧ V.cell? ⟨b, o + 5, none⟩ = some s :=
  ⟨h.bp.cell 0 rfl, h.bp.cell 1 rfl, h.row.c0, h.row.c1, h.row.c2, h.row.c3, h.row.c4, h.row.c5⟩
set_option maxRecDepth 100000 in
set_option maxHeartbeats 8000000 in
theorem logicOf_any (N : Nat) (hN0 : N ≤ 1048576) (ao : Option Addr) (cap : Nat) (l : List V) (lang : Int) (W : World) (hE : Env W) (hl : l.length ≤ N) (ha : ∀ j (hj : j < l.length), EA W N ao (6 * j) l[j]) :
    Calls Tryz.prog 3 #[.agg #[.slice ao l.length cap, .int .i64 lang]] W fun e w' => e = .returned (.bool true) ∧ Below W.heap.size W w' := by
  have hN : N ≤ 9223372036854775807 := by omega
  have hal : Below W.heap.size W (W.alloc (.cells #[.slice ao l.length cap, .int .i64 lang] 24)) := (Below.refl _ _).alloc (Nat.le_refl _) _
  have hh0 : LE W (W.alloc (.cells #[.slice ao l.length cap, .int .i64 lang] 24)) #[.slice ao l.length cap, .int .i64 lang] := ⟨hal, hE.below hal, Blk.new _ _ _⟩
  replace ha := Lib.hid ha
  replace hh0 := Lib.hid hh0
  have hli : (l.length : Int) ≤ 9223372036854775807 := by omega
  clear hal hE
  go_enter Tryz.func3, Tryz.ntmps3
  go_wp2
  go_loopw [3] (fun i wr => (∃ j : Nat, j ≤ l.length + 1 ∧ i = .int .i64 (j : Int)) ∧ Hid (LE W wr #[.slice ao l.length cap, .int .i64 lang])) (fun i _ => l.length + 2 - (intOf i).toNat)
  case atStart => exact ⟨⟨0, by omega, rfl⟩, hh0⟩
  case round =>
    clear hh0
    obtain ⟨⟨j, hj, rfl⟩, hh⟩ := hrel
    obtain ⟨w0, rfl⟩ : ∃ w0 : World, w0 = wr := ⟨_, rfl⟩
    have p0 := hh.out.bp.cell 0 rfl
    obtain ⟨q, hqq⟩ : ∃ q : Bool, decide (j < l.length ∧ j < 30) = q := ⟨_, rfl⟩
    replace hqq := Lib.hid hqq
    go_upto_region 2 with (fail)
    go_cut [21] (fun v wx => v = .bool q ∧ wx = w0)
    case first =>
      as_aux_lemma =>
        by_cases h1 : j < l.length
        · have h1i : (j : Int) < (l.length : Int) := by omega
          by_cases h2 : j < 30
          · have h2i : (j : Int) < 30 := by omega
            obtain rfl : true = q := by rw [← hqq.out]; exact (decide_eq_true ⟨h1, h2⟩).symm
            go_wp2
            go_meet
            exact ⟨rfl, rfl⟩
          · have h2i : ¬ (j : Int) < 30 := by omega
            obtain rfl : false = q := by rw [← hqq.out]; exact (decide_eq_false (fun e => h2 e.2)).symm
            go_wp2
            go_meet
            exact ⟨by first | rfl | (simp; omega), rfl⟩
        · have h1i : ¬ (j : Int) < (l.length : Int) := by omega
          obtain rfl : false = q := by rw [← hqq.out]; exact (decide_eq_false (fun e => h1 e.1)).symm
          go_wp2
          go_meet
          exact ⟨rfl, rfl⟩
    obtain ⟨rfl, hwx⟩ := hcut
    rw [hwx]; clear hwx
    cases q
    case false =>
      clear p0 hqq
      go_wp2
      go_loopw [8] (fun v wr => ∃ r : Int, v = .int .i64 r ∧ -2 ≤ r ∧ r ≤ 6 ∧ Hid (LE W wr #[.slice ao l.length cap, .int .i64 lang])) (fun v _ => (6 - intOf v).toNat)
      case atStart => exact ⟨-2, rfl, by omega, by omega, hh⟩
      case round =>
        clear hh
        obtain ⟨r, rfl, hr0, hr6, hh⟩ := hrel
        obtain ⟨w0, rfl⟩ : ∃ w0 : World, w0 = wr := ⟨_, rfl⟩
        by_cases hlt : r < 6
        · have hbk := Lib.hid (back_call r w0)
          have hrbk := fun w => Lib.hid (rback_call r w)
          unfold bkV agg6 at hbk hrbk
          go_wp2_with fail
          refine (hbk.out).mono ?_
          rintro e w1 ⟨rfl, hb1⟩
          have hh1 := hh.out.on hb1
          have hh2 := hh1.on ((Below.refl _ _).alloc (Nat.le_refl _) (.cells #[.int .i64 (bkK r), .bool (bkB r), .int .i64 0, .string ⟨#[]⟩, .string ⟨#[]⟩, .slice none 0 0] 26))
          have hbx := Blk.new w1 #[.int .i64 (bkK r), .bool (bkB r), .int .i64 0, .string ⟨#[]⟩, .string ⟨#[]⟩, .slice none 0 0] 26
          replace hbx := Lib.hid hbx
          replace hh2 := Lib.hid hh2
          clear hb1 hh1 hh hbk
          go_wp2_with fail
          refine ((hrbk _).out).mono ?_
          rintro e w2 ⟨rfl, hb2⟩
          have hh3 := hh2.out.on hb2
          have hbx3 := (hbx.out.keep (Keep.ofBelow hb2) (by simp)).alloc (.cells #[.int .i64 (bkK r), .bool (bkB r), .int .i64 0, .string ⟨#[]⟩, .string ⟨#[]⟩, .slice none 0 0] 26)
          have hal3 : Below w2.heap.size w2 (w2.alloc (.cells #[.int .i64 (bkK r), .bool (bkB r), .int .i64 0, .string ⟨#[]⟩, .string ⟨#[]⟩, .slice none 0 0] 26)) := (Below.refl _ _).alloc (Nat.le_refl _) _
          have hh4 := hh3.on hal3
          have hsm := rsame_call 1000 (by omega) (w2.alloc (.cells #[.int .i64 (bkK r), .bool (bkB r), .int .i64 0, .string ⟨#[]⟩, .string ⟨#[]⟩, .slice none 0 0] 26)) (bkK r) (bkB r) 0 ⟨#[]⟩ ⟨#[]⟩ (.slice none 0 0) [] (bkK r) (bkB r) 0 ⟨#[]⟩ ⟨#[]⟩ (.slice none 0 0) [] (null_la2 _ _) (null_la2 _ _)
          rw [sameP_self] at hsm
          unfold agg6 at hsm
          have y0 := hbx3.cell 0 rfl
          have y1 := hbx3.cell 1 rfl
          have y2 := hbx3.cell 2 rfl
          have y3 := hbx3.cell 3 rfl
          have y4 := hbx3.cell 4 rfl
          have y5 := hbx3.cell 5 rfl
          replace hsm := Lib.hid hsm
          replace hh4 := Lib.hid hh4
          clear hb2 hh2 hh3 hal3 hbx hrbk hbx3
          go_wp2_with fail
          refine (hsm.out).mono ?_
          rintro e w5 ⟨rfl, hb5⟩
          have hh5 := Lib.hid (hh4.out.on hb5)
          clear hb5 hh4 hsm y0 y1 y2 y3 y4 y5
          go_wp2
          go_roundw
          case rel => exact ⟨r + 1, by first | rfl | go_num, by omega, by omega, hh5⟩
          case measure => simp [intOf]; omega
        · go_wp2_with (go_at_call 15; refine (logic.wakes_any _).mono ?_; rintro e w' ⟨rfl, n, rfl⟩)
          go_ret
          exact ⟨rfl, Below_drewN _ hh.out.below⟩
    case true =>
      obtain ⟨hlt, _⟩ := of_decide_eq_true hqq.out
      clear hqq
      have i0 : (j : Int) < (l.length : Int) := by omega
      have el := (ha.out j hlt).stay hh.out.below
      rw [Nat.mul_comm 6 j] at el
      generalize l[j]'hlt = v at el
      cases el with
      | mk b off o k bo n t x l1 s hr hk hn ht hx hsl =>
        obtain ⟨aoE, capE, rfl⟩ := LA.form6 hsl
        have z5 := hr.c5
        by_cases g1 : 100 < l1.length
        · have g1i : (100 : Int) < (l1.length : Int) := by omega
          go_wp2
          go_roundw
          case rel => exact ⟨⟨j + 1, by omega, by go_num⟩, hh⟩
          case measure => simp [intOf]; omega
        have g1i : ¬ (100 : Int) < (l1.length : Int) := by omega
        have hofc := fun (w : World) (h : Below w0.heap.size w0 w) (hE : Env w) => of_call N hN lang w hE k bo n hn t x _ l1 (hsl.stay h) ht hx
        have hrof := fun (w : World) (h : Below w0.heap.size w0 w) => rof_call N hN0 lang w k bo n hn t x _ l1 (hsl.stay h) ht hx
        generalize ofT (decide (lang = 1)) (mayV (.mk k bo n t x l1)) k bo n t = T at *
        generalize ofE (decide (lang = 1)) (mayV (.mk k bo n t x l1)) k = E at *
        unfold agg6 at hofc hrof
        replace hofc := Lib.hid hofc
        replace hrof := Lib.hid hrof
        have hdw := below_drew w0
        have hh1 := hh.out.on hdw
        have hS0 : LS W.heap.size w0.drew #[.slice (some ⟨b, off, none⟩) l.length cap, .int .i64 lang] b (off + j * 6) k bo n t x (.slice aoE l1.length capE) := ⟨hh1.bp, hr.below hdw⟩
        go_upto_region 5 with fail
        clear hsl hr hk z5 p0 hh
        refine wp_region_held_drew (S := fun V => LS W.heap.size V #[.slice (some ⟨b, off, none⟩) l.length cap, .int .i64 lang] b (off + j * 6) k bo n t x (.slice aoE l1.length capE)) (by kernel_rfl) hS0 (fun hS => ?_)
        have hV := hS0
        clear hS0
        have hb1 : Below w0.heap.size w0 w0.drew := hdw
        clear hdw
        generalize w0.drew = V0 at *
        refine wpAnyH_take (i := 0) (v := ?_) rfl (by kernel_rfl) (by kernel_rfl) (by kernel_rfl) (fun _ _ _ h => h) (.inl ⟨by kernel_rfl, fun w' hS => ?_⟩) hS ?_
        rotate_left
        ·
          obtain ⟨p0, p1, x0, x1, x2, x3, x4, x5⟩ := LS.cells hS
          go_simp
          try with_reducible rfl
        simp only [List.getElem_toArray, List.getElem_cons_succ, List.getElem_cons_zero, Act.put, List.setIfInBounds_toArray, List.set_cons_zero, List.set_cons_succ]
        refine wpAnyH_take (i := 1) (v := ?_) rfl (by kernel_rfl) (by kernel_rfl) (by kernel_rfl) (fun _ _ _ h => h) (.inl ⟨by kernel_rfl, fun w' hS => ?_⟩) hS ?_
        rotate_left
        ·
          obtain ⟨p0, p1, x0, x1, x2, x3, x4, x5⟩ := LS.cells hS
          go_simp
          try with_reducible rfl
        simp only [List.getElem_toArray, List.getElem_cons_succ, List.getElem_cons_zero, Act.put, List.setIfInBounds_toArray, List.set_cons_zero, List.set_cons_succ]
        refine wpAnyH_take (i := 2) (v := ?_) rfl (by kernel_rfl) (by kernel_rfl) (by kernel_rfl) (fun _ _ _ h => h) (.inl ⟨by kernel_rfl, fun w' hS => ?_⟩) hS ?_
        rotate_left
        ·
          obtain ⟨p0, p1, x0, x1, x2, x3, x4, x5⟩ := LS.cells hS
          go_simp
          try with_reducible rfl
        simp only [List.getElem_toArray, List.getElem_cons_succ, List.getElem_cons_zero, Act.put, List.setIfInBounds_toArray, List.set_cons_zero, List.set_cons_succ]
        refine wpAnyH_take (i := 3) (v := ?_) rfl (by kernel_rfl) (by kernel_rfl) (by kernel_rfl) (fun _ _ _ h => h) (.inl ⟨by kernel_rfl, fun w' hS => ?_⟩) hS ?_
        rotate_left
        ·
          obtain ⟨p0, p1, x0, x1, x2, x3, x4, x5⟩ := LS.cells hS
          go_simp
          try with_reducible rfl
        simp only [List.getElem_toArray, List.getElem_cons_succ, List.getElem_cons_zero, Act.put, List.setIfInBounds_toArray, List.set_cons_zero, List.set_cons_succ]
        refine wpAnyH_take (i := 4) (v := ?_) rfl (by kernel_rfl) (by kernel_rfl) (by kernel_rfl) (fun _ _ _ h => h) (.inl ⟨by kernel_rfl, fun w' hS => ?_⟩) hS ?_
        rotate_left
        ·
          obtain ⟨p0, p1, x0, x1, x2, x3, x4, x5⟩ := LS.cells hS
          go_simp
          try with_reducible rfl
        simp only [List.getElem_toArray, List.getElem_cons_succ, List.getElem_cons_zero, Act.put, List.setIfInBounds_toArray, List.set_cons_zero, List.set_cons_succ]
        refine wpAnyH_take (i := 5) (v := ?_) rfl (by kernel_rfl) (by kernel_rfl) (by kernel_rfl) (fun _ _ _ h => h) (.inl ⟨by kernel_rfl, fun w' hS => ?_⟩) hS ?_
        rotate_left
        ·
          obtain ⟨p0, p1, x0, x1, x2, x3, x4, x5⟩ := LS.cells hS
          go_simp
          try with_reducible rfl
        simp only [List.getElem_toArray, List.getElem_cons_succ, List.getElem_cons_zero, Act.put, List.setIfInBounds_toArray, List.set_cons_zero, List.set_cons_succ]
        refine wpAnyH_take (i := 6) (v := ?_) rfl (by kernel_rfl) (by kernel_rfl) (by kernel_rfl) (fun _ _ _ h => h) (.inl ⟨by kernel_rfl, fun w' hS => ?_⟩) hS ?_
        rotate_left
        ·
          obtain ⟨p0, p1, x0, x1, x2, x3, x4, x5⟩ := LS.cells hS
          go_simp
          try with_reducible rfl
        simp only [List.getElem_toArray, List.getElem_cons_succ, List.getElem_cons_zero, Act.put, List.setIfInBounds_toArray, List.set_cons_zero, List.set_cons_succ]
        refine wpAnyH_ready (rs := [7]) (by kernel_rfl) (by simp) ?_
        refine AllReadyH.cons rfl (fun K hK => ?_) AllReadyH.nil
        clear hS
        go_simp
        refine (hofc.out V0 hb1 hh1.env).mono ?_
        rintro e w5 ⟨rfl, hb5⟩
        go_wp2_with fail
        refine hK.out _ _ (hV.on hb5) (fun hS => ?_)
        clear hK K
        try simp only [List.getElem_toArray, List.getElem_cons_succ, List.getElem_cons_zero, Act.put, List.setIfInBounds_toArray, List.set_cons_zero, List.set_cons_succ]
        refine wpAnyH_take (i := 8) (v := ?_) rfl (by kernel_rfl) (by kernel_rfl) (by kernel_rfl) (fun _ _ _ h => h) (.inl ⟨by kernel_rfl, fun w' hS => ?_⟩) hS ?_
        rotate_left
        ·
          skip
          go_simp
          try with_reducible rfl
        simp only [List.getElem_toArray, List.getElem_cons_succ, List.getElem_cons_zero, Act.put, List.setIfInBounds_toArray, List.set_cons_zero, List.set_cons_succ]
        refine wpAnyH_take (i := 9) (v := ?_) rfl (by kernel_rfl) (by kernel_rfl) (by kernel_rfl) (fun _ _ _ h => h) (.inl ⟨by kernel_rfl, fun w' hS => ?_⟩) hS ?_
        rotate_left
        ·
          skip
          go_simp
          try with_reducible rfl
        simp only [List.getElem_toArray, List.getElem_cons_succ, List.getElem_cons_zero, Act.put, List.setIfInBounds_toArray, List.set_cons_zero, List.set_cons_succ]
        refine wpAnyH_take (i := 10) (v := ?_) rfl (by kernel_rfl) (by kernel_rfl) (by kernel_rfl) (fun _ _ _ h => h) (.inl ⟨by kernel_rfl, fun w' hS => ?_⟩) hS ?_
        rotate_left
        ·
          skip
          go_simp
          try with_reducible rfl
        simp only [List.getElem_toArray, List.getElem_cons_succ, List.getElem_cons_zero, Act.put, List.setIfInBounds_toArray, List.set_cons_zero, List.set_cons_succ]
        refine wpAnyH_take (i := 11) (v := ?_) rfl (by kernel_rfl) (by kernel_rfl) (by kernel_rfl) (fun _ _ _ h => h) (.inl ⟨by kernel_rfl, fun w' hS => ?_⟩) hS ?_
        rotate_left
        ·
          skip
          go_simp
          try with_reducible rfl
        simp only [List.getElem_toArray, List.getElem_cons_succ, List.getElem_cons_zero, Act.put, List.setIfInBounds_toArray, List.set_cons_zero, List.set_cons_succ]
        refine wpAnyH_take (i := 12) (v := ?_) rfl (by kernel_rfl) (by kernel_rfl) (by kernel_rfl) (fun _ _ _ h => h) (.inl ⟨by kernel_rfl, fun w' hS => ?_⟩) hS ?_
        rotate_left
        ·
          skip
          go_simp
          try with_reducible rfl
        simp only [List.getElem_toArray, List.getElem_cons_succ, List.getElem_cons_zero, Act.put, List.setIfInBounds_toArray, List.set_cons_zero, List.set_cons_succ]
        refine wpAnyH_done (by kernel_rfl) ?_ _
        have hh5 := hh1.on hb5
        have hV5 := hV.on hb5
        have hb6 := hb1.trans (hb5.mono hb1.size)
        clear hS hV hb5 hb1 hh1 hofc
        have hdw := below_drew w5
        have hh6 := hh5.on hdw
        have hS0 : LS W.heap.size w5.drew #[.slice (some ⟨b, off, none⟩) l.length cap, .int .i64 lang] b (off + j * 6) k bo n t x (.slice aoE l1.length capE) := hV5.on hdw
        have hb7 : Below w0.heap.size w0 w5.drew := hb6.trans (hdw.mono hb6.size)
        clear hh5 hV5 hb6 hdw
        go_upto_region 6 with fail
        refine wp_region_held_drew (S := fun V => LS W.heap.size V #[.slice (some ⟨b, off, none⟩) l.length cap, .int .i64 lang] b (off + j * 6) k bo n t x (.slice aoE l1.length capE)) (by kernel_rfl) hS0 (fun hS => ?_)
        have hV := hS0
        clear hS0
        generalize w5.drew = V1 at *
        refine wpAnyH_take (i := 0) (v := ?_) rfl (by kernel_rfl) (by kernel_rfl) (by kernel_rfl) (fun _ _ _ h => h) (.inl ⟨by kernel_rfl, fun w' hS => ?_⟩) hS ?_
        rotate_left
        ·
          obtain ⟨p0, p1, x0, x1, x2, x3, x4, x5⟩ := LS.cells hS
          go_simp
          try with_reducible rfl
        simp only [List.getElem_toArray, List.getElem_cons_succ, List.getElem_cons_zero, Act.put, List.setIfInBounds_toArray, List.set_cons_zero, List.set_cons_succ]
        refine wpAnyH_take (i := 1) (v := ?_) rfl (by kernel_rfl) (by kernel_rfl) (by kernel_rfl) (fun _ _ _ h => h) (.inl ⟨by kernel_rfl, fun w' hS => ?_⟩) hS ?_
        rotate_left
        ·
          obtain ⟨p0, p1, x0, x1, x2, x3, x4, x5⟩ := LS.cells hS
          go_simp
          try with_reducible rfl
        simp only [List.getElem_toArray, List.getElem_cons_succ, List.getElem_cons_zero, Act.put, List.setIfInBounds_toArray, List.set_cons_zero, List.set_cons_succ]
        refine wpAnyH_take (i := 2) (v := ?_) rfl (by kernel_rfl) (by kernel_rfl) (by kernel_rfl) (fun _ _ _ h => h) (.inl ⟨by kernel_rfl, fun w' hS => ?_⟩) hS ?_
        rotate_left
        ·
          obtain ⟨p0, p1, x0, x1, x2, x3, x4, x5⟩ := LS.cells hS
          go_simp
          try with_reducible rfl
        simp only [List.getElem_toArray, List.getElem_cons_succ, List.getElem_cons_zero, Act.put, List.setIfInBounds_toArray, List.set_cons_zero, List.set_cons_succ]
        refine wpAnyH_take (i := 3) (v := ?_) rfl (by kernel_rfl) (by kernel_rfl) (by kernel_rfl) (fun _ _ _ h => h) (.inl ⟨by kernel_rfl, fun w' hS => ?_⟩) hS ?_
        rotate_left
        ·
          obtain ⟨p0, p1, x0, x1, x2, x3, x4, x5⟩ := LS.cells hS
          go_simp
          try with_reducible rfl
        simp only [List.getElem_toArray, List.getElem_cons_succ, List.getElem_cons_zero, Act.put, List.setIfInBounds_toArray, List.set_cons_zero, List.set_cons_succ]
        refine wpAnyH_take (i := 4) (v := ?_) rfl (by kernel_rfl) (by kernel_rfl) (by kernel_rfl) (fun _ _ _ h => h) (.inl ⟨by kernel_rfl, fun w' hS => ?_⟩) hS ?_
        rotate_left
        ·
          obtain ⟨p0, p1, x0, x1, x2, x3, x4, x5⟩ := LS.cells hS
          go_simp
          try with_reducible rfl
        simp only [List.getElem_toArray, List.getElem_cons_succ, List.getElem_cons_zero, Act.put, List.setIfInBounds_toArray, List.set_cons_zero, List.set_cons_succ]
        refine wpAnyH_take (i := 5) (v := ?_) rfl (by kernel_rfl) (by kernel_rfl) (by kernel_rfl) (fun _ _ _ h => h) (.inl ⟨by kernel_rfl, fun w' hS => ?_⟩) hS ?_
        rotate_left
        ·
          obtain ⟨p0, p1, x0, x1, x2, x3, x4, x5⟩ := LS.cells hS
          go_simp
          try with_reducible rfl
        simp only [List.getElem_toArray, List.getElem_cons_succ, List.getElem_cons_zero, Act.put, List.setIfInBounds_toArray, List.set_cons_zero, List.set_cons_succ]
        refine wpAnyH_take (i := 6) (v := ?_) rfl (by kernel_rfl) (by kernel_rfl) (by kernel_rfl) (fun _ _ _ h => h) (.inl ⟨by kernel_rfl, fun w' hS => ?_⟩) hS ?_
        rotate_left
        ·
          obtain ⟨p0, p1, x0, x1, x2, x3, x4, x5⟩ := LS.cells hS
          go_simp
          try with_reducible rfl
        simp only [List.getElem_toArray, List.getElem_cons_succ, List.getElem_cons_zero, Act.put, List.setIfInBounds_toArray, List.set_cons_zero, List.set_cons_succ]
        refine wpAnyH_ready (rs := [7]) (by kernel_rfl) (by simp) ?_
        refine AllReadyH.cons rfl (fun K hK => ?_) AllReadyH.nil
        clear hS
        go_simp
        refine (hrof.out V1 hb7).mono ?_
        rintro e w8 ⟨rfl, hb8⟩
        go_wp2_with fail
        refine hK.out _ _ (hV.on hb8) (fun hS => ?_)
        clear hK K
        try simp only [List.getElem_toArray, List.getElem_cons_succ, List.getElem_cons_zero, Act.put, List.setIfInBounds_toArray, List.set_cons_zero, List.set_cons_succ]
        refine wpAnyH_take (i := 8) (v := ?_) rfl (by kernel_rfl) (by kernel_rfl) (by kernel_rfl) (fun _ _ _ h => h) (.inl ⟨by kernel_rfl, fun w' hS => ?_⟩) hS ?_
        rotate_left
        ·
          skip
          go_simp
          try with_reducible rfl
        simp only [List.getElem_toArray, List.getElem_cons_succ, List.getElem_cons_zero, Act.put, List.setIfInBounds_toArray, List.set_cons_zero, List.set_cons_succ]
        refine wpAnyH_take (i := 9) (v := ?_) rfl (by kernel_rfl) (by kernel_rfl) (by kernel_rfl) (fun _ _ _ h => h) (.inl ⟨by kernel_rfl, fun w' hS => ?_⟩) hS ?_
        rotate_left
        ·
          skip
          go_simp
          try with_reducible rfl
        simp only [List.getElem_toArray, List.getElem_cons_succ, List.getElem_cons_zero, Act.put, List.setIfInBounds_toArray, List.set_cons_zero, List.set_cons_succ]
        refine wpAnyH_take (i := 10) (v := ?_) rfl (by kernel_rfl) (by kernel_rfl) (by kernel_rfl) (fun _ _ _ h => h) (.inl ⟨by kernel_rfl, fun w' hS => ?_⟩) hS ?_
        rotate_left
        ·
          skip
          go_simp
          try with_reducible rfl
        simp only [List.getElem_toArray, List.getElem_cons_succ, List.getElem_cons_zero, Act.put, List.setIfInBounds_toArray, List.set_cons_zero, List.set_cons_succ]
        refine wpAnyH_take (i := 11) (v := ?_) rfl (by kernel_rfl) (by kernel_rfl) (by kernel_rfl) (fun _ _ _ h => h) (.inl ⟨by kernel_rfl, fun w' hS => ?_⟩) hS ?_
        rotate_left
        ·
          skip
          go_simp
          try with_reducible rfl
        simp only [List.getElem_toArray, List.getElem_cons_succ, List.getElem_cons_zero, Act.put, List.setIfInBounds_toArray, List.set_cons_zero, List.set_cons_succ]
        refine wpAnyH_take (i := 12) (v := ?_) rfl (by kernel_rfl) (by kernel_rfl) (by kernel_rfl) (fun _ _ _ h => h) (.inl ⟨by kernel_rfl, fun w' hS => ?_⟩) hS ?_
        rotate_left
        ·
          skip
          go_simp
          try with_reducible rfl
        simp only [List.getElem_toArray, List.getElem_cons_succ, List.getElem_cons_zero, Act.put, List.setIfInBounds_toArray, List.set_cons_zero, List.set_cons_succ]
        refine wpAnyH_done (by kernel_rfl) ?_ _
        have hh8 := Lib.hid (hh6.on hb8)
        clear hS hV hb8 hb7 hh6 hrof
        go_wp2
        go_roundw
        case rel => exact ⟨⟨j + 1, by omega, by go_num⟩, hh8⟩
        case measure => simp [intOf]; omega
end Go.Proofs.YthecgifgjagmaaaGreatDoor.val
