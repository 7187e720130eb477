/- Contract of the reference's Form. -/
import Derived.Test.YtidplkfhodpdhaaGreatDoorRefA
import Derived.Test.YtidplkfhodpdhaaGreatDoorRefA
import Derived.Test.YtidplkfhodpdhaaGreatDoorDecA
import Derived.Test.YtidplkfhodpdhaaGreatDoorRefA
import Derived.Test.YtidplkfhodpdhaaGreatDoorRefA
namespace Go.Proofs.YtidplkfhodpdhaaGreatDoor.dec
open Go.ChangeShapes Go.WideShapes Go.ChangeAt Go.RowKit kit
set_option linter.unusedVariables false
set_option linter.unusedSimpArgs false
set_option maxRecDepth 100000 in
set_option maxHeartbeats 4000000 in
theorem rform_any (neg : Bool) (va : Value) (D : List Nat) (sc : Nat) (w : World) (hva : IntsAt w va D) (hD : dgs D) (hn : 1 ≤ D.length) (hl : D.length ≤ 2000000) (hsc : sc ≤ 2000000) :
 Calls Tryz.prog 157 #[.agg #[.bool neg, va, .int .i64 sc]] w fun e w' => e = .returned (rv (toldP neg (vL D) sc)) ∧ Below w.heap.size w w' := by
 rcases hva with ⟨rfl, rfl⟩ | ⟨b, off, cap, rfl, hlt, hc⟩
 ·simp at hn
 go_enter Tryz.func157, Tryz.ntmps157
 go_upto_region 1 with (fail)
 obtain ⟨W, hW⟩ : ∃ W, W = w.alloc (.cells #[.bool neg, .slice (some ⟨b, off, none⟩) D.length cap, .int .i64 sc] 167) := ⟨_, rfl⟩
 have hbw : Below w.heap.size w W := by rw [hW]; exact (Below.refl _ _).alloc (Nat.le_refl _) _
 have c0 : W.cell? ⟨w.heap.size, 0, none⟩ = some (.bool neg) := by rw [hW, World.cell?_alloc_new]; rfl
 have c1 : W.cell? ⟨w.heap.size, 1, none⟩ = some (.slice (some ⟨b, off, none⟩) D.length cap) := by rw [hW, World.cell?_alloc_new]; rfl
 have c2 : W.cell? ⟨w.heap.size, 2, none⟩ = some (.int .i64 sc) := by rw [hW, World.cell?_alloc_new]; rfl
 have hDW : IntsAt W (.slice (some ⟨b, off, none⟩) D.length cap) D := IntsAt.below (.inr ⟨b, off, cap, rfl, hlt, hc⟩) hbw
 have hcl := Lib.hid fun (j : Nat) (hj : j < D.length) => (hbw.cell (p := ⟨b, off + j, none⟩) hlt).trans (hc j hj)
 have hWs : w.heap.size < W.heap.size := by rw [hW, World.size_alloc]; omega
 rw [← hW]
 clear hW hc
 have sci : (sc : Int) ≤ 2000000 := by omega
 have lai : (D.length : Int) ≤ 2000000 := by omega
 replace hD := Lib.hid hD
 replace hDW := Lib.hid hDW
 replace hbw := Lib.hid hbw
 have ha := Lib.hid fun (i : Int) (h0 : -1000000000 ≤ i) (h1 : i ≤ 1000000000) => at_any (.slice (some ⟨b, off, none⟩) D.length cap) D i W hDW.out (by omega) h0 h1
 go_wp2_with fail
 go_loop [4] (fun v => ∃ k : Nat, k ≤ sc ∧ v = .int .i64 k ∧ Hid (∀ j, j < k → D.getD j 0 = 0)) (fun v => sc - (intOf v).toNat)
 case atStart => exact ⟨0, by omega, rfl, fun j hj => by omega⟩
 case round =>
  obtain ⟨k, hk, rfl, hz⟩ := hrel
  have hki : (k : Int) ≤ 2000000 := by omega
  have hak := ha.out (k : Int) (by omega) (by omega)
  rw [atL_nat] at hak
  obtain ⟨q, hq⟩ : ∃ q : Bool, decide (k < sc ∧ D.getD k 0 = 0) = q := ⟨_, rfl⟩
  replace hq := Lib.hid hq
  go_upto_region 2 with (fail)
  go_cut [19] (fun v wx => v = .bool q ∧ wx = W)
  case first =>
   as_aux_lemma =>
    by_cases h1 : k < sc
    ·have h1i : ((k : Int) < (sc : Int)) := by omega
     by_cases h2 : D.getD k 0 = 0
     ·obtain rfl : true = q := by rw [← hq.out]; exact (decide_eq_true ⟨h1, h2⟩).symm
      rw [h2] at hak
      replace hak := Lib.hid hak
      go_wp2_with (go_at_call 184; refine hak.out.mono ?_; rintro e w' ⟨rfl, rfl⟩)
      go_meet
      exact ⟨rfl, rfl⟩
     ·obtain rfl : false = q := by rw [← hq.out]; exact (decide_eq_false (fun e => h2 e.2)).symm
      have hne : (((D.getD k 0 : Nat) : Int) == 0) = false := beq_eq_false_iff_ne.2 (by omega)
      clear hq
      generalize D.getD k 0 = x at *
      replace hak := Lib.hid hak
      go_wp2_with (go_at_call 184; refine hak.out.mono ?_; rintro e w' ⟨rfl, rfl⟩)
      go_meet
      exact ⟨rfl, rfl⟩
    ·have h1i : ¬ ((k : Int) < (sc : Int)) := by omega
     obtain rfl : false = q := by rw [← hq.out]; exact (decide_eq_false (fun e => h1 e.1)).symm
     clear hak
     go_wp2
     go_meet
     exact ⟨rfl, rfl⟩
  obtain ⟨rfl, hwx⟩ := hcut
  rw [hwx]; clear hwx
  cases q
  case true =>
   have hq2 := of_decide_eq_true hq.out
   replace hq2 := Lib.hid hq2
   go_wp2
   go_round
   case rel =>
    refine ⟨k + 1, by have := hq2.out.1; omega, by go_num, fun j hj => ?_⟩
    rcases Nat.lt_or_ge j k with e | e
    ·exact hz.out j e
    ·rw [show j = k by omega]; exact hq2.out.2
   case measure => have := hq2.out.1; simp [intOf]; omega
  case false =>
   have hq2 : k = sc ∨ D.getD k 0 ≠ 0 := by
    have := of_decide_eq_false hq.out
    rcases Nat.lt_or_ge k sc with h | h
    ·exact .inr (fun e => this ⟨h, e⟩)
    ·exact .inl (by omega)
   replace hq2 := Lib.hid hq2
   clear hq hak
   go_wp2_with fail
   go_loop [5] (fun v => ∃ h : Nat, v = .int .i64 h ∧ Hid (h ≤ D.length ∧ (h = D.length ∨ sc + 1 ≤ h) ∧ ∀ j, h ≤ j → D.getD j 0 = 0)) (fun v => (intOf v).toNat)
   case atStart => exact ⟨D.length, rfl, by omega, .inl rfl, fun j hj => by rw [List.getD_eq_getElem?_getD, List.getElem?_eq_none hj]; rfl⟩
   case round =>
    obtain ⟨h, rfl, hz2⟩ := hrel
    have hh := hz2.out.1
    have hhi : (h : Int) ≤ 2000000 := by omega
    obtain ⟨q, hq⟩ : ∃ q : Bool, decide (sc + 1 < h ∧ D.getD (h - 1) 0 = 0) = q := ⟨_, rfl⟩
    replace hq := Lib.hid hq
    go_upto_region 5 with (fail)
    go_cut [38] (fun v wx => v = .bool q ∧ wx = W)
    case first =>
     as_aux_lemma =>
      by_cases h1 : sc + 1 < h
      ·have h1i : ((sc : Int) + 1 < (h : Int)) := by omega
       have hcell := hcl.out (h - 1) (by omega)
       have e1 : ((h : Int) - 1).toNat = h - 1 := by omega
       have b0 : 0 ≤ (h : Int) - 1 := by omega
       have b1 : (h : Int) - 1 < (D.length : Int) := by omega
       by_cases h2 : D.getD (h - 1) 0 = 0
       ·obtain rfl : true = q := by rw [← hq.out]; exact (decide_eq_true ⟨h1, h2⟩).symm
        rw [h2] at hcell
        go_wp2
        go_meet
        exact ⟨rfl, rfl⟩
       ·obtain rfl : false = q := by rw [← hq.out]; exact (decide_eq_false (fun e => h2 e.2)).symm
        have hne : (((D.getD (h - 1) 0 : Nat) : Int) == 0) = false := beq_eq_false_iff_ne.2 (by omega)
        clear hq
        generalize D.getD (h - 1) 0 = x at *
        go_wp2
        go_meet
        exact ⟨rfl, rfl⟩
      ·have h1i : ¬ ((sc : Int) + 1 < (h : Int)) := by omega
       obtain rfl : false = q := by rw [← hq.out]; exact (decide_eq_false (fun e => h1 e.1)).symm
       go_wp2
       go_meet
       exact ⟨rfl, rfl⟩
    obtain ⟨rfl, hwx⟩ := hcut
    rw [hwx]; clear hwx
    cases q
    case true =>
     have hq3 := of_decide_eq_true hq.out
     replace hq3 := Lib.hid hq3
     go_wp2
     go_round
     case rel =>
      have h3 := hq3.out.1
      refine ⟨h - 1, by rw [show ((h - 1 : Nat) : Int) = (h : Int) - 1 by omega], by omega, .inr (by omega), fun j hj => ?_⟩
      rcases Nat.lt_or_ge j h with e | e
      ·rw [show j = h - 1 by omega]; exact hq3.out.2
      ·exact hz2.out.2.2 j e
     case measure => have := hq3.out.1; simp [intOf]; omega
    case false =>
     have hq3 : h ≤ sc + 1 ∨ D.getD (h - 1) 0 ≠ 0 := by
      have := of_decide_eq_false hq.out
      rcases Nat.lt_or_ge (sc + 1) h with h5 | h5
      ·exact .inr (fun e => this ⟨h5, e⟩)
      ·exact .inl h5
     replace hq3 := Lib.hid hq3
     clear hq
     obtain ⟨H, hH⟩ : ∃ H : Nat, (if h ≤ sc then sc + 1 else h) = H := ⟨_, rfl⟩
     have hH1 : sc + 1 ≤ H := by split at hH <;> omega
     have hH2 : H ≤ 2000001 := by split at hH <;> omega
     have hF := form_told neg (vL D) sc H k hH1 (vL_lt_of hD.out H (fun j hj => hz2.out.2.2 j (by split at hH <;> omega)))
      (by
       rcases hq3.out with h5 | h5
       ·exact .inl (by split at hH <;> omega)
       ·split at hH
        ·exact .inl (by omega)
        ·exact .inr (by rw [← hH]; exact vL_ge_of hD.out (h - 1) h5))
      hk (vL_dvd_of hD.out k hz.out) (by rw [vL_get hD.out k]; exact hq2.out)
     replace hF := Lib.hid hF
     go_upto_if 44 with (fail)
     go_cut [5] (fun v wx => v = .int .i64 H ∧ wx = W)
     case first =>
      as_aux_lemma =>
       by_cases h6 : h ≤ sc
       ·have h6i : (h : Int) ≤ (sc : Int) := by omega
        rw [if_pos h6] at hH
        have eH : (H : Int) = (sc : Int) + 1 := by omega
        replace eH := Lib.hid eH
        clear hF hq3 hz2 hq2
        go_wp2
        go_meet
        exact ⟨by rw [eH.out], rfl⟩
       ·have h6i : ¬ (h : Int) ≤ (sc : Int) := by omega
        rw [if_neg h6] at hH
        subst hH
        clear hF hq3 hz2 hq2
        go_wp2
        go_meet
        exact ⟨rfl, rfl⟩
     obtain ⟨rfl, hwx⟩ := hcut
     rw [hwx]; clear hwx
     clear hH hq3 hz2 hq2
     have hHi : (H : Int) ≤ 2000001 := by omega
     have hHi1 : (sc : Int) + 1 ≤ (H : Int) := by omega
     have hki2 : (k : Int) ≤ (sc : Int) := by omega
     obtain ⟨q, hq⟩ : ∃ q : Bool, decide (40 < H - sc ∨ 20 < sc - k) = q := ⟨_, rfl⟩
     replace hq := Lib.hid hq
     go_upto_region 9 with (fail)
     go_cut [59] (fun v wx => v = .bool q ∧ wx = W)
     case first =>
      as_aux_lemma =>
       by_cases h7 : 40 < H - sc
       ·have h7i : 40 < (H : Int) - (sc : Int) := by omega
        obtain rfl : true = q := by rw [← hq.out]; exact (decide_eq_true (.inl h7)).symm
        go_wp2
        go_meet
        exact ⟨rfl, rfl⟩
       ·have h7i : ¬ 40 < (H : Int) - (sc : Int) := by omega
        by_cases h8 : 20 < sc - k
        ·have h8i : 20 < (sc : Int) - (k : Int) := by omega
         obtain rfl : true = q := by rw [← hq.out]; exact (decide_eq_true (.inr h8)).symm
         go_wp2
         go_meet
         exact ⟨rfl, rfl⟩
        ·have h8i : ¬ 20 < (sc : Int) - (k : Int) := by omega
         obtain rfl : false = q := by rw [← hq.out]; exact (decide_eq_false (fun e => e.elim h7 h8)).symm
         go_wp2
         go_meet
         exact ⟨rfl, rfl⟩
     obtain ⟨rfl, hwx⟩ := hcut
     rw [hwx]; clear hwx
     cases q
     case true =>
      have hv := hF.out
      rw [if_pos (of_decide_eq_true hq.out)] at hv
      replace hv := Lib.hid hv
      clear hF hq
      go_wp2
      go_ret2
      refine ⟨?_, hbw.out⟩
      rw [hv.out]
      rfl
     case false =>
      have hv := hF.out
      rw [if_neg (of_decide_eq_false hq.out)] at hv
      replace hv := Lib.hid hv
      clear hF hq
      have hzr := Lib.hid (zero_any (.slice (some ⟨b, off, none⟩) D.length cap) D W hDW.out (by omega))
      obtain ⟨q, hq⟩ : ∃ q : Bool, (neg && decide (vL D ≠ 0)) = q := ⟨_, rfl⟩
      replace hq := Lib.hid hq
      go_upto_region 12 with (fail)
      go_cut [67] (fun v wx => v = .bool q ∧ wx = W)
      case first =>
       as_aux_lemma =>
        cases neg
        case false =>
         obtain rfl : false = q := by rw [← hq.out]; rfl
         go_wp2
         go_meet
         exact ⟨rfl, rfl⟩
        case true =>
         by_cases hN : vL D = 0
         ·rw [decide_eq_true hN] at hzr
          obtain rfl : false = q := by rw [← hq.out, decide_eq_false (show ¬ (vL D ≠ 0) from fun e => e hN)]; rfl
          go_wp2_with (go_at_call 148; refine hzr.out.mono ?_; rintro e w' ⟨rfl, rfl⟩)
          go_meet
          exact ⟨rfl, rfl⟩
         ·rw [decide_eq_false hN] at hzr
          obtain rfl : true = q := by rw [← hq.out, decide_eq_true (show vL D ≠ 0 from hN)]; rfl
          go_wp2_with (go_at_call 148; refine hzr.out.mono ?_; rintro e w' ⟨rfl, rfl⟩)
          go_meet
          exact ⟨rfl, rfl⟩
      obtain ⟨rfl, hwx⟩ := hcut
      rw [hwx]; clear hwx
      rw [hq.out] at hv
      clear hzr hq
      obtain ⟨i0, hi, hx⟩ := Option.map_eq_some_iff.1 infoByte
      simp only [Prod.mk.injEq] at hx
      obtain ⟨hz0, hz1, hz2⟩ := hx
      replace hi := Lib.hid hi
      replace hz0 := Lib.hid hz0
      replace hz1 := Lib.hid hz1
      replace hz2 := Lib.hid hz2
      go_upto_if 67 with (fail)
      go_cut [6] (fun v wx => BW W W.heap.size v (if q then [45] else []) wx)
      case first =>
       as_aux_lemma =>
        cases q
        case false =>
         go_wp2
         go_meet
         exact BW.start W
        case true =>
         go_wp2_with (at_builtin; refine wpList_append_own _ rfl _ _ 100 rfl W.heap.size 5 i0 (.int .u8 0) 1 1 Tryz.underlying100 hi.out hz0.out hz1.out hz2.out rfl (by decide) _ 0 [] rfl (World.ownsRow_nil _ _ _ _) _ 1 _ [.int .u8 45] rfl rfl ?c1 ?c2 ?c3 ?c4 ?c5 ?_)
         case c2 => simp [Value.oneCell']
         case c3 => decide
         intro v' w' h1 h2 _
         go_wp2
         go_meet
         exact (BW.start W).step (Nat.le_refl _) _ 45 h1 h2
      obtain ⟨L0, hL0⟩ : ∃ L : List UInt8, (if q then [45] else []) = L := ⟨_, rfl⟩
      rw [hL0] at hcut hv
      have hL0s : L0.length ≤ 1 := by rw [← hL0]; cases q <;> decide
      clear hL0
      have k0 := hcut.below
      go_wp2_with fail
      go_loopw [6, 7] (fun v6 v7 wr => ∃ m : Nat, sc ≤ m ∧ m ≤ H ∧ v7 = .int .i64 ((m : Int) - 1) ∧ BW W W.heap.size v6 (L0 ++ pad (H - m) (vL D / 10 ^ m)) wr) (fun _ v7 _ => (intOf v7 + 1).toNat)
      case atStart =>
       refine ⟨H, by omega, Nat.le_refl _, rfl, ?_⟩
       rw [Nat.sub_self, pad, List.append_nil]
       exact hcut
      case round =>
       obtain ⟨m, hk1, hk2, rfl, hB⟩ := hrel
       have hB0 := hB.below
       have d0 := (hB0.cell (p := ⟨w.heap.size, 0, none⟩) hWs).trans c0
       have d1 := (hB0.cell (p := ⟨w.heap.size, 1, none⟩) hWs).trans c1
       have d2 := (hB0.cell (p := ⟨w.heap.size, 2, none⟩) hWs).trans c2
       have hBs := hB0.size
       have hBo := hB.own
       have hBl : (L0 ++ pad (H - m) (vL D / 10 ^ m)).length ≤ 2000002 := by rw [List.length_append, pad_length]; omega
       have hkz : (m : Int) ≤ 2000001 := by omega
       by_cases hks : sc < m
       ·obtain ⟨j, rfl⟩ : ∃ j, m = j + 1 := ⟨m - 1, by omega⟩
        have hj1 : (sc : Int) ≤ (j : Int) := by omega
        rw [show (((j + 1 : Nat) : Int) - 1) = (j : Int) by omega]
        have hak := at_any (.slice (some ⟨b, off, none⟩) D.length cap) D (j : Int) wr (hDW.out.below hB0) (by omega) (by omega) (by omega)
        rw [atL_nat] at hak
        have hpad : L0 ++ pad (H - j) (vL D / 10 ^ j) = (L0 ++ pad (H - (j + 1)) (vL D / 10 ^ (j + 1))) ++ [dg (D.getD j 0)] := by
         rw [show H - j = (H - (j + 1)) + 1 by omega, pad, Nat.div_div_eq_div_mul, ← Nat.pow_succ, vL_get hD.out, List.append_assoc]
        have hx9 : D.getD j 0 ≤ 9 := by have := dgs_getD hD.out j; omega
        generalize L0 ++ pad (H - (j + 1)) (vL D / 10 ^ (j + 1)) = L at *
        generalize D.getD j 0 = x at *
        have hdg : (((dg x).toNat : Nat) : Int) = 48 + (x : Int) := by rw [dg_toNat (by omega)]; omega
        clear hv hcut k0 ha c0 c1 c2 hcl
        replace hak := Lib.hid hak
        replace hpad := Lib.hid hpad
        replace hB := Lib.hid hB
        replace hdg := Lib.hid hdg
        go_wp2_with (first | (go_at_call 184; refine hak.out.mono ?_; rintro e w' ⟨rfl, rfl⟩) | (at_builtin; refine wpList_append_own _ rfl _ _ 100 rfl W.heap.size 5 i0 (.int .u8 0) 1 1 Tryz.underlying100 hi.out hz0.out hz1.out hz2.out rfl (by decide) _ L.length (bytesV L) rfl (hBo.alloc _) _ 1 _ [.int .u8 (48 + (x : Int))] rfl rfl ?d1 ?d2 ?d3 ?d4 ?d5 ?d6) | fail)
        case d1 => exact news_one _ _ _
        case d2 => simp [Value.oneCell']
        case d3 => simp only [maxLen]; omega
        case d4 => omega
        case d5 => simp; omega
        case d6 =>
         intro v' w1 h1 h2 _
         rw [← hdg.out] at h1
         have hI2 := hB.out.step hBs _ (dg x) h1 h2
         rw [← hpad.out] at hI2
         replace hI2 := Lib.hid hI2
         clear h1 h2
         go_wp2
         refine ⟨⟨j, by omega, by omega, rfl, hI2.out⟩, ?_⟩
         simp only [intOf]
         omega
       ·obtain rfl : sc = m := by omega
        obtain ⟨L1, hL1⟩ : ∃ L1 : List UInt8, L0 ++ pad (H - sc) (vL D / 10 ^ sc) = L1 := ⟨_, rfl⟩
        rw [hL1] at hv hB hBo hBl
        clear hL1 hcut k0
        replace hB := Lib.hid hB
        go_wp2_with (first | (at_builtin; refine wpList_append_own _ rfl _ _ 100 rfl W.heap.size 5 i0 (.int .u8 0) 1 1 Tryz.underlying100 hi.out hz0.out hz1.out hz2.out rfl (by decide) _ L1.length (bytesV L1) rfl (hBo.alloc _) _ 1 _ [.int .u8 (46)] rfl rfl ?e1 ?e2 ?e3 ?e4 ?e5 ?e6) | fail)
        case e1 => exact news_one _ _ _
        case e2 => simp [Value.oneCell']
        case e3 => simp only [maxLen]; omega
        case e4 => omega
        case e5 => simp; omega
        case e6 =>
        intro v' w1 h1 h2 _
        have hI3 := hB.out.step hBs _ 46 h1 h2
        obtain ⟨L2, hL2⟩ : ∃ L2 : List UInt8, L1 ++ [46] = L2 := ⟨_, rfl⟩
        have hL2l : L2.length ≤ 2000003 := by rw [← hL2, List.length_append, List.length_singleton]; omega
        have hL2p : 0 < L2.length := by rw [← hL2, List.length_append, List.length_singleton]; omega
        rw [hL2] at hI3 hv
        clear h1 h2 hB hBo hBl d0 d1 d2 hB0 hL2 hBs
        have k0 := hI3.below
        have d0 := (k0.cell (p := ⟨w.heap.size, 0, none⟩) hWs).trans c0
        have d1 := (k0.cell (p := ⟨w.heap.size, 1, none⟩) hWs).trans c1
        have d2 := (k0.cell (p := ⟨w.heap.size, 2, none⟩) hWs).trans c2
        replace k0 := Lib.hid k0
        replace hI3 := Lib.hid hI3
        go_wp2_with fail
        go_loopw [6, 8] (fun v6 v8 wr => ∃ m : Nat, k ≤ m ∧ m ≤ sc ∧ v8 = .int .i64 ((m : Int) - 1) ∧ BW W W.heap.size v6 (L2 ++ pad (sc - m) (vL D / 10 ^ m)) wr) (fun _ v8 _ => (intOf v8 + 1).toNat)
        case atStart =>
         refine ⟨sc, by omega, Nat.le_refl _, rfl, ?_⟩
         rw [Nat.sub_self, pad, List.append_nil]
         exact hI3.out
        case round =>
         clear d0 d1 d2 k0 hI3
         obtain ⟨m, hk3, hk4, rfl, hB⟩ := hrel
         have hB0 := hB.below
         have d0 := (hB0.cell (p := ⟨w.heap.size, 0, none⟩) hWs).trans c0
         have d1 := (hB0.cell (p := ⟨w.heap.size, 1, none⟩) hWs).trans c1
         have d2 := (hB0.cell (p := ⟨w.heap.size, 2, none⟩) hWs).trans c2
         have hBs := hB0.size
         have hBo := hB.own
         have hBl : (L2 ++ pad (sc - m) (vL D / 10 ^ m)).length ≤ 4000010 := by rw [List.length_append, pad_length]; omega
         have hkz : (m : Int) ≤ 2000001 := by omega
         by_cases hks2 : k < m
         ·obtain ⟨j, rfl⟩ : ∃ j, m = j + 1 := ⟨m - 1, by omega⟩
          have hj1 : (k : Int) ≤ (j : Int) := by omega
          rw [show (((j + 1 : Nat) : Int) - 1) = (j : Int) by omega]
          have hak := at_any (.slice (some ⟨b, off, none⟩) D.length cap) D (j : Int) wr (hDW.out.below hB0) (by omega) (by omega) (by omega)
          rw [atL_nat] at hak
          have hpad : L2 ++ pad (sc - j) (vL D / 10 ^ j) = (L2 ++ pad (sc - (j + 1)) (vL D / 10 ^ (j + 1))) ++ [dg (D.getD j 0)] := by
           rw [show sc - j = (sc - (j + 1)) + 1 by omega, pad, Nat.div_div_eq_div_mul, ← Nat.pow_succ, vL_get hD.out, List.append_assoc]
          have hx9 : D.getD j 0 ≤ 9 := by have := dgs_getD hD.out j; omega
          generalize L2 ++ pad (sc - (j + 1)) (vL D / 10 ^ (j + 1)) = L at *
          generalize D.getD j 0 = x at *
          have hdg : (((dg x).toNat : Nat) : Int) = 48 + (x : Int) := by rw [dg_toNat (by omega)]; omega
          clear hv ha c0 c1 c2 hcl
          replace hak := Lib.hid hak
          replace hpad := Lib.hid hpad
          replace hB := Lib.hid hB
          replace hdg := Lib.hid hdg
          go_wp2_with (first | (go_at_call 184; refine hak.out.mono ?_; rintro e w' ⟨rfl, rfl⟩) | (at_builtin; refine wpList_append_own _ rfl _ _ 100 rfl W.heap.size 5 i0 (.int .u8 0) 1 1 Tryz.underlying100 hi.out hz0.out hz1.out hz2.out rfl (by decide) _ L.length (bytesV L) rfl (hBo.alloc _) _ 1 _ [.int .u8 (48 + (x : Int))] rfl rfl ?f1 ?f2 ?f3 ?f4 ?f5 ?f6) | fail)
          case f1 => exact news_one _ _ _
          case f2 => simp [Value.oneCell']
          case f3 => simp only [maxLen]; omega
          case f4 => omega
          case f5 => simp; omega
          case f6 =>
           intro v' w1 h1 h2 _
           rw [← hdg.out] at h1
           have hI2 := hB.out.step hBs _ (dg x) h1 h2
           rw [← hpad.out] at hI2
           replace hI2 := Lib.hid hI2
           clear h1 h2
           go_wp2
           refine ⟨⟨j, by omega, by omega, rfl, hI2.out⟩, ?_⟩
           simp only [intOf]
           omega
         ·obtain rfl : k = m := by omega
          by_cases hz5 : k = sc
          ·subst hz5
           rw [if_pos rfl] at hv
           rw [Nat.sub_self, pad, List.append_nil] at hB hBo hBl
           replace hB := Lib.hid hB
           replace hv := Lib.hid hv
           go_wp2_with (first | (at_builtin; refine wpList_append_own _ rfl _ _ 100 rfl W.heap.size 5 i0 (.int .u8 0) 1 1 Tryz.underlying100 hi.out hz0.out hz1.out hz2.out rfl (by decide) _ L2.length (bytesV L2) rfl (hBo.alloc _) _ 1 _ [.int .u8 (48)] rfl rfl ?g1 ?g2 ?g3 ?g4 ?g5 ?g6) | fail)
           case g1 => exact news_one _ _ _
           case g2 => simp [Value.oneCell']
           case g3 => simp only [maxLen]; omega
           case g4 => omega
           case g5 => simp; omega
           case g6 =>
            intro v' w1 h1 h2 _
            have hI4 := hB.out.step hBs _ 48 h1 h2
            obtain ⟨L4, hL4⟩ : ∃ L4 : List UInt8, L2 ++ [48] = L4 := ⟨_, rfl⟩
            have hL4p : 0 < L4.length := by rw [← hL4, List.length_append, List.length_singleton]; omega
            have hv4 := hv.out
            rw [hL4] at hI4 hv4
            replace hv4 := Lib.hid hv4
            clear hv hL4
            obtain ⟨g, cp, rfl, hcb⟩ := hI4.conv hL4p
            have hbe := hI4.below
            replace hbe := Lib.hid hbe
            clear h1 h2 hI4
            go_wp2
            go_ret2
            refine ⟨?_, hbw.out.trans (hbe.out.mono (by omega))⟩
            rw [hv4.out]
            rfl
          ·have hzi : ((k : Int) == (sc : Int)) = false := beq_eq_false_iff_ne.2 (by omega)
           rw [if_neg hz5] at hv
           obtain ⟨L3, hL3⟩ : ∃ L3 : List UInt8, L2 ++ pad (sc - k) (vL D / 10 ^ k) = L3 := ⟨_, rfl⟩
           have hL3p : 0 < L3.length := by rw [← hL3, List.length_append]; omega
           rw [hL3] at hB hBo hBl hv
           obtain ⟨g, cp, rfl, hcb⟩ := hB.conv hL3p
           clear hL3 hBo
           replace hv := Lib.hid hv
           replace hB0 := Lib.hid hB0
           replace hB := Lib.hid hB
           go_wp2
           go_ret2
           refine ⟨?_, hbw.out.trans (hB0.out.mono (by omega))⟩
           rw [hv.out]
           rfl
end Go.Proofs.YtidplkfhodpdhaaGreatDoor.dec
