/- Contract of the reference's Sum. -/
import Derived.Test.YtnnojhgnfmieoaaGreatDoorRefOps
import Derived.Test.YtnnojhgnfmieoaaGreatDoorDecSum
namespace Go.Proofs.YtnnojhgnfmieoaaGreatDoor.dec
open Go.ChangeShapes Go.WideShapes Go.ChangeAt Go.RowKit kit
set_option linter.unusedVariables false
set_option linter.unusedSimpArgs false
theorem add_signed2 (s t : Bool) (A B sa sb S : Nat) (x y : Int) (hS : max sa sb = S) (ha : sa ≤ 20) (hb : sb ≤ 20) (hx : signed s (A * 10 ^ (20 - sa)) = x) (hy : signed t (B * 10 ^ (20 - sb)) = y) :
    signed (plusP s (10 ^ (S - sa) * A) t (10 ^ (S - sb) * B)).1 ((plusP s (10 ^ (S - sa) * A) t (10 ^ (S - sb) * B)).2 * 10 ^ (20 - S)) = x + y := by
  have e1 : 10 ^ (S - sa) * A * 10 ^ (20 - S) = A * 10 ^ (20 - sa) := by
    rw [Nat.mul_comm (10 ^ (S - sa)) A, Nat.mul_assoc, ← Nat.pow_add, show S - sa + (20 - S) = 20 - sa by omega]
  have e2 : 10 ^ (S - sb) * B * 10 ^ (20 - S) = B * 10 ^ (20 - sb) := by
    rw [Nat.mul_comm (10 ^ (S - sb)) B, Nat.mul_assoc, ← Nat.pow_add, show S - sb + (20 - S) = 20 - sb by omega]
  have hp := plusP_signed s (10 ^ (S - sa) * A) t (10 ^ (S - sb) * B)
  rw [signed_scale, hp, Int.add_mul, ← signed_scale, ← signed_scale, e1, e2, hx, hy]
/-- A sum so far, as digits. -/
structure SI (ss : List ByteArray) (k : Nat) (s : Bool) (D : List Nat) (sc : Nat) : Prop where
  val : signed s (vL D * 10 ^ (20 - sc)) = sumZ ss k
  sc20 : sc ≤ 20
  dig : dgs D
  one : 1 ≤ D.length
  len : D.length ≤ sc + 100
theorem sumZ_le (ss : List ByteArray) (k : Nat) (hk : k ≤ ss.length) : (sumZ ss k).natAbs ≤ k * top := by
  induction k with
  | zero => simp [sumZ]
  | succ k ih =>
    rw [sumZ_succ ss k (by omega), Nat.succ_mul]
    have h1 := ih (by omega)
    have h2 : (zof (ss.getD k ByteArray.empty).data.toList).natAbs < top := zof_small _
    omega
theorem SI.start (ss : List ByteArray) : SI ss 0 false [0] 0 :=
  ⟨by simp [signed, sumZ, vL], by omega, fun d hd => by rw [List.mem_singleton] at hd; omega, by simp, by simp⟩
theorem SI.step {ss : List ByteArray} {k : Nat} {s t : Bool} {D E F : List Nat} {sc sd S : Nat} (h : SI ss k s D sc) (hk : k < ss.length) (h200 : ss.length ≤ 200) (hE : dgs E) (lE : 1 ≤ E.length) (lE2 : E.length ≤ 62) (hsd : sd ≤ 20)
    (hv : signed t (vL E * 10 ^ (20 - sd)) = zof (ss.getD k ByteArray.empty).data.toList) (hS : max sc sd = S) (hF : dgs F) (lF : 1 ≤ F.length)
    (hp : vL F = (plusP s (10 ^ (S - sc) * vL D) t (10 ^ (S - sd) * vL E)).2) (hl : F.length ≤ S - sc + D.length ∨ F.length ≤ S - sd + E.length ∨ 10 ^ (F.length - 1) ≤ vL F) :
    SI ss (k + 1) (plusP s (10 ^ (S - sc) * vL D) t (10 ^ (S - sd) * vL E)).1 F S := by
  have hs := add_signed2 s t (vL D) (vL E) sc sd S _ _ hS h.sc20 hsd h.val hv
  rw [← sumZ_succ ss k hk, ← hp] at hs
  have hsc := h.sc20
  refine ⟨hs, by omega, hF, lF, ?_⟩
  have hD := h.len
  rcases hl with hl | hl | hl
  · omega
  · omega
  · have hb := sumZ_le ss (k + 1) (by omega)
    rw [← hs, signed_natAbs] at hb
    have h1 : vL F ≤ vL F * 10 ^ (20 - S) := Nat.le_mul_of_pos_right _ (Nat.pow_pos (by decide))
    have h2 : (k + 1) * top ≤ 200 * top := Nat.mul_le_mul_right _ (by omega)
    have h3 : 200 * top < 10 ^ 63 := by unfold top; rw [show 63 = 3 + 60 from rfl, Nat.pow_add]; exact Nat.mul_lt_mul_of_pos_right (by decide) (Nat.pow_pos (by decide))
    have := pow_len (m := 63) hl (by omega)
    omega
theorem SI.done {ss : List ByteArray} {s : Bool} {D : List Nat} {sc : Nat} (h : SI ss ss.length s D sc) (ha : allC ss ss.length = true) : toldP s (vL D) sc = sumR ss := by
  unfold sumR
  rw [if_pos ha, ← h.val]
  have ht := told_dvd s (vL D) sc (20 - sc)
  have h20 := h.sc20
  rw [show sc + (20 - sc) = 20 by omega, toldP_20] at ht
  exact ht.symm
/-- The world in the loop: the number's box, its digits. -/
structure SW (w wr : World) (s : Bool) (v : Value) (sc : Nat) (D : List Nat) : Prop where
  below : Below w.heap.size w wr
  box : Blk wr (w.heap.size + 1) (numc s v sc) 49
  ints : IntsAt wr v D
  far : ∀ k, v.ownBlock = some k → k ≠ w.heap.size + 1
theorem SW.on {w wr wr' : World} {s : Bool} {v : Value} {sc : Nat} {D : List Nat} (h : SW w wr s v sc D) (hb : Below wr.heap.size wr wr') : SW w wr' s v sc D :=
  ⟨h.below.trans (hb.mono h.below.size), h.box.keep (Keep.ofBelow hb) (by simp), h.ints.below hb, h.far⟩
theorem st3_blk2 {V : World} {b : Nat} {n0 : Bool} {v0 : Value} {sc0 : Nat} (n : Bool) (v : Value) (sc : Nat) (h : Blk V b (numc n0 v0 sc0) 49) : Blk (st3 V b n v sc) b (numc n v sc) 49 := ((h.set 0 _).set 1 _).set 2 _
theorem SW.store {w wr w' : World} {s s' : Bool} {v v' : Value} {sc sc' : Nat} {D D' : List Nat} (h : SW w wr s v sc D) (hb : Below wr.heap.size wr w') (hi : IntsAt w' v' D') (hfar : ∀ k, v'.ownBlock = some k → w.heap.size + 1 < k) :
    SW w (st3 w' (w.heap.size + 1) s' v' sc') s' v' sc' D' := by
  have h2 := h.on hb
  exact ⟨st3_below h2.below (Nat.le_succ _) _ _ _, st3_blk2 _ _ _ h2.box, st3_ints _ _ _ hi (fun k hk => by have := hfar k hk; omega), fun k hk => by have := hfar k hk; omega⟩
set_option maxRecDepth 100000 in
set_option maxHeartbeats 4000000 in
theorem refsum_gen (ao : Option Addr) (cap : Nat) (ss : List ByteArray) (w : World) (hlen : ss.length ≤ 200)
    (hc : ∀ j, j < ss.length → ∃ b off, ao = some ⟨b, off, none⟩ ∧ b < w.heap.size ∧ w.cell? ⟨b, off + j, none⟩ = some (.string (ss.getD j ByteArray.empty))) (hsz : ∀ j, j < ss.length → (ss.getD j ByteArray.empty).size ≤ 50000) :
    Calls Tryz.prog 9 #[.slice ao ss.length cap] w fun e w' => e = .returned (rv (sumR ss)) ∧ Below w.heap.size w w' := by
  have hfin : ∀ s D sc, SI ss ss.length s D sc → allC ss ss.length = true → toldP s (vL D) sc = sumR ss := fun s D sc h ha => h.done ha
  have hbad : allC ss ss.length = false → sumR ss = ([], 1) := by
    intro ha; unfold sumR; rw [ha]; rfl
  generalize sumR ss = R at *
  replace hfin := Lib.hid hfin
  replace hbad := Lib.hid hbad
  replace hc := Lib.hid hc
  replace hsz := Lib.hid hsz
  go_enter Tryz.func9, Tryz.ntmps9
  go_wp2
  have sw0 : SW w ((w.alloc (.cells #[.int .i64 0] 3)).alloc (.cells #[.bool false, .slice (some ⟨w.heap.size, 0, none⟩) 1 1, .int .i64 0] 49)) false (.slice (some ⟨w.heap.size, 0, none⟩) 1 1) 0 [0] := by
    have h1 : (w.alloc (.cells #[.int .i64 0] 3)).ownsRow w.heap.size 3 1 (.slice (some ⟨w.heap.size, 0, none⟩) 1 1) 1 (intsV [0]) := World.ownsRow_lit w #[.int .i64 0] 1 (Nat.le_refl _) (by decide) rfl
    refine ⟨(((Keep.refl [] w).alloc _).alloc _).below, ?_, own_ints (l := [0]) (h1.alloc _), fun k hk => ?_⟩
    · have := Blk.new (w.alloc (.cells #[.int .i64 0] 3)) (numc false (.slice (some ⟨w.heap.size, 0, none⟩) 1 1) 0) 49
      rwa [World.size_alloc] at this
    · simp [Value.ownBlock] at hk; omega
  go_loopw [5] (fun v5 wr => ∃ (k : Nat) (s : Bool) (v : Value) (D : List Nat) (sc : Nat), k ≤ ss.length ∧ v5 = .int .i64 k ∧ Hid (SI ss k s D sc) ∧ Hid (allC ss k = true) ∧ Hid (SW w wr s v sc D)) (fun v5 _ => ss.length - (intOf v5).toNat)
  case atStart => exact ⟨0, false, _, [0], 0, by omega, rfl, SI.start ss, rfl, sw0⟩
  case round =>
    clear sw0
    obtain ⟨k, s, v, D, sc, hk, rfl, hS, hA, hW⟩ := hrel
    obtain ⟨vo, vc, rfl⟩ := hW.out.ints.form
    have hDd := Lib.hid hS.out.dig
    have hD1 := hS.out.one
    have hDl := hS.out.len
    have hsc := hS.out.sc20
    by_cases hlt : k < ss.length
    · have hki : (k : Int) < (ss.length : Int) := by omega
      obtain ⟨b, off, rfl, hb, hcell0⟩ := hc.out k hlt
      have hcell : wr.cell? ⟨b, off + k, none⟩ = some (.string (ss.getD k ByteArray.empty)) := (hW.out.below.cell (p := ⟨b, off + k, none⟩) hb).trans hcell0
      clear hc
      have hsk := hsz.out k hlt
      have hac := allC_succ ss k hlt
      have hbd := allC_le ss k hlt
      have hst := fun s t D E F sc sd S h => @SI.step ss k s t D E F sc sd S h hlt hlen
      generalize ss.getD k ByteArray.empty = a at *
      have hcan := fun x (hz : small x) (he : a.data.toList = canon x) n D sc L h => @NumM.canon a x n D sc L hz he h
      have hpa := Lib.hid (fun w => parsed_any a w hsk)
      have hca := Lib.hid (fun w => rcheck_any a w hsk)
      have hsa := @chk_some a.data.toList
      obtain ⟨c, hcc⟩ : ∃ c, chk a.data.toList = c := ⟨_, rfl⟩
      rw [hcc] at hca hac hbd hsa
      have hR : c = false → R = ([], 1) := fun h => hbad.out (hbd h)
      clear hbd
      replace hst := Lib.hid hst
      replace hac := Lib.hid hac
      replace hcan := Lib.hid hcan
      replace hcc := Lib.hid hcc
      go_wp2_with fail
      refine (hpa.out _).mono ?_
      rintro e w1 hr
      obtain ⟨hb1, n1, v1, D1, sc1, rfl, hi1, hm1, hl1⟩ := hr.num
      obtain ⟨vo1, vc1, rfl⟩ := hi1.form
      clear hr
      have hW1 := hW.out.on hb1
      replace hi1 := Lib.hid hi1
      replace hm1 := Lib.hid hm1
      replace hl1 := Lib.hid hl1
      replace hW1 := Lib.hid hW1
      obtain ⟨q, hq⟩ : ∃ q, (numP a.data.toList).isSome = q := ⟨_, rfl⟩
      rw [hq] at hsa ⊢
      replace hq := Lib.hid hq
      go_upto_region 6 with (fail)
      obtain ⟨w2, hw2⟩ : ∃ w2, w2 = w1.alloc (.cells #[.bool n1, .slice vo1 D1.length vc1, .int .i64 sc1] 49) := ⟨_, rfl⟩
      have hb2 : Below w1.heap.size w1 w2 := by rw [hw2]; exact (Below.refl _ _).alloc (Nat.le_refl _) _
      have bg2 : Blk w2 w1.heap.size (numc n1 (.slice vo1 D1.length vc1) sc1) 49 := by rw [hw2]; exact Blk.new _ _ _
      rw [← hw2]
      clear hw2
      have hW2 := Lib.hid (hW1.out.on hb2)
      have hi2 := Lib.hid (hi1.out.below hb2)
      have hg : w.heap.size + 1 < w1.heap.size := by have := hW1.out.box.lt; omega
      have hl2 := Lib.hid fun (k : Nat) (hk : (Value.slice vo1 D1.length vc1).ownBlock = some k) => hl1.out k hk
      clear hW1 hi1 hl1 hW
      have hcell2 := (hW2.out.below.cell (p := ⟨b, off + k, none⟩) hb).trans hcell0
      clear hcell hcell0
      generalize w1.heap.size = g at *
      replace bg2 := Lib.hid bg2
      clear hb2 hb1
      cases q
      · obtain rfl : c = false := Bool.eq_false_iff.2 (fun e => by have := hsa e; cases this)
        have hR1 := hR rfl
        replace hR1 := Lib.hid hR1
        clear hsa hR
        go_wp2
        go_ret2
        exact ⟨by rw [hR1.out]; rfl, hW2.out.below⟩
      · clear hsa
        cases c
        · have hR1 := hR rfl
          replace hR1 := Lib.hid hR1
          clear hR
          go_wp2_with (go_at_call 27; refine (hca.out _).mono ?_; rintro e w3 ⟨rfl, hb3⟩)
          go_ret2
          exact ⟨by rw [hR1.out]; rfl, (hW2.out.on hb3).below⟩
        · clear hR
          go_upto_region 8 with (go_at_call 27; refine (hca.out _).mono ?_; rintro e w3 ⟨rfl, hb3⟩)
          have hW3 := hW2.out.on hb3
          have hi3 := hi2.out.below hb3
          have bg3 := bg2.out.keep (Keep.ofBelow hb3) (by simp)
          have a0 : w3.cell? ⟨w.heap.size + 1, 0, none⟩ = some (.bool s) := hW3.box.cell 0 rfl
          have a1 : w3.cell? ⟨w.heap.size + 1, 1, none⟩ = some (.slice vo D.length vc) := hW3.box.cell 1 rfl
          have a2 : w3.cell? ⟨w.heap.size + 1, 2, none⟩ = some (.int .i64 sc) := hW3.box.cell 2 rfl
          have b0 : w3.cell? ⟨g, 0, none⟩ = some (.bool n1) := bg3.cell 0 rfl
          have b1 : w3.cell? ⟨g, 1, none⟩ = some (.slice vo1 D1.length vc1) := bg3.cell 1 rfl
          have b2 : w3.cell? ⟨g, 2, none⟩ = some (.int .i64 sc1) := bg3.cell 2 rfl
          obtain ⟨x, zx, ex⟩ := (chk_iff _).1 hcc.out
          obtain ⟨d1, l1, m1, c1, q1, e1, f1⟩ := hcan.out x zx ex _ _ _ _ hm1.out
          have k1 := canon_sz zx ex
          have hzx : zof a.data.toList = x := by rw [ex, zof_canon x zx]
          have hstp := hst.out s n1 D D1
          rw [hzx] at hstp
          clear hst hcan hcc hca hm1 bg3 bg2 hi2 hW2 hb3 ex e1 f1
          replace hstp := Lib.hid hstp
          replace q1 := Lib.hid q1
          replace d1 := Lib.hid d1
          replace hW3 := Lib.hid hW3
          replace hi3 := Lib.hid hi3
          go_wp2_with fail
          refine (rplus_own s n1 (.slice vo D.length vc) (.slice vo1 D1.length vc1) D D1 sc sc1 w3 hW3.out.ints hi3.out hDd.out d1.out hD1 l1 (by omega) (by omega) (by omega) (by omega)).mono ?_
          rintro e w4 ⟨v4, F, he4, hb4, hi4, hF, hv4, lF, hlF, hfr4⟩
          obtain ⟨S, hS4⟩ : ∃ S, max sc sc1 = S := ⟨_, rfl⟩
          rw [hS4] at he4 hv4 hlF
          have hnew := hstp.out F sc sc1 S hS.out d1.out l1 (by omega) c1 q1.out hS4 hF lF hv4 hlF
          have hS20 := hnew.sc20
          generalize (plusP s (10 ^ (S - sc) * vL D) n1 (10 ^ (S - sc1) * vL D1)).1 = t4 at he4 hnew
          subst he4
          obtain ⟨vo4, vc4, rfl⟩ := hi4.form
          have hW4 := hW3.out.on hb4
          have hfar : ∀ k, (Value.slice vo4 F.length vc4).ownBlock = some k → w.heap.size + 1 < k := fun k hk => by have := hfr4 k hk; have := hW3.out.box.lt; omega
          have hfin4 := Lib.hid (hW3.out.store (s' := t4) (sc' := S) hb4 hi4 hfar)
          have a0 : w4.cell? ⟨w.heap.size + 1, 0, none⟩ = some (.bool s) := hW4.box.cell 0 rfl
          have a1 : w4.cell? ⟨w.heap.size + 1, 1, none⟩ = some (.slice vo D.length vc) := hW4.box.cell 1 rfl
          have a2 : w4.cell? ⟨w.heap.size + 1, 2, none⟩ = some (.int .i64 sc) := hW4.box.cell 2 rfl
          have f0 : w4.frozen? ⟨w.heap.size + 1, 0, none⟩ = false := hW4.box.free 0
          have f1 : w4.frozen? ⟨w.heap.size + 1, 1, none⟩ = false := hW4.box.free 1
          have f2 : w4.frozen? ⟨w.heap.size + 1, 2, none⟩ = false := hW4.box.free 2
          replace hnew := Lib.hid hnew
          clear hW4 hfar hfr4 hlF hv4 hF hi4 hb4 hstp hW3 hi3 hS
          unfold numc at *
          go_wp2
          go_roundw
          case rel => exact ⟨k + 1, t4, .slice vo4 F.length vc4, F, S, by omega, by go_num, hnew, by show _ = _; rw [hac.out, hA.out]; rfl, hfin4⟩
          case measure => simp [intOf]; omega
    · obtain rfl : k = ss.length := by omega
      have hRR := hfin.out s D sc hS.out hA.out
      have a0 : wr.cell? ⟨w.heap.size + 1, 0, none⟩ = some (.bool s) := hW.out.box.cell 0 rfl
      have a1 : wr.cell? ⟨w.heap.size + 1, 1, none⟩ = some (.slice vo D.length vc) := hW.out.box.cell 1 rfl
      have a2 : wr.cell? ⟨w.heap.size + 1, 2, none⟩ = some (.int .i64 sc) := hW.out.box.cell 2 rfl
      have hfm := rform_any s (.slice vo D.length vc) D sc wr hW.out.ints hDd.out hD1 (by omega) (by omega)
      rw [hRR] at hfm
      replace hfm := Lib.hid hfm
      go_wp2_with fail
      refine hfm.out.mono ?_
      unfold rv
      rintro e w4 ⟨rfl, hb4⟩
      have hb14 := Lib.hid (hW.out.below.trans (hb4.mono hW.out.below.size))
      clear hb4 hfm
      go_wp2
      go_ret2
      exact ⟨rfl, hb14.out⟩
end Go.Proofs.YtnnojhgnfmieoaaGreatDoor.dec
