/- Contract of the reference's reader: a value. -/
import Derived.Test.YtjncjcellpbhcaaGreatDoorRdVal
import Derived.Test.YtjncjcellpbhcaaGreatDoorRrReadA
namespace Go.Proofs.YtjncjcellpbhcaaGreatDoor.val
open Go.ChangeShapes Go.WideShapes Go.ChangeAt Go.RowKit kit dec
set_option linter.unusedVariables false
set_option linter.unusedSimpArgs false
theorem VlR.any {M : Nat} {c : UInt8} {r : List UInt8} {x : V} {L' : List UInt8} {b' : Bool} (hle : L'.length ≤ r.length) (h : ∀ m, M = m + 1 → VlR (m + 1) (c :: r) false x L' b') : VlR M (c :: r) false x L' b' := by
  cases M with
  | zero => exact ⟨Nat.le_trans hle (by simp), (fun e => by cases e), (fun _ v r e => by cases e), fun _ _ => .inr (.inl rfl)⟩
  | succ m => exact h m rfl
/-- A byte as a number. -/
theorem rnum_one (w : World) (rb : Nat) (L : List UInt8) (bad : Bool) (h : RD 48 w rb L bad) :
    Calls Tryz.prog 47 #[.pointer (some ⟨rb, 0, none⟩), .int .i64 1] w fun e w' => ∃ (c : UInt8) (L1 : List UInt8) (b1 : Bool), e = .returned (.int .i64 (c.toNat : Nat)) ∧ RD 48 w' rb L1 b1 ∧ Keep [rb] w w' ∧ ((bad = false ∧ L = c :: L1 ∧ b1 = false) ∨ (c = 0 ∧ L1 = L ∧ b1 = true ∧ (bad = true ∨ L = []))) := by
  by_cases hg : bad = false ∧ 1 ≤ L.length
  · obtain ⟨rfl, h1⟩ := hg
    refine (rnum_y w rb L 1 (by omega) h1 h).mono ?_
    rintro e w' ⟨he, hr, hk⟩
    cases L with
    | nil => simp at h1
    | cons c r =>
      refine ⟨c, r, false, ?_, hr, hk, .inl ⟨rfl, rfl, rfl⟩⟩
      rw [he]
      have := c.toNat_lt
      rw [show beN ((c :: r).take 1) = c.toNat from by simp [beN], IntWalk.i64_in _ (by omega)]
  · refine (rnum_n w rb L bad 1 (by omega) hg h).mono ?_
    rintro e w' ⟨he, hr, hk⟩
    refine ⟨0, L, true, he, hr, hk, .inr ⟨rfl, rfl, rfl, ?_⟩⟩
    cases bad
    · right
      cases L with
      | nil => rfl
      | cons c r => exact absurd ⟨rfl, by simp⟩ hg
    · exact .inl rfl
/-- The reference's value answers, so many lists deep. -/
def RrX (m : Nat) : Prop := ∀ (w : World) (rb : Nat) (L : List UInt8) (bad : Bool) (deep : Int), deep = 61 - (m : Int) → 0 ≤ deep → L.length ≤ 1048576 → RD 48 w rb L bad →
  Calls Tryz.prog 17 #[.pointer (some ⟨rb, 0, none⟩), .int .i64 deep] w (RdP 48 m w rb L bad)
set_option maxRecDepth 100000 in
set_option maxHeartbeats 16000000 in
theorem rvalue_step (M : Nat) (ih : ∀ m', M = m' + 1 → RrX m') : RrX M := by
  intro w rb L bad deep hdeep hd0 hLl h
  have hrl := h.lt
  have hal : Keep [rb] w (w.alloc (.cells #[.int .i64 0, .bool false, .int .i64 0, .string ByteArray.empty, .string ByteArray.empty, .slice none 0 0] 26)) := (Keep.refl [rb] w).alloc _
  have ht := rnum_one (w.alloc (.cells #[.int .i64 0, .bool false, .int .i64 0, .string ByteArray.empty, .string ByteArray.empty, .slice none 0 0] 26)) rb L bad (h.keep fun k hk => Below.heap_alloc w _ k (by omega))
  have hz := Blk.new w #[.int .i64 0, .bool false, .int .i64 0, .string ByteArray.empty, .string ByteArray.empty, .slice none 0 0] 26
  have hsz : (w.alloc (.cells #[.int .i64 0, .bool false, .int .i64 0, .string ByteArray.empty, .string ByteArray.empty, .slice none 0 0] 26)).heap.size = w.heap.size + 1 := World.size_alloc _ _
  replace ht := Lib.hid ht
  replace hal := Lib.hid hal
  replace hz := Lib.hid hz
  replace ih := Lib.hid ih
  replace hdeep := Lib.hid hdeep
  clear h
  go_enter Tryz.func17, Tryz.ntmps17
  go_wp2_with fail
  refine (ht.out).mono ?_
  rintro e w1 ⟨c, L1, b1, he, hr1, hk1, hor⟩
  have hs1 := hk1.size
  rw [hsz] at hs1
  obtain ⟨k, hk⟩ : ∃ k, c.toNat = k := ⟨_, rfl⟩
  obtain ⟨ki, hki⟩ : ∃ ki : Int, (k : Int) = ki := ⟨_, rfl⟩
  have hk256 : k < 256 := by rw [← hk]; exact c.toNat_lt
  rw [hk, hki] at he
  subst he
  have hv : Hid (RV 48 w rb (w1.alloc (.cells #[.int .i64 ki, .bool false, .int .i64 0, .string ⟨#[]⟩, .string ⟨#[]⟩, .slice none 0 0] 26)) w1.heap.size #[.int .i64 ki, .bool false, .int .i64 0, .string ⟨#[]⟩, .string ⟨#[]⟩, .slice none 0 0] L1 b1) := Lib.hid
    ⟨(hal.out.trans hk1 (fun x hx _ => hx)).alloc _, hr1.keep fun k hk => Below.heap_alloc w1 _ k (by have := hr1.lt; omega), (hz.out.keep hk1 (by simp; omega)).alloc _, Blk.new _ _ _, by omega, hrl⟩
  replace hor := Lib.hid hor
  replace hk := Lib.hid hk
  replace hki := Lib.hid hki
  clear hk1 hr1 ht hal hz hsz
  go_upto_region 2 with (fail)
  generalize (w1.alloc (.cells #[.int .i64 ki, .bool false, .int .i64 0, .string ⟨#[]⟩, .string ⟨#[]⟩, .slice none 0 0] 26)) = w2 at *
  replace hv : Hid (RV 48 w rb w2 w1.heap.size #[.int .i64 ki, .bool false, .int .i64 0, .string ByteArray.empty, .string ByteArray.empty, .slice none 0 0] L1 b1) := hv
  generalize w1.heap.size = g at *
  by_cases hb1 : b1 = true
  · subst hb1
    obtain ⟨hc0, hvl⟩ : c = 0 ∧ Hid (VlR M L bad zV L1 true) := by
      rcases hor.out with ⟨_, _, h2⟩ | ⟨h1, rfl, -, h3⟩
      · cases h2
      · refine ⟨h1, Lib.hid ⟨Nat.le_refl _, fun _ => rfl, fun hb v r e => ?_, fun _ _ => .inl rfl⟩⟩
        rcases h3 with h3 | h3
        · rw [h3] at hb; cases hb
        · rw [h3, valD_nil] at e; cases e
    obtain rfl : (0 : Int) = ki := by rw [← hki.out, ← hk.out, hc0]; rfl
    have x0 := hv.out.v.cell 0 rfl
    have x1 := hv.out.v.cell 1 rfl
    have x2 := hv.out.v.cell 2 rfl
    have x3 := hv.out.v.cell 3 rfl
    have x4 := hv.out.v.cell 4 rfl
    have x5 := hv.out.v.cell 5 rfl
    have fv := hv.out.v.free
    have z0 := hv.out.z.cell 0 rfl
    have z1 := hv.out.z.cell 1 rfl
    have z2 := hv.out.z.cell 2 rfl
    have z3 := hv.out.z.cell 3 rfl
    have z4 := hv.out.z.cell 4 rfl
    have z5 := hv.out.z.cell 5 rfl
    have fz := hv.out.z.free
    go_wp2
    obtain ⟨hf, hrd, hkp, hlf⟩ := hv.out.end (.int .i64 0) (.bool false) (.int .i64 0) (.string ByteArray.empty) (.string ByteArray.empty) (.slice none 0 0) (LF.nil _ _ _)
    exact bodyPost_ret (v := agg6 0 false 0 ByteArray.empty ByteArray.empty (.slice none 0 0)) (results_cell_row rfl _ _ w.heap.size 26 _ (0, 0) _ rfl hf.eq Tryz.underlying26 rfl infoV6) rfl (RdX.mk (x := .mk 0 false 0 ByteArray.empty ByteArray.empty []) hvl.out hrd hkp hlf (by unfold okV In64; refine ⟨?_, ?_, ?_, ?_⟩ <;> first | omega | exact Nat.zero_le _))
  obtain rfl : b1 = false := by simpa using hb1
  obtain ⟨rfl, rfl⟩ : L = c :: L1 ∧ false = bad := by
    rcases hor.out with ⟨h1, h2, _⟩ | ⟨_, _, h, _⟩
    · exact ⟨h2, h1.symm⟩
    · cases h
  clear hor hb1
  have hL1 : L1.length ≤ 1048576 := by rw [List.length_cons] at hLl; omega
  rcases kindsN k with rfl | rfl | rfl | rfl | rfl | rfl | rfl | rfl | rfl | rfl | rfl | hk10
  · obtain rfl : (0 : Int) = ki := hki.out
    have hvl : Hid (VlR M (c :: L1) false (.mk 0 false 0 ByteArray.empty ByteArray.empty []) L1 false) := Lib.hid (VlR.any (Nat.le_refl _) fun m _ => .body (Nat.le_refl _) (fun v s e => by rw [hk.out] at e; simp [bodyD] at e; exact ⟨e.1, e.2, rfl⟩) (fun e => by rw [hk.out] at e; simp [bodyD] at e))
    have x0 := hv.out.v.cell 0 rfl
    have x1 := hv.out.v.cell 1 rfl
    have x2 := hv.out.v.cell 2 rfl
    have x3 := hv.out.v.cell 3 rfl
    have x4 := hv.out.v.cell 4 rfl
    have x5 := hv.out.v.cell 5 rfl
    have fv := hv.out.v.free
    have z0 := hv.out.z.cell 0 rfl
    have z1 := hv.out.z.cell 1 rfl
    have z2 := hv.out.z.cell 2 rfl
    have z3 := hv.out.z.cell 3 rfl
    have z4 := hv.out.z.cell 4 rfl
    have z5 := hv.out.z.cell 5 rfl
    have fz := hv.out.z.free
    go_wp2
    obtain ⟨hf, hrd, hkp, hlf⟩ := hv.out.end (.int .i64 0) (.bool false) (.int .i64 0) (.string ByteArray.empty) (.string ByteArray.empty) (.slice none 0 0) (LF.nil _ _ _)
    exact bodyPost_ret (v := agg6 0 false 0 ByteArray.empty ByteArray.empty (.slice none 0 0)) (results_cell_row rfl _ _ w.heap.size 26 _ (0, 0) _ rfl hf.eq Tryz.underlying26 rfl infoV6) rfl (RdX.mk (x := .mk 0 false 0 ByteArray.empty ByteArray.empty []) hvl.out hrd hkp hlf (by unfold okV In64; refine ⟨?_, ?_, ?_, ?_⟩ <;> first | omega | exact Nat.zero_le _))
  · obtain rfl : (1 : Int) = ki := hki.out
    have ht := Lib.hid (rnum_one w2 rb L1 false hv.out.rd)
    have x0 := hv.out.v.cell 0 rfl
    have x1 := hv.out.v.cell 1 rfl
    have x2 := hv.out.v.cell 2 rfl
    have x3 := hv.out.v.cell 3 rfl
    have x4 := hv.out.v.cell 4 rfl
    have x5 := hv.out.v.cell 5 rfl
    have fv := hv.out.v.free
    have z0 := hv.out.z.cell 0 rfl
    have z1 := hv.out.z.cell 1 rfl
    have z2 := hv.out.z.cell 2 rfl
    have z3 := hv.out.z.cell 3 rfl
    have z4 := hv.out.z.cell 4 rfl
    have z5 := hv.out.z.cell 5 rfl
    have fz := hv.out.z.free
    go_wp2_with fail
    refine (ht.out).mono ?_
    rintro e w4 ⟨c2, L2, b2, he, hr2, hk2, hor⟩
    have hv4 := Lib.hid (hv.out.on hk2 hr2)
    clear hv ht hk2 hr2
    clear x0 x1 x2 x3 x4 x5 fv z0 z1 z2 z3 z4 z5 fz
    have hv := hv4
    clear hv4
    obtain ⟨k2, hk2⟩ : ∃ k2, c2.toNat = k2 := ⟨_, rfl⟩
    rw [hk2] at he
    subst he
    have hle2 : L2.length ≤ L1.length := by
      rcases hor with ⟨_, rfl, _⟩ | ⟨_, rfl, _⟩
      · simp
      · exact Nat.le_refl _
    have hvl : ∀ q b', (b2 = true → b' = true) → (k2 = 0 → b2 = false → q = false ∧ b' = false) → (k2 = 1 → b2 = false → q = true ∧ b' = false) → (1 < k2 → b' = true) → VlR M (c :: L1) false (.mk 1 q 0 ByteArray.empty ByteArray.empty []) L2 b' := by
      intro q b' g1 g2 g3 g4
      refine VlR.any hle2 fun m _ => ?_
      rcases hor with ⟨-, rfl, rfl⟩ | ⟨rfl, rfl, rfl, h5⟩
      · have hbd : bodyD (valD m) c.toNat (c2 :: L2) = if k2 ≤ 1 then some (.mk 1 (decide (k2 = 1)) 0 ByteArray.empty ByteArray.empty [], L2) else none := by
          rw [hk.out]; unfold bodyD takeB
          simp [beN, hk2]
        refine .body (by simp) (fun v s e => ?_) (fun e => ?_)
        · rw [hbd] at e
          by_cases h0 : k2 ≤ 1
          · rw [if_pos h0] at e
            simp only [Option.some.injEq, Prod.mk.injEq] at e
            obtain ⟨e1, e2⟩ := e
            by_cases h1 : k2 = 1
            · obtain ⟨rfl, h3⟩ := g3 h1 rfl
              rw [decide_eq_true h1] at e1
              exact ⟨e1, e2, h3⟩
            · obtain ⟨rfl, h3⟩ := g2 (by omega) rfl
              rw [decide_eq_false h1] at e1
              exact ⟨e1, e2, h3⟩
          · rw [if_neg h0] at e; cases e
        · rw [hbd] at e
          by_cases h0 : k2 ≤ 1
          · rw [if_pos h0] at e; cases e
          · exact .inl (g4 (by omega))
      · obtain rfl : L2 = [] := by
          rcases h5 with h5 | h5
          · cases h5
          · exact h5
        have hbd : bodyD (valD m) c.toNat [] = none := by rw [hk.out]; unfold bodyD takeB; simp
        exact .body (Nat.le_refl _) (fun v s e => by rw [hbd] at e; cases e) (fun _ => .inl (g1 rfl))
    have hk20 : b2 = true → k2 = 0 := by
      intro h
      rcases hor with ⟨_, _, h2⟩ | ⟨h2, _⟩
      · rw [h] at h2; cases h2
      · rw [h2] at hk2; exact hk2.symm
    replace hvl := Lib.hid hvl
    clear hor hk2
    cases b2
    · by_cases h0 : k2 = 0
      · subst h0
        replace hvl := Lib.hid (hvl.out false false (fun h => h) (fun _ _ => ⟨rfl, rfl⟩) (fun h => by omega) (fun h => by omega))
        obtain ⟨aoR, capR, hqR, hbR⟩ := hv.out.rd.form
        have r0 := hqR.cell 0 rfl
        have r1 := hqR.cell 1 rfl
        have fr := hqR.free
        have x0 := hv.out.v.cell 0 rfl
        have x1 := hv.out.v.cell 1 rfl
        have x2 := hv.out.v.cell 2 rfl
        have x3 := hv.out.v.cell 3 rfl
        have x4 := hv.out.v.cell 4 rfl
        have x5 := hv.out.v.cell 5 rfl
        have fv := hv.out.v.free
        have z0 := hv.out.z.cell 0 rfl
        have z1 := hv.out.z.cell 1 rfl
        have z2 := hv.out.z.cell 2 rfl
        have z3 := hv.out.z.cell 3 rfl
        have z4 := hv.out.z.cell 4 rfl
        have z5 := hv.out.z.cell 5 rfl
        have fz := hv.out.z.free
        clear hqR hbR
        go_upto_region 8 with (fail)
        have hv5 := Lib.hid (hv.out.bad false)
        clear hv r0 r1 fr
        clear x0 x1 x2 x3 x4 x5 fv z0 z1 z2 z3 z4 z5 fz
        generalize (w4.setCell ⟨rb, 1, none⟩ (.bool false)) = w5 at *
        have hv := hv5
        clear hv5
        have x0 := hv.out.v.cell 0 rfl
        have x1 := hv.out.v.cell 1 rfl
        have x2 := hv.out.v.cell 2 rfl
        have x3 := hv.out.v.cell 3 rfl
        have x4 := hv.out.v.cell 4 rfl
        have x5 := hv.out.v.cell 5 rfl
        have fv := hv.out.v.free
        have z0 := hv.out.z.cell 0 rfl
        have z1 := hv.out.z.cell 1 rfl
        have z2 := hv.out.z.cell 2 rfl
        have z3 := hv.out.z.cell 3 rfl
        have z4 := hv.out.z.cell 4 rfl
        have z5 := hv.out.z.cell 5 rfl
        have fz := hv.out.z.free
        go_upto_region 28 with (fail)
        have hv6 := Lib.hid (hv.out.set 1 (.bool false))
        clear hv
        clear x0 x1 x2 x3 x4 x5 fv z0 z1 z2 z3 z4 z5 fz
        generalize (w5.setCell ⟨g, 1, none⟩ (.bool false)) = w6 at *
        have hv := hv6
        clear hv6
        have x0 := hv.out.v.cell 0 rfl
        have x1 := hv.out.v.cell 1 rfl
        have x2 := hv.out.v.cell 2 rfl
        have x3 := hv.out.v.cell 3 rfl
        have x4 := hv.out.v.cell 4 rfl
        have x5 := hv.out.v.cell 5 rfl
        have fv := hv.out.v.free
        have z0 := hv.out.z.cell 0 rfl
        have z1 := hv.out.z.cell 1 rfl
        have z2 := hv.out.z.cell 2 rfl
        have z3 := hv.out.z.cell 3 rfl
        have z4 := hv.out.z.cell 4 rfl
        have z5 := hv.out.z.cell 5 rfl
        have fz := hv.out.z.free
        go_wp2
        obtain ⟨hf, hrd, hkp, hlf⟩ := hv.out.end (.int .i64 1) (.bool false) (.int .i64 0) (.string ByteArray.empty) (.string ByteArray.empty) (.slice none 0 0) (LF.nil _ _ _)
        exact bodyPost_ret (v := agg6 1 false 0 ByteArray.empty ByteArray.empty (.slice none 0 0)) (results_cell_row rfl _ _ w.heap.size 26 _ (0, 0) _ rfl hf.eq Tryz.underlying26 rfl infoV6) rfl (RdX.mk (x := .mk 1 false 0 ByteArray.empty ByteArray.empty []) hvl.out hrd hkp hlf (by unfold okV In64; refine ⟨?_, ?_, ?_, ?_⟩ <;> first | omega | exact Nat.zero_le _))
      by_cases h1 : k2 = 1
      · subst h1
        replace hvl := Lib.hid (hvl.out true false (fun h => h) (fun h => by omega) (fun _ _ => ⟨rfl, rfl⟩) (fun h => by omega))
        obtain ⟨aoR, capR, hqR, hbR⟩ := hv.out.rd.form
        have r0 := hqR.cell 0 rfl
        have r1 := hqR.cell 1 rfl
        have fr := hqR.free
        have x0 := hv.out.v.cell 0 rfl
        have x1 := hv.out.v.cell 1 rfl
        have x2 := hv.out.v.cell 2 rfl
        have x3 := hv.out.v.cell 3 rfl
        have x4 := hv.out.v.cell 4 rfl
        have x5 := hv.out.v.cell 5 rfl
        have fv := hv.out.v.free
        have z0 := hv.out.z.cell 0 rfl
        have z1 := hv.out.z.cell 1 rfl
        have z2 := hv.out.z.cell 2 rfl
        have z3 := hv.out.z.cell 3 rfl
        have z4 := hv.out.z.cell 4 rfl
        have z5 := hv.out.z.cell 5 rfl
        have fz := hv.out.z.free
        clear hqR hbR
        go_upto_region 8 with (fail)
        have hv5 := Lib.hid (hv.out.bad false)
        clear hv r0 r1 fr
        clear x0 x1 x2 x3 x4 x5 fv z0 z1 z2 z3 z4 z5 fz
        generalize (w4.setCell ⟨rb, 1, none⟩ (.bool false)) = w5 at *
        have hv := hv5
        clear hv5
        have x0 := hv.out.v.cell 0 rfl
        have x1 := hv.out.v.cell 1 rfl
        have x2 := hv.out.v.cell 2 rfl
        have x3 := hv.out.v.cell 3 rfl
        have x4 := hv.out.v.cell 4 rfl
        have x5 := hv.out.v.cell 5 rfl
        have fv := hv.out.v.free
        have z0 := hv.out.z.cell 0 rfl
        have z1 := hv.out.z.cell 1 rfl
        have z2 := hv.out.z.cell 2 rfl
        have z3 := hv.out.z.cell 3 rfl
        have z4 := hv.out.z.cell 4 rfl
        have z5 := hv.out.z.cell 5 rfl
        have fz := hv.out.z.free
        go_upto_region 28 with (fail)
        have hv6 := Lib.hid (hv.out.set 1 (.bool true))
        clear hv
        clear x0 x1 x2 x3 x4 x5 fv z0 z1 z2 z3 z4 z5 fz
        generalize (w5.setCell ⟨g, 1, none⟩ (.bool true)) = w6 at *
        have hv := hv6
        clear hv6
        have x0 := hv.out.v.cell 0 rfl
        have x1 := hv.out.v.cell 1 rfl
        have x2 := hv.out.v.cell 2 rfl
        have x3 := hv.out.v.cell 3 rfl
        have x4 := hv.out.v.cell 4 rfl
        have x5 := hv.out.v.cell 5 rfl
        have fv := hv.out.v.free
        have z0 := hv.out.z.cell 0 rfl
        have z1 := hv.out.z.cell 1 rfl
        have z2 := hv.out.z.cell 2 rfl
        have z3 := hv.out.z.cell 3 rfl
        have z4 := hv.out.z.cell 4 rfl
        have z5 := hv.out.z.cell 5 rfl
        have fz := hv.out.z.free
        go_wp2
        obtain ⟨hf, hrd, hkp, hlf⟩ := hv.out.end (.int .i64 1) (.bool true) (.int .i64 0) (.string ByteArray.empty) (.string ByteArray.empty) (.slice none 0 0) (LF.nil _ _ _)
        exact bodyPost_ret (v := agg6 1 true 0 ByteArray.empty ByteArray.empty (.slice none 0 0)) (results_cell_row rfl _ _ w.heap.size 26 _ (0, 0) _ rfl hf.eq Tryz.underlying26 rfl infoV6) rfl (RdX.mk (x := .mk 1 true 0 ByteArray.empty ByteArray.empty []) hvl.out hrd hkp hlf (by unfold okV In64; refine ⟨?_, ?_, ?_, ?_⟩ <;> first | omega | exact Nat.zero_le _))
      · replace hvl := Lib.hid (hvl.out false true (fun _ => rfl) (fun h => by omega) (fun h => by omega) (fun _ => rfl))
        obtain ⟨ci, hci⟩ : ∃ ci : Int, (k2 : Int) = ci := ⟨_, rfl⟩
        have q1 : (ci == 1) = false := beq_eq_false_iff_ne.2 (by omega)
        have q2 : 1 < ci := by omega
        rw [hci]
        clear hci h0 h1
        obtain ⟨aoR, capR, hqR, hbR⟩ := hv.out.rd.form
        have r0 := hqR.cell 0 rfl
        have r1 := hqR.cell 1 rfl
        have fr := hqR.free
        have x0 := hv.out.v.cell 0 rfl
        have x1 := hv.out.v.cell 1 rfl
        have x2 := hv.out.v.cell 2 rfl
        have x3 := hv.out.v.cell 3 rfl
        have x4 := hv.out.v.cell 4 rfl
        have x5 := hv.out.v.cell 5 rfl
        have fv := hv.out.v.free
        have z0 := hv.out.z.cell 0 rfl
        have z1 := hv.out.z.cell 1 rfl
        have z2 := hv.out.z.cell 2 rfl
        have z3 := hv.out.z.cell 3 rfl
        have z4 := hv.out.z.cell 4 rfl
        have z5 := hv.out.z.cell 5 rfl
        have fz := hv.out.z.free
        clear hqR hbR
        go_upto_region 8 with (fail)
        have hv5 := Lib.hid (hv.out.bad true)
        clear hv r0 r1 fr
        clear x0 x1 x2 x3 x4 x5 fv z0 z1 z2 z3 z4 z5 fz
        generalize (w4.setCell ⟨rb, 1, none⟩ (.bool true)) = w5 at *
        have hv := hv5
        clear hv5
        have x0 := hv.out.v.cell 0 rfl
        have x1 := hv.out.v.cell 1 rfl
        have x2 := hv.out.v.cell 2 rfl
        have x3 := hv.out.v.cell 3 rfl
        have x4 := hv.out.v.cell 4 rfl
        have x5 := hv.out.v.cell 5 rfl
        have fv := hv.out.v.free
        have z0 := hv.out.z.cell 0 rfl
        have z1 := hv.out.z.cell 1 rfl
        have z2 := hv.out.z.cell 2 rfl
        have z3 := hv.out.z.cell 3 rfl
        have z4 := hv.out.z.cell 4 rfl
        have z5 := hv.out.z.cell 5 rfl
        have fz := hv.out.z.free
        go_upto_region 28 with (fail)
        have hv6 := Lib.hid (hv.out.set 1 (.bool false))
        clear hv
        clear x0 x1 x2 x3 x4 x5 fv z0 z1 z2 z3 z4 z5 fz
        generalize (w5.setCell ⟨g, 1, none⟩ (.bool false)) = w6 at *
        have hv := hv6
        clear hv6
        have x0 := hv.out.v.cell 0 rfl
        have x1 := hv.out.v.cell 1 rfl
        have x2 := hv.out.v.cell 2 rfl
        have x3 := hv.out.v.cell 3 rfl
        have x4 := hv.out.v.cell 4 rfl
        have x5 := hv.out.v.cell 5 rfl
        have fv := hv.out.v.free
        have z0 := hv.out.z.cell 0 rfl
        have z1 := hv.out.z.cell 1 rfl
        have z2 := hv.out.z.cell 2 rfl
        have z3 := hv.out.z.cell 3 rfl
        have z4 := hv.out.z.cell 4 rfl
        have z5 := hv.out.z.cell 5 rfl
        have fz := hv.out.z.free
        go_wp2
        obtain ⟨hf, hrd, hkp, hlf⟩ := hv.out.end (.int .i64 1) (.bool false) (.int .i64 0) (.string ByteArray.empty) (.string ByteArray.empty) (.slice none 0 0) (LF.nil _ _ _)
        exact bodyPost_ret (v := agg6 1 false 0 ByteArray.empty ByteArray.empty (.slice none 0 0)) (results_cell_row rfl _ _ w.heap.size 26 _ (0, 0) _ rfl hf.eq Tryz.underlying26 rfl infoV6) rfl (RdX.mk (x := .mk 1 false 0 ByteArray.empty ByteArray.empty []) hvl.out hrd hkp hlf (by unfold okV In64; refine ⟨?_, ?_, ?_, ?_⟩ <;> first | omega | exact Nat.zero_le _))
    · obtain rfl : k2 = 0 := hk20 rfl
      replace hvl := Lib.hid (hvl.out false true (fun _ => rfl) (fun _ h => by cases h) (fun h => by omega) (fun h => by omega))
      obtain ⟨aoR, capR, hqR, hbR⟩ := hv.out.rd.form
      have r0 := hqR.cell 0 rfl
      have r1 := hqR.cell 1 rfl
      have fr := hqR.free
      have x0 := hv.out.v.cell 0 rfl
      have x1 := hv.out.v.cell 1 rfl
      have x2 := hv.out.v.cell 2 rfl
      have x3 := hv.out.v.cell 3 rfl
      have x4 := hv.out.v.cell 4 rfl
      have x5 := hv.out.v.cell 5 rfl
      have fv := hv.out.v.free
      have z0 := hv.out.z.cell 0 rfl
      have z1 := hv.out.z.cell 1 rfl
      have z2 := hv.out.z.cell 2 rfl
      have z3 := hv.out.z.cell 3 rfl
      have z4 := hv.out.z.cell 4 rfl
      have z5 := hv.out.z.cell 5 rfl
      have fz := hv.out.z.free
      clear hqR hbR
      go_upto_region 8 with (fail)
      have hv5 := Lib.hid (hv.out.bad true)
      clear hv r0 r1 fr
      clear x0 x1 x2 x3 x4 x5 fv z0 z1 z2 z3 z4 z5 fz
      generalize (w4.setCell ⟨rb, 1, none⟩ (.bool true)) = w5 at *
      have hv := hv5
      clear hv5
      have x0 := hv.out.v.cell 0 rfl
      have x1 := hv.out.v.cell 1 rfl
      have x2 := hv.out.v.cell 2 rfl
      have x3 := hv.out.v.cell 3 rfl
      have x4 := hv.out.v.cell 4 rfl
      have x5 := hv.out.v.cell 5 rfl
      have fv := hv.out.v.free
      have z0 := hv.out.z.cell 0 rfl
      have z1 := hv.out.z.cell 1 rfl
      have z2 := hv.out.z.cell 2 rfl
      have z3 := hv.out.z.cell 3 rfl
      have z4 := hv.out.z.cell 4 rfl
      have z5 := hv.out.z.cell 5 rfl
      have fz := hv.out.z.free
      go_upto_region 28 with (fail)
      have hv6 := Lib.hid (hv.out.set 1 (.bool false))
      clear hv
      clear x0 x1 x2 x3 x4 x5 fv z0 z1 z2 z3 z4 z5 fz
      generalize (w5.setCell ⟨g, 1, none⟩ (.bool false)) = w6 at *
      have hv := hv6
      clear hv6
      have x0 := hv.out.v.cell 0 rfl
      have x1 := hv.out.v.cell 1 rfl
      have x2 := hv.out.v.cell 2 rfl
      have x3 := hv.out.v.cell 3 rfl
      have x4 := hv.out.v.cell 4 rfl
      have x5 := hv.out.v.cell 5 rfl
      have fv := hv.out.v.free
      have z0 := hv.out.z.cell 0 rfl
      have z1 := hv.out.z.cell 1 rfl
      have z2 := hv.out.z.cell 2 rfl
      have z3 := hv.out.z.cell 3 rfl
      have z4 := hv.out.z.cell 4 rfl
      have z5 := hv.out.z.cell 5 rfl
      have fz := hv.out.z.free
      go_wp2
      obtain ⟨hf, hrd, hkp, hlf⟩ := hv.out.end (.int .i64 1) (.bool false) (.int .i64 0) (.string ByteArray.empty) (.string ByteArray.empty) (.slice none 0 0) (LF.nil _ _ _)
      exact bodyPost_ret (v := agg6 1 false 0 ByteArray.empty ByteArray.empty (.slice none 0 0)) (results_cell_row rfl _ _ w.heap.size 26 _ (0, 0) _ rfl hf.eq Tryz.underlying26 rfl infoV6) rfl (RdX.mk (x := .mk 1 false 0 ByteArray.empty ByteArray.empty []) hvl.out hrd hkp hlf (by unfold okV In64; refine ⟨?_, ?_, ?_, ?_⟩ <;> first | omega | exact Nat.zero_le _))
  · obtain rfl : (2 : Int) = ki := hki.out
    have ht := rnum_call w2 rb L1 false 8 (by omega) hv.out.rd
    rw [show ((8 : Nat) : Int) = 8 from rfl] at ht
    obtain ⟨D, hD⟩ : ∃ D, (if false = false ∧ 8 ≤ L1.length then L1.take 8 else []) = D := ⟨_, rfl⟩
    obtain ⟨L2, hL2⟩ : ∃ L2, (if false = false ∧ 8 ≤ L1.length then L1.drop 8 else L1) = L2 := ⟨_, rfl⟩
    obtain ⟨b2, hb2⟩ : ∃ b2, (if false = false ∧ 8 ≤ L1.length then false else true) = b2 := ⟨_, rfl⟩
    rw [hD, hL2, hb2] at ht
    obtain ⟨z, hz⟩ : ∃ z, IntKind.i64.wrap (beN D : Int) = z := ⟨_, rfl⟩
    rw [hz] at ht
    have hzi : In64 z := by rw [← hz, IntKind.wrap_i64]; unfold In64; omega
    have hle2 : L2.length ≤ L1.length := by
      rw [← hL2]
      split
      · rw [List.length_drop]; omega
      · exact Nat.le_refl _
    have hvl : Hid (VlR M (c :: L1) false (.mk 2 false z ByteArray.empty ByteArray.empty []) L2 b2) := Lib.hid (VlR.any hle2 fun m _ => by
      by_cases h8 : 8 ≤ L1.length
      · rw [if_pos ⟨rfl, h8⟩] at hD hL2 hb2
        have hbd : bodyD (valD m) c.toNat L1 = some (.mk 2 false z ByteArray.empty ByteArray.empty [], L2) := by
          rw [hk.out]; unfold bodyD takeB
          rw [if_pos h8, hD, hL2]
          simp [hz]
        exact .body hle2 (fun v s e => by rw [hbd] at e; simp only [Option.some.injEq, Prod.mk.injEq] at e; exact ⟨e.1, e.2, hb2.symm⟩) (fun e => by rw [hbd] at e; cases e)
      · rw [if_neg (fun e => h8 e.2)] at hD hL2 hb2
        have hbd : bodyD (valD m) c.toNat L1 = none := by
          rw [hk.out]; unfold bodyD takeB
          rw [if_neg h8]
          simp
        exact .body hle2 (fun v s e => by rw [hbd] at e; cases e) (fun _ => .inl hb2.symm))
    replace ht := Lib.hid ht
    clear hL2 hb2 hD hz
    have x0 := hv.out.v.cell 0 rfl
    have x1 := hv.out.v.cell 1 rfl
    have x2 := hv.out.v.cell 2 rfl
    have x3 := hv.out.v.cell 3 rfl
    have x4 := hv.out.v.cell 4 rfl
    have x5 := hv.out.v.cell 5 rfl
    have fv := hv.out.v.free
    have z0 := hv.out.z.cell 0 rfl
    have z1 := hv.out.z.cell 1 rfl
    have z2 := hv.out.z.cell 2 rfl
    have z3 := hv.out.z.cell 3 rfl
    have z4 := hv.out.z.cell 4 rfl
    have z5 := hv.out.z.cell 5 rfl
    have fz := hv.out.z.free
    go_wp2_with fail
    refine (ht.out).mono ?_
    rintro e w4 ⟨rfl, hr2, hk2⟩
    have hv4 := Lib.hid (hv.out.on hk2 hr2)
    clear hv ht hk2 hr2
    clear x0 x1 x2 x3 x4 x5 fv z0 z1 z2 z3 z4 z5 fz
    have hv := hv4
    clear hv4
    have x0 := hv.out.v.cell 0 rfl
    have x1 := hv.out.v.cell 1 rfl
    have x2 := hv.out.v.cell 2 rfl
    have x3 := hv.out.v.cell 3 rfl
    have x4 := hv.out.v.cell 4 rfl
    have x5 := hv.out.v.cell 5 rfl
    have fv := hv.out.v.free
    have z0 := hv.out.z.cell 0 rfl
    have z1 := hv.out.z.cell 1 rfl
    have z2 := hv.out.z.cell 2 rfl
    have z3 := hv.out.z.cell 3 rfl
    have z4 := hv.out.z.cell 4 rfl
    have z5 := hv.out.z.cell 5 rfl
    have fz := hv.out.z.free
    go_upto_region 28 with (fail)
    have hv6 := Lib.hid (hv.out.set 2 (.int .i64 z))
    clear hv
    clear x0 x1 x2 x3 x4 x5 fv z0 z1 z2 z3 z4 z5 fz
    generalize (w4.setCell ⟨g, 2, none⟩ (.int .i64 z)) = w6 at *
    have hv := hv6
    clear hv6
    unfold In64 at hzi
    have x0 := hv.out.v.cell 0 rfl
    have x1 := hv.out.v.cell 1 rfl
    have x2 := hv.out.v.cell 2 rfl
    have x3 := hv.out.v.cell 3 rfl
    have x4 := hv.out.v.cell 4 rfl
    have x5 := hv.out.v.cell 5 rfl
    have fv := hv.out.v.free
    have z0 := hv.out.z.cell 0 rfl
    have z1 := hv.out.z.cell 1 rfl
    have z2 := hv.out.z.cell 2 rfl
    have z3 := hv.out.z.cell 3 rfl
    have z4 := hv.out.z.cell 4 rfl
    have z5 := hv.out.z.cell 5 rfl
    have fz := hv.out.z.free
    go_wp2
    obtain ⟨hf, hrd, hkp, hlf⟩ := hv.out.end (.int .i64 2) (.bool false) (.int .i64 z) (.string ByteArray.empty) (.string ByteArray.empty) (.slice none 0 0) (LF.nil _ _ _)
    exact bodyPost_ret (v := agg6 2 false z ByteArray.empty ByteArray.empty (.slice none 0 0)) (results_cell_row rfl _ _ w.heap.size 26 _ (0, 0) _ rfl hf.eq Tryz.underlying26 rfl infoV6) rfl (RdX.mk (x := .mk 2 false z ByteArray.empty ByteArray.empty []) hvl.out hrd hkp hlf (by unfold okV In64; refine ⟨?_, ?_, ?_, ?_⟩ <;> first | omega | exact Nat.zero_le _))
  · obtain rfl : (3 : Int) = ki := hki.out
    have ht := Lib.hid (rtext_call w2 rb L1 false hL1 hv.out.rd)
    have x0 := hv.out.v.cell 0 rfl
    have x1 := hv.out.v.cell 1 rfl
    have x2 := hv.out.v.cell 2 rfl
    have x3 := hv.out.v.cell 3 rfl
    have x4 := hv.out.v.cell 4 rfl
    have x5 := hv.out.v.cell 5 rfl
    have fv := hv.out.v.free
    have z0 := hv.out.z.cell 0 rfl
    have z1 := hv.out.z.cell 1 rfl
    have z2 := hv.out.z.cell 2 rfl
    have z3 := hv.out.z.cell 3 rfl
    have z4 := hv.out.z.cell 4 rfl
    have z5 := hv.out.z.cell 5 rfl
    have fz := hv.out.z.free
    go_wp2_with fail
    refine (ht.out).mono ?_
    rintro e w4 ⟨t, L2, b2, rfl, htx, hr2, hk2⟩
    have hvl : Hid (VlR M (c :: L1) false (.mk 3 false 0 t ByteArray.empty []) L2 b2) := Lib.hid (VlR.any htx.le fun m _ => by
      have hbd : bodyD (valD m) c.toNat L1 = (txtD L1).bind fun p => some (.mk 3 false 0 p.1 ByteArray.empty [], p.2) := by
        rw [hk.out]; unfold bodyD; simp
      refine .body htx.le (fun v s e => ?_) (fun e => .inl (htx.no rfl ?_))
      · rw [hbd] at e
        cases h1 : txtD L1 with
        | none => rw [h1] at e; cases e
        | some p =>
          obtain ⟨t0, r0⟩ := p
          rw [h1] at e
          simp only [Option.bind_some, Option.some.injEq, Prod.mk.injEq] at e
          obtain ⟨rfl, rfl, rfl⟩ := htx.yes rfl t0 r0 h1
          exact ⟨e.1, e.2, rfl⟩
      · rw [hbd] at e
        cases h1 : txtD L1 with
        | none => rfl
        | some p => rw [h1] at e; cases e)
    have hszt := htx.sz.1
    have hv4 := Lib.hid (hv.out.on hk2 hr2)
    clear hv ht hr2 hk2
    clear x0 x1 x2 x3 x4 x5 fv z0 z1 z2 z3 z4 z5 fz
    have hv := hv4
    clear hv4
    have x0 := hv.out.v.cell 0 rfl
    have x1 := hv.out.v.cell 1 rfl
    have x2 := hv.out.v.cell 2 rfl
    have x3 := hv.out.v.cell 3 rfl
    have x4 := hv.out.v.cell 4 rfl
    have x5 := hv.out.v.cell 5 rfl
    have fv := hv.out.v.free
    have z0 := hv.out.z.cell 0 rfl
    have z1 := hv.out.z.cell 1 rfl
    have z2 := hv.out.z.cell 2 rfl
    have z3 := hv.out.z.cell 3 rfl
    have z4 := hv.out.z.cell 4 rfl
    have z5 := hv.out.z.cell 5 rfl
    have fz := hv.out.z.free
    go_upto_region 28 with (fail)
    have hv6 := Lib.hid (hv.out.set 3 (.string t))
    clear hv
    clear x0 x1 x2 x3 x4 x5 fv z0 z1 z2 z3 z4 z5 fz
    generalize (w4.setCell ⟨g, 3, none⟩ (.string t)) = w6 at *
    have hv := hv6
    clear hv6
    have x0 := hv.out.v.cell 0 rfl
    have x1 := hv.out.v.cell 1 rfl
    have x2 := hv.out.v.cell 2 rfl
    have x3 := hv.out.v.cell 3 rfl
    have x4 := hv.out.v.cell 4 rfl
    have x5 := hv.out.v.cell 5 rfl
    have fv := hv.out.v.free
    have z0 := hv.out.z.cell 0 rfl
    have z1 := hv.out.z.cell 1 rfl
    have z2 := hv.out.z.cell 2 rfl
    have z3 := hv.out.z.cell 3 rfl
    have z4 := hv.out.z.cell 4 rfl
    have z5 := hv.out.z.cell 5 rfl
    have fz := hv.out.z.free
    go_wp2
    obtain ⟨hf, hrd, hkp, hlf⟩ := hv.out.end (.int .i64 3) (.bool false) (.int .i64 0) (.string t) (.string ByteArray.empty) (.slice none 0 0) (LF.nil _ _ _)
    exact bodyPost_ret (v := agg6 3 false 0 t ByteArray.empty (.slice none 0 0)) (results_cell_row rfl _ _ w.heap.size 26 _ (0, 0) _ rfl hf.eq Tryz.underlying26 rfl infoV6) rfl (RdX.mk (x := .mk 3 false 0 t ByteArray.empty []) hvl.out hrd hkp hlf (by unfold okV In64; refine ⟨?_, ?_, ?_, ?_⟩ <;> first | omega | exact Nat.zero_le _))
  · obtain rfl : (4 : Int) = ki := hki.out
    have ht := Lib.hid (rtext_call w2 rb L1 false hL1 hv.out.rd)
    have x0 := hv.out.v.cell 0 rfl
    have x1 := hv.out.v.cell 1 rfl
    have x2 := hv.out.v.cell 2 rfl
    have x3 := hv.out.v.cell 3 rfl
    have x4 := hv.out.v.cell 4 rfl
    have x5 := hv.out.v.cell 5 rfl
    have fv := hv.out.v.free
    have z0 := hv.out.z.cell 0 rfl
    have z1 := hv.out.z.cell 1 rfl
    have z2 := hv.out.z.cell 2 rfl
    have z3 := hv.out.z.cell 3 rfl
    have z4 := hv.out.z.cell 4 rfl
    have z5 := hv.out.z.cell 5 rfl
    have fz := hv.out.z.free
    go_wp2_with fail
    refine (ht.out).mono ?_
    rintro e w4 ⟨t, L2, b2, rfl, htx, hr2, hk2⟩
    have hvl : Hid (VlR M (c :: L1) false (.mk 4 false 0 t ByteArray.empty []) L2 b2) := Lib.hid (VlR.any htx.le fun m _ => by
      have hbd : bodyD (valD m) c.toNat L1 = (txtD L1).bind fun p => some (.mk 4 false 0 p.1 ByteArray.empty [], p.2) := by
        rw [hk.out]; unfold bodyD; simp
      refine .body htx.le (fun v s e => ?_) (fun e => .inl (htx.no rfl ?_))
      · rw [hbd] at e
        cases h1 : txtD L1 with
        | none => rw [h1] at e; cases e
        | some p =>
          obtain ⟨t0, r0⟩ := p
          rw [h1] at e
          simp only [Option.bind_some, Option.some.injEq, Prod.mk.injEq] at e
          obtain ⟨rfl, rfl, rfl⟩ := htx.yes rfl t0 r0 h1
          exact ⟨e.1, e.2, rfl⟩
      · rw [hbd] at e
        cases h1 : txtD L1 with
        | none => rfl
        | some p => rw [h1] at e; cases e)
    have hszt := htx.sz.1
    have hv4 := Lib.hid (hv.out.on hk2 hr2)
    clear hv ht hr2 hk2
    clear x0 x1 x2 x3 x4 x5 fv z0 z1 z2 z3 z4 z5 fz
    have hv := hv4
    clear hv4
    have x0 := hv.out.v.cell 0 rfl
    have x1 := hv.out.v.cell 1 rfl
    have x2 := hv.out.v.cell 2 rfl
    have x3 := hv.out.v.cell 3 rfl
    have x4 := hv.out.v.cell 4 rfl
    have x5 := hv.out.v.cell 5 rfl
    have fv := hv.out.v.free
    have z0 := hv.out.z.cell 0 rfl
    have z1 := hv.out.z.cell 1 rfl
    have z2 := hv.out.z.cell 2 rfl
    have z3 := hv.out.z.cell 3 rfl
    have z4 := hv.out.z.cell 4 rfl
    have z5 := hv.out.z.cell 5 rfl
    have fz := hv.out.z.free
    go_upto_region 28 with (fail)
    have hv6 := Lib.hid (hv.out.set 3 (.string t))
    clear hv
    clear x0 x1 x2 x3 x4 x5 fv z0 z1 z2 z3 z4 z5 fz
    generalize (w4.setCell ⟨g, 3, none⟩ (.string t)) = w6 at *
    have hv := hv6
    clear hv6
    have x0 := hv.out.v.cell 0 rfl
    have x1 := hv.out.v.cell 1 rfl
    have x2 := hv.out.v.cell 2 rfl
    have x3 := hv.out.v.cell 3 rfl
    have x4 := hv.out.v.cell 4 rfl
    have x5 := hv.out.v.cell 5 rfl
    have fv := hv.out.v.free
    have z0 := hv.out.z.cell 0 rfl
    have z1 := hv.out.z.cell 1 rfl
    have z2 := hv.out.z.cell 2 rfl
    have z3 := hv.out.z.cell 3 rfl
    have z4 := hv.out.z.cell 4 rfl
    have z5 := hv.out.z.cell 5 rfl
    have fz := hv.out.z.free
    go_wp2
    obtain ⟨hf, hrd, hkp, hlf⟩ := hv.out.end (.int .i64 4) (.bool false) (.int .i64 0) (.string t) (.string ByteArray.empty) (.slice none 0 0) (LF.nil _ _ _)
    exact bodyPost_ret (v := agg6 4 false 0 t ByteArray.empty (.slice none 0 0)) (results_cell_row rfl _ _ w.heap.size 26 _ (0, 0) _ rfl hf.eq Tryz.underlying26 rfl infoV6) rfl (RdX.mk (x := .mk 4 false 0 t ByteArray.empty []) hvl.out hrd hkp hlf (by unfold okV In64; refine ⟨?_, ?_, ?_, ?_⟩ <;> first | omega | exact Nat.zero_le _))
  · obtain rfl : (5 : Int) = ki := hki.out
    obtain rfl : c = 5 := UInt8.toNat_inj.1 hk.out
    obtain ⟨n, L2, b2, ht, hn4, hl2, hcs⟩ : ∃ (n : Nat) (L2 : List UInt8) (b2 : Bool), (Calls Tryz.prog 47 #[.pointer (some ⟨rb, 0, none⟩), .int .i64 4] w2 fun e w' => e = .returned (.int .i64 (n : Int)) ∧ RD 48 w' rb L2 b2 ∧ Keep [rb] w2 w') ∧ n < 4294967296 ∧ L2.length ≤ L1.length ∧ ((b2 = false ∧ takeB 4 L1 = some (L1.take 4, L2) ∧ beN (L1.take 4) = n) ∨ (b2 = true ∧ n = 0 ∧ takeB 4 L1 = none)) := by
      by_cases h4 : 4 ≤ L1.length
      · have h := rnum_y w2 rb L1 4 (by omega) h4 hv.out.rd
        rw [show ((4 : Nat) : Int) = 4 from rfl, IntWalk.i64_in _ (by have := be4_lt L1; omega)] at h
        exact ⟨_, _, _, h, be4_lt L1, by rw [List.length_drop]; omega, .inl ⟨rfl, if_pos h4, rfl⟩⟩
      · have h := rnum_n w2 rb L1 false 4 (by omega) (fun e => h4 e.2) hv.out.rd
        rw [show ((4 : Nat) : Int) = 4 from rfl] at h
        exact ⟨0, L1, true, h, by omega, Nat.le_refl _, .inr ⟨rfl, rfl, if_neg h4⟩⟩
    replace ht := Lib.hid ht
    replace hcs := Lib.hid hcs
    clear hk hki hk256
    have x0 := hv.out.v.cell 0 rfl
    have x1 := hv.out.v.cell 1 rfl
    have x2 := hv.out.v.cell 2 rfl
    have x3 := hv.out.v.cell 3 rfl
    have x4 := hv.out.v.cell 4 rfl
    have x5 := hv.out.v.cell 5 rfl
    have fv := hv.out.v.free
    have z0 := hv.out.z.cell 0 rfl
    have z1 := hv.out.z.cell 1 rfl
    have z2 := hv.out.z.cell 2 rfl
    have z3 := hv.out.z.cell 3 rfl
    have z4 := hv.out.z.cell 4 rfl
    have z5 := hv.out.z.cell 5 rfl
    have fz := hv.out.z.free
    go_wp2_with fail
    refine (ht.out).mono ?_
    rintro e w4 ⟨rfl, hr2, hk2⟩
    have hv4 := Lib.hid (hv.out.on hk2 hr2)
    have hws : w.heap.size + 1 ≤ w4.heap.size := by have := hv4.out.v.lt; have := hv4.out.lt; omega
    clear hv ht hr2 hk2
    clear x0 x1 x2 x3 x4 x5 fv z0 z1 z2 z3 z4 z5 fz
    have hv := hv4
    clear hv4
    cases b2
    case true =>
      have hcn : takeB 4 L1 = none := by
        rcases hcs.out with ⟨h, _⟩ | ⟨_, _, h⟩
        · cases h
        · exact h
      have hnone : Hid (∀ m, M = m + 1 → bodyD (valD m) 5 L1 = none) := Lib.hid fun m _ => by rw [bodyD_list, hcn]; rfl
      clear hcs hcn
      have hvl : Hid (VlR M (5 :: L1) false (.mk 5 false 0 ByteArray.empty ByteArray.empty []) L2 true) := Lib.hid (VlR.any hl2 fun m e => .body hl2 (fun v s h => by rw [show (5 : UInt8).toNat = 5 from rfl, hnone.out m e] at h; cases h) (fun _ => .inl rfl))
      obtain ⟨aoR, capR, hqR, hbR⟩ := hv.out.rd.form
      have r0 := hqR.cell 0 rfl
      have r1 := hqR.cell 1 rfl
      have fr := hqR.free
      have x0 := hv.out.v.cell 0 rfl
      have x1 := hv.out.v.cell 1 rfl
      have x2 := hv.out.v.cell 2 rfl
      have x3 := hv.out.v.cell 3 rfl
      have x4 := hv.out.v.cell 4 rfl
      have x5 := hv.out.v.cell 5 rfl
      have fv := hv.out.v.free
      have z0 := hv.out.z.cell 0 rfl
      have z1 := hv.out.z.cell 1 rfl
      have z2 := hv.out.z.cell 2 rfl
      have z3 := hv.out.z.cell 3 rfl
      have z4 := hv.out.z.cell 4 rfl
      have z5 := hv.out.z.cell 5 rfl
      have fz := hv.out.z.free
      clear hqR hbR
      go_upto_region 24 with (fail)
      have hv5 := Lib.hid (hv.out.bad true)
      clear hv r0 r1 fr hnone
      clear x0 x1 x2 x3 x4 x5 fv z0 z1 z2 z3 z4 z5 fz
      generalize (w4.setCell ⟨rb, 1, none⟩ (.bool true)) = w5 at *
      go_wp2
      go_loopw [8] (fun v wr => v = .int .i64 0 ∧ wr = w5) (fun v _ => 0)
      case atStart => exact ⟨rfl, rfl⟩
      case round =>
        obtain ⟨rfl, rfl⟩ := hrel
        have hv := hv5
        clear hv5
        obtain ⟨aoR, capR, hqR, hbR⟩ := hv.out.rd.form
        have r0 := hqR.cell 0 rfl
        have r1 := hqR.cell 1 rfl
        have fr := hqR.free
        have x0 := hv.out.v.cell 0 rfl
        have x1 := hv.out.v.cell 1 rfl
        have x2 := hv.out.v.cell 2 rfl
        have x3 := hv.out.v.cell 3 rfl
        have x4 := hv.out.v.cell 4 rfl
        have x5 := hv.out.v.cell 5 rfl
        have fv := hv.out.v.free
        have z0 := hv.out.z.cell 0 rfl
        have z1 := hv.out.z.cell 1 rfl
        have z2 := hv.out.z.cell 2 rfl
        have z3 := hv.out.z.cell 3 rfl
        have z4 := hv.out.z.cell 4 rfl
        have z5 := hv.out.z.cell 5 rfl
        have fz := hv.out.z.free
        clear hqR hbR
        by_cases h0 : (0 : Int) < (n : Int)
        · go_wp2
          obtain ⟨hf, hrd, hkp, hlf⟩ := hv.out.end (.int .i64 5) (.bool false) (.int .i64 0) (.string ByteArray.empty) (.string ByteArray.empty) (.slice none 0 0) (LF.nil _ _ _)
          exact bodyPost_ret (v := agg6 5 false 0 ByteArray.empty ByteArray.empty (.slice none 0 0)) (results_cell_row rfl _ _ w.heap.size 26 _ (0, 0) _ rfl hf.eq Tryz.underlying26 rfl infoV6) rfl (RdX.mk (x := .mk 5 false 0 ByteArray.empty ByteArray.empty []) hvl.out hrd hkp hlf (by unfold okV In64; refine ⟨?_, ?_, ?_, ?_⟩ <;> first | omega | exact Nat.zero_le _))
        · go_wp2
          obtain ⟨hf, hrd, hkp, hlf⟩ := hv.out.end (.int .i64 5) (.bool false) (.int .i64 0) (.string ByteArray.empty) (.string ByteArray.empty) (.slice none 0 0) (LF.nil _ _ _)
          exact bodyPost_ret (v := agg6 5 false 0 ByteArray.empty ByteArray.empty (.slice none 0 0)) (results_cell_row rfl _ _ w.heap.size 26 _ (0, 0) _ rfl hf.eq Tryz.underlying26 rfl infoV6) rfl (RdX.mk (x := .mk 5 false 0 ByteArray.empty ByteArray.empty []) hvl.out hrd hkp hlf (by unfold okV In64; refine ⟨?_, ?_, ?_, ?_⟩ <;> first | omega | exact Nat.zero_le _))
    obtain ⟨hc1, hc2⟩ : takeB 4 L1 = some (L1.take 4, L2) ∧ beN (L1.take 4) = n := by
      rcases hcs.out with ⟨_, h⟩ | ⟨h, _⟩
      · exact h
      · cases h
    clear hcs
    by_cases hn : 4096 < n
    · have hni : (4096 : Int) < (n : Int) := by omega
      have hnone : Hid (∀ m, M = m + 1 → bodyD (valD m) 5 L1 = none) := Lib.hid fun m _ => by
        rw [bodyD_list, hc1]
        simp only [Option.bind_some]
        rw [if_neg (by omega)]
      clear hc1 hc2
      have hvl : Hid (VlR M (5 :: L1) false (.mk 5 false 0 ByteArray.empty ByteArray.empty []) L2 true) := Lib.hid (VlR.any hl2 fun m e => .body hl2 (fun v s h => by rw [show (5 : UInt8).toNat = 5 from rfl, hnone.out m e] at h; cases h) (fun _ => .inl rfl))
      obtain ⟨aoR, capR, hqR, hbR⟩ := hv.out.rd.form
      have r0 := hqR.cell 0 rfl
      have r1 := hqR.cell 1 rfl
      have fr := hqR.free
      have x0 := hv.out.v.cell 0 rfl
      have x1 := hv.out.v.cell 1 rfl
      have x2 := hv.out.v.cell 2 rfl
      have x3 := hv.out.v.cell 3 rfl
      have x4 := hv.out.v.cell 4 rfl
      have x5 := hv.out.v.cell 5 rfl
      have fv := hv.out.v.free
      have z0 := hv.out.z.cell 0 rfl
      have z1 := hv.out.z.cell 1 rfl
      have z2 := hv.out.z.cell 2 rfl
      have z3 := hv.out.z.cell 3 rfl
      have z4 := hv.out.z.cell 4 rfl
      have z5 := hv.out.z.cell 5 rfl
      have fz := hv.out.z.free
      clear hqR hbR
      go_upto_region 24 with (fail)
      have hv5 := Lib.hid (hv.out.bad true)
      clear hv r0 r1 fr hnone
      clear x0 x1 x2 x3 x4 x5 fv z0 z1 z2 z3 z4 z5 fz
      generalize (w4.setCell ⟨rb, 1, none⟩ (.bool true)) = w5 at *
      go_wp2
      go_loopw [8] (fun v wr => v = .int .i64 0 ∧ wr = w5) (fun v _ => 0)
      case atStart => exact ⟨rfl, rfl⟩
      case round =>
        obtain ⟨rfl, rfl⟩ := hrel
        have hv := hv5
        clear hv5
        obtain ⟨aoR, capR, hqR, hbR⟩ := hv.out.rd.form
        have r0 := hqR.cell 0 rfl
        have r1 := hqR.cell 1 rfl
        have fr := hqR.free
        have x0 := hv.out.v.cell 0 rfl
        have x1 := hv.out.v.cell 1 rfl
        have x2 := hv.out.v.cell 2 rfl
        have x3 := hv.out.v.cell 3 rfl
        have x4 := hv.out.v.cell 4 rfl
        have x5 := hv.out.v.cell 5 rfl
        have fv := hv.out.v.free
        have z0 := hv.out.z.cell 0 rfl
        have z1 := hv.out.z.cell 1 rfl
        have z2 := hv.out.z.cell 2 rfl
        have z3 := hv.out.z.cell 3 rfl
        have z4 := hv.out.z.cell 4 rfl
        have z5 := hv.out.z.cell 5 rfl
        have fz := hv.out.z.free
        clear hqR hbR
        have h0 : (0 : Int) < (n : Int) := by omega
        go_wp2
        obtain ⟨hf, hrd, hkp, hlf⟩ := hv.out.end (.int .i64 5) (.bool false) (.int .i64 0) (.string ByteArray.empty) (.string ByteArray.empty) (.slice none 0 0) (LF.nil _ _ _)
        exact bodyPost_ret (v := agg6 5 false 0 ByteArray.empty ByteArray.empty (.slice none 0 0)) (results_cell_row rfl _ _ w.heap.size 26 _ (0, 0) _ rfl hf.eq Tryz.underlying26 rfl infoV6) rfl (RdX.mk (x := .mk 5 false 0 ByteArray.empty ByteArray.empty []) hvl.out hrd hkp hlf (by unfold okV In64; refine ⟨?_, ?_, ?_, ?_⟩ <;> first | omega | exact Nat.zero_le _))
    have hni : ¬ (4096 : Int) < (n : Int) := by omega
    by_cases hM : M = 0
    · have hd61 : deep = 61 := by have := hdeep.out; omega
      subst hd61
      have hnone : Hid (∀ m, M = m + 1 → bodyD (valD m) 5 L1 = none) := Lib.hid fun m e => by omega
      clear hc1 hc2 hdeep hM
      have hvl : Hid (VlR M (5 :: L1) false (.mk 5 false 0 ByteArray.empty ByteArray.empty []) L2 true) := Lib.hid (VlR.any hl2 fun m e => .body hl2 (fun v s h => by rw [show (5 : UInt8).toNat = 5 from rfl, hnone.out m e] at h; cases h) (fun _ => .inl rfl))
      obtain ⟨aoR, capR, hqR, hbR⟩ := hv.out.rd.form
      have r0 := hqR.cell 0 rfl
      have r1 := hqR.cell 1 rfl
      have fr := hqR.free
      have x0 := hv.out.v.cell 0 rfl
      have x1 := hv.out.v.cell 1 rfl
      have x2 := hv.out.v.cell 2 rfl
      have x3 := hv.out.v.cell 3 rfl
      have x4 := hv.out.v.cell 4 rfl
      have x5 := hv.out.v.cell 5 rfl
      have fv := hv.out.v.free
      have z0 := hv.out.z.cell 0 rfl
      have z1 := hv.out.z.cell 1 rfl
      have z2 := hv.out.z.cell 2 rfl
      have z3 := hv.out.z.cell 3 rfl
      have z4 := hv.out.z.cell 4 rfl
      have z5 := hv.out.z.cell 5 rfl
      have fz := hv.out.z.free
      clear hqR hbR
      go_upto_region 24 with (fail)
      have hv5 := Lib.hid (hv.out.bad true)
      clear hv r0 r1 fr hnone
      clear x0 x1 x2 x3 x4 x5 fv z0 z1 z2 z3 z4 z5 fz
      generalize (w4.setCell ⟨rb, 1, none⟩ (.bool true)) = w5 at *
      go_wp2
      go_loopw [8] (fun v wr => v = .int .i64 0 ∧ wr = w5) (fun v _ => 0)
      case atStart => exact ⟨rfl, rfl⟩
      case round =>
        obtain ⟨rfl, rfl⟩ := hrel
        have hv := hv5
        clear hv5
        obtain ⟨aoR, capR, hqR, hbR⟩ := hv.out.rd.form
        have r0 := hqR.cell 0 rfl
        have r1 := hqR.cell 1 rfl
        have fr := hqR.free
        have x0 := hv.out.v.cell 0 rfl
        have x1 := hv.out.v.cell 1 rfl
        have x2 := hv.out.v.cell 2 rfl
        have x3 := hv.out.v.cell 3 rfl
        have x4 := hv.out.v.cell 4 rfl
        have x5 := hv.out.v.cell 5 rfl
        have fv := hv.out.v.free
        have z0 := hv.out.z.cell 0 rfl
        have z1 := hv.out.z.cell 1 rfl
        have z2 := hv.out.z.cell 2 rfl
        have z3 := hv.out.z.cell 3 rfl
        have z4 := hv.out.z.cell 4 rfl
        have z5 := hv.out.z.cell 5 rfl
        have fz := hv.out.z.free
        clear hqR hbR
        by_cases h0 : (0 : Int) < (n : Int)
        · go_wp2
          obtain ⟨hf, hrd, hkp, hlf⟩ := hv.out.end (.int .i64 5) (.bool false) (.int .i64 0) (.string ByteArray.empty) (.string ByteArray.empty) (.slice none 0 0) (LF.nil _ _ _)
          exact bodyPost_ret (v := agg6 5 false 0 ByteArray.empty ByteArray.empty (.slice none 0 0)) (results_cell_row rfl _ _ w.heap.size 26 _ (0, 0) _ rfl hf.eq Tryz.underlying26 rfl infoV6) rfl (RdX.mk (x := .mk 5 false 0 ByteArray.empty ByteArray.empty []) hvl.out hrd hkp hlf (by unfold okV In64; refine ⟨?_, ?_, ?_, ?_⟩ <;> first | omega | exact Nat.zero_le _))
        · go_wp2
          obtain ⟨hf, hrd, hkp, hlf⟩ := hv.out.end (.int .i64 5) (.bool false) (.int .i64 0) (.string ByteArray.empty) (.string ByteArray.empty) (.slice none 0 0) (LF.nil _ _ _)
          exact bodyPost_ret (v := agg6 5 false 0 ByteArray.empty ByteArray.empty (.slice none 0 0)) (results_cell_row rfl _ _ w.heap.size 26 _ (0, 0) _ rfl hf.eq Tryz.underlying26 rfl infoV6) rfl (RdX.mk (x := .mk 5 false 0 ByteArray.empty ByteArray.empty []) hvl.out hrd hkp hlf (by unfold okV In64; refine ⟨?_, ?_, ?_, ?_⟩ <;> first | omega | exact Nat.zero_le _))
    obtain ⟨m, rfl⟩ : ∃ m, M = m + 1 := ⟨M - 1, by omega⟩
    clear hM
    · have hd60 : deep ≤ 60 := by have := hdeep.out; omega
      have hd60' : ¬ 60 < deep := by omega
      have ihm := Lib.hid (ih.out m rfl)
      have hend : ∀ (j : Nat) (xs : List V) (Li : List UInt8) (bi : Bool), LsR m j L2 xs Li bi → (j = n ∨ (j ≤ n ∧ bi = true)) → VlR (m + 1) (5 :: L1) false (.mk 5 false 0 ByteArray.empty ByteArray.empty xs) Li bi := fun j xs Li bi g1 g2 => .list hl2 hc1 hc2 (by omega) g1 g2
      replace hend := Lib.hid hend
      clear ih hc1 hc2
      obtain ⟨aoR, capR, hqR, hbR⟩ := hv.out.rd.form
      have r0 := hqR.cell 0 rfl
      have r1 := hqR.cell 1 rfl
      have fr := hqR.free
      have x0 := hv.out.v.cell 0 rfl
      have x1 := hv.out.v.cell 1 rfl
      have x2 := hv.out.v.cell 2 rfl
      have x3 := hv.out.v.cell 3 rfl
      have x4 := hv.out.v.cell 4 rfl
      have x5 := hv.out.v.cell 5 rfl
      have fv := hv.out.v.free
      have z0 := hv.out.z.cell 0 rfl
      have z1 := hv.out.z.cell 1 rfl
      have z2 := hv.out.z.cell 2 rfl
      have z3 := hv.out.z.cell 3 rfl
      have z4 := hv.out.z.cell 4 rfl
      have z5 := hv.out.z.cell 5 rfl
      have fz := hv.out.z.free
      clear hqR hbR
      have eb : (decide ((4096 : Int) < (n : Int)) || decide (60 < deep)) = false := by rw [decide_eq_false hni, decide_eq_false hd60']; rfl
      replace eb := Lib.hid eb
      go_upto_region 24 with (fail)
      rw [eb.out]
      have hv5 := Lib.hid (hv.out.bad false)
      clear hv r0 r1 fr
      clear x0 x1 x2 x3 x4 x5 fv z0 z1 z2 z3 z4 z5 fz
      have hsz5 : (w4.setCell ⟨rb, 1, none⟩ (.bool false)).heap.size = w4.heap.size := by simp [World.setCell]
      generalize (w4.setCell ⟨rb, 1, none⟩ (.bool false)) = w5 at *
      have hv4 := hv5
      clear hv5
      go_wp2
      go_loopw [8] (fun v wr => ∃ (j : Nat) (xs : List V) (Li : List UInt8) (bi : Bool) (sv : Value), j ≤ n ∧ v = .int .i64 j ∧ Hid (LsR m j L2 xs Li bi) ∧ Hid (xs.length ≤ j) ∧ Hid (RV 48 w rb wr g #[.int .i64 5, .bool false, .int .i64 0, .string ByteArray.empty, .string ByteArray.empty, sv] Li bi) ∧ Hid (LF wr 1048576 (Fr (g + 1) wr) sv xs)) (fun v _ => n - (intOf v).toNat)
      case atStart => exact ⟨0, [], L2, false, _, Nat.zero_le _, rfl, .start m L2 false rfl, Nat.le_refl _, hv4, LF.nil _ _ _⟩
      case round =>
        clear hv4
        obtain ⟨j, xs, Li, bi, sv, hj, rfl, g1, hxl, hv, hlf⟩ := hrel
        obtain ⟨wx, rfl⟩ : ∃ wx : World, wx = wr := ⟨_, rfl⟩
        by_cases hlt : j < n
        · have hji : (j : Int) < (n : Int) := by omega
          cases bi
          · obtain ⟨aoR, capR, hqR, hbR⟩ := hv.out.rd.form
            have r0 := hqR.cell 0 rfl
            have r1 := hqR.cell 1 rfl
            have fr := hqR.free
            go_upto_region 27 with (fail)
            clear r0 r1 fr hqR hbR
            have hvd : RV 48 w rb wx.drew g #[.int .i64 5, .bool false, .int .i64 0, .string ByteArray.empty, .string ByteArray.empty, sv] Li false := hv.out.onB (below_drewN (Below.refl _ _) 1)
            have hlfd := (hlf.out.stay (w' := wx.drew) fun b hS hlt => rfl).mono (S' := Fr (g + 1) wx.drew) fun b hb => hb
            have hS0 : Blk wx.drew g #[.int .i64 5, .bool false, .int .i64 0, .string ByteArray.empty, .string ByteArray.empty, sv] 26 := hvd.v
            clear hv hlf
            refine wp_region_late [9] (S := fun V => Blk V g #[.int .i64 5, .bool false, .int .i64 0, .string ByteArray.empty, .string ByteArray.empty, sv] 26) (by kernel_rfl) hS0 (fun hS => ?_)
            clear hS0
            generalize wx.drew = V0 at *
            have hcall := Lib.hid (ihm.out V0 rb Li false (deep + 1) (by have := hdeep.out; omega) (by omega) (Nat.le_trans g1.out.le (Nat.le_trans hl2 hL1)) hvd.rd)
            have hgl := hvd.lt
            have hrl' := hvd.rl
            have hgs := hvd.v.lt
            refine wpAnyL_take (i := 0) (v := ?_) rfl (by kernel_rfl) (by kernel_rfl) (by kernel_rfl) (by kernel_rfl) (by kernel_rfl) (fun _ _ _ h => h) (.inl ⟨by kernel_rfl, fun w' hS => ?_⟩) hS ?_
            rotate_left
            ·
              skip
              go_simp
              try with_reducible rfl
            simp only [List.getElem_toArray, List.getElem_cons_succ, List.getElem_cons_zero, Act.put, List.setIfInBounds_toArray, List.set_cons_zero, List.set_cons_succ]
            refine wpAnyL_take (i := 1) (v := ?_) rfl (by kernel_rfl) (by kernel_rfl) (by kernel_rfl) (by kernel_rfl) (by kernel_rfl) (fun _ _ _ h => h) (.inl ⟨by kernel_rfl, fun w' hS => ?_⟩) hS ?_
            rotate_left
            ·
              have x5 := hS.cell 5 rfl
              go_simp
              try with_reducible rfl
            simp only [List.getElem_toArray, List.getElem_cons_succ, List.getElem_cons_zero, Act.put, List.setIfInBounds_toArray, List.set_cons_zero, List.set_cons_succ]
            refine wpAnyL_take (i := 2) (v := ?_) rfl (by kernel_rfl) (by kernel_rfl) (by kernel_rfl) (by kernel_rfl) (by kernel_rfl) (fun _ _ _ h => h) (.inl ⟨by kernel_rfl, fun w' hS => ?_⟩) hS ?_
            rotate_left
            ·
              skip
              go_simp
              try with_reducible rfl
            simp only [List.getElem_toArray, List.getElem_cons_succ, List.getElem_cons_zero, Act.put, List.setIfInBounds_toArray, List.set_cons_zero, List.set_cons_succ]
            refine wpAnyL_take (i := 3) (v := ?_) rfl (by kernel_rfl) (by kernel_rfl) (by kernel_rfl) (by kernel_rfl) (by kernel_rfl) (fun _ _ _ h => h) (.inl ⟨by kernel_rfl, fun w' hS => ?_⟩) hS ?_
            rotate_left
            ·
              skip
              go_simp
              try with_reducible rfl
            simp only [List.getElem_toArray, List.getElem_cons_succ, List.getElem_cons_zero, Act.put, List.setIfInBounds_toArray, List.set_cons_zero, List.set_cons_succ]
            refine wpAnyL_take (i := 4) (v := ?_) rfl (by kernel_rfl) (by kernel_rfl) (by kernel_rfl) (by kernel_rfl) (by kernel_rfl) (fun _ _ _ h => h) (.inl ⟨by kernel_rfl, fun w' hS => ?_⟩) hS ?_
            rotate_left
            ·
              have ew : IntKind.i64.wrap (deep + 1) = deep + 1 := IntWalk.i64_in _ (by omega)
              go_simp
              try with_reducible rfl
            simp only [List.getElem_toArray, List.getElem_cons_succ, List.getElem_cons_zero, Act.put, List.setIfInBounds_toArray, List.set_cons_zero, List.set_cons_succ]
            refine wpAnyL_ready (i := 5) (by kernel_rfl) rfl (fun K hK => ?_)
            clear hS
            go_simp
            refine (hcall.out).mono ?_
            rintro e w5 ⟨⟨k1, bo, n1, t1, x1, l1⟩, sx, L5, b5, he, hvl5, hr5, hk5, hl5, hok5⟩
            replace hl5 : LF w5 1048576 (Fr V0.heap.size w5) sx l1 := hl5
            obtain ⟨ao2, cap2, rfl, -⟩ := hl5.form
            obtain rfl : e = .returned (.agg #[.int .i64 k1, .bool bo, .int .i64 n1, .string t1, .string x1, .slice ao2 l1.length cap2]) := he
            have hv5 := hvd.on hk5 hr5
            have hlf5 := hlfd.stay (w' := w5) fun b hS hlt => hk5.block b hlt (by have := hS.1; simp; omega)
            have hs5 := hk5.size
            go_wp2_with fail
            refine hK.out _ _ hv5.v (fun hS => ?_)
            clear hK K hcall hvd hlfd hr5 hk5
            try simp only [List.getElem_toArray, List.getElem_cons_succ, List.getElem_cons_zero, Act.put, List.setIfInBounds_toArray, List.set_cons_zero, List.set_cons_succ]
            refine wpAnyL_ready (i := 6) (by kernel_rfl) rfl (fun K hK => ?_)
            clear hS
            go_simp
            go_wp2_with fail
            have hal := ((Below.refl w5.heap.size w5).alloc (Nat.le_refl _) (.cells (six (.mk k1 bo n1 t1 x1 l1) (.slice ao2 l1.length cap2)).toArray 26))
            have hv6 := hv5.onB hal
            have hlf6 := hlf5.stay fun b hS hlt => hal.block b hlt
            have hl6 := hl5.stay fun b hS hlt => hal.block b hlt
            have hn6 := Blk.new w5 (six (.mk k1 bo n1 t1 x1 l1) (.slice ao2 l1.length cap2)).toArray 26
            refine hK.out _ _ hv6.v (fun hS => ?_)
            clear hK K hv5 hlf5 hl5 hal
            try simp only [List.getElem_toArray, List.getElem_cons_succ, List.getElem_cons_zero, Act.put, List.setIfInBounds_toArray, List.set_cons_zero, List.set_cons_succ]
            refine wpAnyL_ready (i := 7) (by kernel_rfl) rfl (fun K hK => ?_)
            clear hS
            refine wp_push1 (.tmp 92) (.tmp 97) rfl 1048576 (by omega) (Fr (g + 1) V0) (Fr V0.heap.size w5) sv xs rfl hlf6 ?d2 w5.heap.size (.mk k1 bo n1 t1 x1 l1) (.slice ao2 l1.length cap2) rfl hn6 hl6 ?d3 hok5 ?d4 ?d5
            case d2 => intro b hb; rw [World.size_alloc]; have := hb.2; omega
            case d3 => intro b hb; exact ⟨by rw [World.size_alloc]; have := hb.2; omega, fun h => by have := h.2; have := hb.1; omega⟩
            case d4 => have := hxl.out; omega
            case d5 =>
              intro v' w' hlf' hg hvS
              have hv7 := hv6.grown hg (fun g' e => by have := (hvS g' e).1; omega)
              have hs7 := hg.size
              rw [World.size_alloc] at hs7
              have hlf7 := hlf'.mono (S' := Fr (g + 1) w') (by
                rintro b (hb | hb | hb)
                · exact ⟨hb.1, by have := hb.2; omega⟩
                · exact ⟨by have := hb.1; omega, by have := hb.2; omega⟩
                · exact ⟨by have := hb.1; rw [World.size_alloc] at this; omega, hb.2⟩)
              obtain ⟨ys, hys⟩ : ∃ ys, xs ++ [V.mk k1 bo n1 t1 x1 l1] = ys := ⟨_, rfl⟩
              rw [hys] at hlf7
              obtain ⟨ao7, cap7, rfl, _⟩ := hlf7.form
              refine hK.out _ _ hv7.v (fun hS => ?_)
              clear hK K hv6 hlf6 hl6 hn6 hlf' hg hvS
              try simp only [List.getElem_toArray, List.getElem_cons_succ, List.getElem_cons_zero, Act.put, List.setIfInBounds_toArray, List.set_cons_zero, List.set_cons_succ]
              refine wpAnyL_take (i := 8) (v := ?_) rfl (by kernel_rfl) (by kernel_rfl) (by kernel_rfl) (by kernel_rfl) (by kernel_rfl) (fun _ _ _ h => h) (.inl ⟨by kernel_rfl, fun w' hS => ?_⟩) hS ?_
              rotate_left
              ·
                skip
                go_simp
                try with_reducible rfl
              simp only [List.getElem_toArray, List.getElem_cons_succ, List.getElem_cons_zero, Act.put, List.setIfInBounds_toArray, List.set_cons_zero, List.set_cons_succ]
              refine wpAnyL_late (i := 9) (by kernel_rfl) rfl (by kernel_rfl) (fun K hK => ?_)
              clear hS
              have f0 := hv7.v.free 5
              have x5 := hv7.v.cell 5 rfl
              have hyl : Hid (ys.length ≤ j + 1) := Lib.hid (by rw [← hys, List.length_append]; simp; exact hxl.out)
              have hg1 : Hid (LsR m (j + 1) L2 ys L5 b5) := Lib.hid (by rw [← hys]; exact g1.out.step hvl5)
              have hv7' := Lib.hid hv7
              clear hv7 hys
              go_simp
              go_wp2_with fail
              refine hK.out _ _ ?_
              clear hK K x5 f0
              try simp only [List.getElem_toArray, List.getElem_cons_succ, List.getElem_cons_zero, Act.put, List.setIfInBounds_toArray, List.set_cons_zero, List.set_cons_succ]
              refine wpAnyL_done (by kernel_rfl) ?_ _
              have hv8 := Lib.hid (hv7'.out.set 5 (.slice ao7 ys.length cap7))
              have hlf8 := Lib.hid ((hlf7.setCell ⟨g, 5, none⟩ (fun h => by have := h.1; simp at this; omega) (.slice ao7 ys.length cap7)).mono (S' := Fr (g + 1) (w'.setCell ⟨g, 5, none⟩ (.slice ao7 ys.length cap7))) fun b hb => ⟨hb.1, by have := hb.2; simpa only [World.setCell, Array.size_modify] using this⟩)
              clear hv7' hlf7
              go_wp2
              go_roundw
              case rel => exact ⟨j + 1, ys, L5, b5, _, by omega, by go_num, hg1.out, hyl.out, hv8.out, hlf8.out⟩
              case measure => simp [intOf]; omega
          · obtain ⟨aoR, capR, hqR, hbR⟩ := hv.out.rd.form
            have r0 := hqR.cell 0 rfl
            have r1 := hqR.cell 1 rfl
            have fr := hqR.free
            have hvl := Lib.hid (hend.out j xs Li true g1.out (.inr ⟨hj, rfl⟩))
            clear hqR hbR
            obtain ⟨aoX, capX, rfl, -⟩ := hlf.out.form
            have x0 := hv.out.v.cell 0 rfl
            have x1 := hv.out.v.cell 1 rfl
            have x2 := hv.out.v.cell 2 rfl
            have x3 := hv.out.v.cell 3 rfl
            have x4 := hv.out.v.cell 4 rfl
            have x5 := hv.out.v.cell 5 rfl
            have fv := hv.out.v.free
            have z0 := hv.out.z.cell 0 rfl
            have z1 := hv.out.z.cell 1 rfl
            have z2 := hv.out.z.cell 2 rfl
            have z3 := hv.out.z.cell 3 rfl
            have z4 := hv.out.z.cell 4 rfl
            have z5 := hv.out.z.cell 5 rfl
            have fz := hv.out.z.free
            go_wp2
            obtain ⟨hf, hrd, hkp, hlf2⟩ := hv.out.end (.int .i64 5) (.bool false) (.int .i64 0) (.string ByteArray.empty) (.string ByteArray.empty) (.slice aoX xs.length capX) (hlf.out.mono (S' := Fr (w.heap.size + 1) _) fun b hb => ⟨by have := hb.1; have := hv.out.lt; omega, hb.2⟩)
            exact bodyPost_ret (v := agg6 5 false 0 ByteArray.empty ByteArray.empty (.slice aoX xs.length capX)) (results_cell_row rfl _ _ w.heap.size 26 _ (0, 0) _ rfl hf.eq Tryz.underlying26 rfl infoV6) rfl (RdX.mk (x := .mk 5 false 0 ByteArray.empty ByteArray.empty xs) hvl.out hrd hkp hlf2 (by unfold okV In64; exact ⟨by omega, by omega, Nat.zero_le _, Nat.zero_le _⟩))
        · have hji : ¬ (j : Int) < (n : Int) := by omega
          have hvl := Lib.hid (hend.out j xs Li bi g1.out (.inl (by omega)))
          obtain ⟨aoX, capX, rfl, -⟩ := hlf.out.form
          have x0 := hv.out.v.cell 0 rfl
          have x1 := hv.out.v.cell 1 rfl
          have x2 := hv.out.v.cell 2 rfl
          have x3 := hv.out.v.cell 3 rfl
          have x4 := hv.out.v.cell 4 rfl
          have x5 := hv.out.v.cell 5 rfl
          have fv := hv.out.v.free
          have z0 := hv.out.z.cell 0 rfl
          have z1 := hv.out.z.cell 1 rfl
          have z2 := hv.out.z.cell 2 rfl
          have z3 := hv.out.z.cell 3 rfl
          have z4 := hv.out.z.cell 4 rfl
          have z5 := hv.out.z.cell 5 rfl
          have fz := hv.out.z.free
          go_wp2
          obtain ⟨hf, hrd, hkp, hlf2⟩ := hv.out.end (.int .i64 5) (.bool false) (.int .i64 0) (.string ByteArray.empty) (.string ByteArray.empty) (.slice aoX xs.length capX) (hlf.out.mono (S' := Fr (w.heap.size + 1) _) fun b hb => ⟨by have := hb.1; have := hv.out.lt; omega, hb.2⟩)
          exact bodyPost_ret (v := agg6 5 false 0 ByteArray.empty ByteArray.empty (.slice aoX xs.length capX)) (results_cell_row rfl _ _ w.heap.size 26 _ (0, 0) _ rfl hf.eq Tryz.underlying26 rfl infoV6) rfl (RdX.mk (x := .mk 5 false 0 ByteArray.empty ByteArray.empty xs) hvl.out hrd hkp hlf2 (by unfold okV In64; exact ⟨by omega, by omega, Nat.zero_le _, Nat.zero_le _⟩))
  · obtain rfl : (6 : Int) = ki := hki.out
    have ht := rnum_call w2 rb L1 false 8 (by omega) hv.out.rd
    rw [show ((8 : Nat) : Int) = 8 from rfl] at ht
    obtain ⟨D, hD⟩ : ∃ D, (if false = false ∧ 8 ≤ L1.length then L1.take 8 else []) = D := ⟨_, rfl⟩
    obtain ⟨L2, hL2⟩ : ∃ L2, (if false = false ∧ 8 ≤ L1.length then L1.drop 8 else L1) = L2 := ⟨_, rfl⟩
    obtain ⟨b2, hb2⟩ : ∃ b2, (if false = false ∧ 8 ≤ L1.length then false else true) = b2 := ⟨_, rfl⟩
    rw [hD, hL2, hb2] at ht
    obtain ⟨z, hz⟩ : ∃ z, IntKind.i64.wrap (beN D : Int) = z := ⟨_, rfl⟩
    rw [hz] at ht
    have hzi : In64 z := by rw [← hz, IntKind.wrap_i64]; unfold In64; omega
    have hle2 : L2.length ≤ L1.length := by
      rw [← hL2]
      split
      · rw [List.length_drop]; omega
      · exact Nat.le_refl _
    have hvl : Hid (VlR M (c :: L1) false (.mk 6 false z ByteArray.empty ByteArray.empty []) L2 b2) := Lib.hid (VlR.any hle2 fun m _ => by
      by_cases h8 : 8 ≤ L1.length
      · rw [if_pos ⟨rfl, h8⟩] at hD hL2 hb2
        have hbd : bodyD (valD m) c.toNat L1 = some (.mk 6 false z ByteArray.empty ByteArray.empty [], L2) := by
          rw [hk.out]; unfold bodyD takeB
          rw [if_pos h8, hD, hL2]
          simp [hz]
        exact .body hle2 (fun v s e => by rw [hbd] at e; simp only [Option.some.injEq, Prod.mk.injEq] at e; exact ⟨e.1, e.2, hb2.symm⟩) (fun e => by rw [hbd] at e; cases e)
      · rw [if_neg (fun e => h8 e.2)] at hD hL2 hb2
        have hbd : bodyD (valD m) c.toNat L1 = none := by
          rw [hk.out]; unfold bodyD takeB
          rw [if_neg h8]
          simp
        exact .body hle2 (fun v s e => by rw [hbd] at e; cases e) (fun _ => .inl hb2.symm))
    replace ht := Lib.hid ht
    clear hL2 hb2 hD hz
    have x0 := hv.out.v.cell 0 rfl
    have x1 := hv.out.v.cell 1 rfl
    have x2 := hv.out.v.cell 2 rfl
    have x3 := hv.out.v.cell 3 rfl
    have x4 := hv.out.v.cell 4 rfl
    have x5 := hv.out.v.cell 5 rfl
    have fv := hv.out.v.free
    have z0 := hv.out.z.cell 0 rfl
    have z1 := hv.out.z.cell 1 rfl
    have z2 := hv.out.z.cell 2 rfl
    have z3 := hv.out.z.cell 3 rfl
    have z4 := hv.out.z.cell 4 rfl
    have z5 := hv.out.z.cell 5 rfl
    have fz := hv.out.z.free
    go_wp2_with fail
    refine (ht.out).mono ?_
    rintro e w4 ⟨rfl, hr2, hk2⟩
    have hv4 := Lib.hid (hv.out.on hk2 hr2)
    clear hv ht hk2 hr2
    clear x0 x1 x2 x3 x4 x5 fv z0 z1 z2 z3 z4 z5 fz
    have hv := hv4
    clear hv4
    have x0 := hv.out.v.cell 0 rfl
    have x1 := hv.out.v.cell 1 rfl
    have x2 := hv.out.v.cell 2 rfl
    have x3 := hv.out.v.cell 3 rfl
    have x4 := hv.out.v.cell 4 rfl
    have x5 := hv.out.v.cell 5 rfl
    have fv := hv.out.v.free
    have z0 := hv.out.z.cell 0 rfl
    have z1 := hv.out.z.cell 1 rfl
    have z2 := hv.out.z.cell 2 rfl
    have z3 := hv.out.z.cell 3 rfl
    have z4 := hv.out.z.cell 4 rfl
    have z5 := hv.out.z.cell 5 rfl
    have fz := hv.out.z.free
    go_upto_region 28 with (fail)
    have hv6 := Lib.hid (hv.out.set 2 (.int .i64 z))
    clear hv
    clear x0 x1 x2 x3 x4 x5 fv z0 z1 z2 z3 z4 z5 fz
    generalize (w4.setCell ⟨g, 2, none⟩ (.int .i64 z)) = w6 at *
    have hv := hv6
    clear hv6
    unfold In64 at hzi
    have x0 := hv.out.v.cell 0 rfl
    have x1 := hv.out.v.cell 1 rfl
    have x2 := hv.out.v.cell 2 rfl
    have x3 := hv.out.v.cell 3 rfl
    have x4 := hv.out.v.cell 4 rfl
    have x5 := hv.out.v.cell 5 rfl
    have fv := hv.out.v.free
    have z0 := hv.out.z.cell 0 rfl
    have z1 := hv.out.z.cell 1 rfl
    have z2 := hv.out.z.cell 2 rfl
    have z3 := hv.out.z.cell 3 rfl
    have z4 := hv.out.z.cell 4 rfl
    have z5 := hv.out.z.cell 5 rfl
    have fz := hv.out.z.free
    go_wp2
    obtain ⟨hf, hrd, hkp, hlf⟩ := hv.out.end (.int .i64 6) (.bool false) (.int .i64 z) (.string ByteArray.empty) (.string ByteArray.empty) (.slice none 0 0) (LF.nil _ _ _)
    exact bodyPost_ret (v := agg6 6 false z ByteArray.empty ByteArray.empty (.slice none 0 0)) (results_cell_row rfl _ _ w.heap.size 26 _ (0, 0) _ rfl hf.eq Tryz.underlying26 rfl infoV6) rfl (RdX.mk (x := .mk 6 false z ByteArray.empty ByteArray.empty []) hvl.out hrd hkp hlf (by unfold okV In64; refine ⟨?_, ?_, ?_, ?_⟩ <;> first | omega | exact Nat.zero_le _))
  · obtain rfl : (7 : Int) = ki := hki.out
    have ht := rnum_call w2 rb L1 false 8 (by omega) hv.out.rd
    rw [show ((8 : Nat) : Int) = 8 from rfl] at ht
    obtain ⟨D, hD⟩ : ∃ D, (if false = false ∧ 8 ≤ L1.length then L1.take 8 else []) = D := ⟨_, rfl⟩
    obtain ⟨L2, hL2⟩ : ∃ L2, (if false = false ∧ 8 ≤ L1.length then L1.drop 8 else L1) = L2 := ⟨_, rfl⟩
    obtain ⟨b2, hb2⟩ : ∃ b2, (if false = false ∧ 8 ≤ L1.length then false else true) = b2 := ⟨_, rfl⟩
    rw [hD, hL2, hb2] at ht
    obtain ⟨z, hz⟩ : ∃ z, IntKind.i64.wrap (beN D : Int) = z := ⟨_, rfl⟩
    rw [hz] at ht
    have hzi : In64 z := by rw [← hz, IntKind.wrap_i64]; unfold In64; omega
    have hle2 : L2.length ≤ L1.length := by
      rw [← hL2]
      split
      · rw [List.length_drop]; omega
      · exact Nat.le_refl _
    have hvl : Hid (VlR M (c :: L1) false (.mk 7 false z ByteArray.empty ByteArray.empty []) L2 b2) := Lib.hid (VlR.any hle2 fun m _ => by
      by_cases h8 : 8 ≤ L1.length
      · rw [if_pos ⟨rfl, h8⟩] at hD hL2 hb2
        have hbd : bodyD (valD m) c.toNat L1 = some (.mk 7 false z ByteArray.empty ByteArray.empty [], L2) := by
          rw [hk.out]; unfold bodyD takeB
          rw [if_pos h8, hD, hL2]
          simp [hz]
        exact .body hle2 (fun v s e => by rw [hbd] at e; simp only [Option.some.injEq, Prod.mk.injEq] at e; exact ⟨e.1, e.2, hb2.symm⟩) (fun e => by rw [hbd] at e; cases e)
      · rw [if_neg (fun e => h8 e.2)] at hD hL2 hb2
        have hbd : bodyD (valD m) c.toNat L1 = none := by
          rw [hk.out]; unfold bodyD takeB
          rw [if_neg h8]
          simp
        exact .body hle2 (fun v s e => by rw [hbd] at e; cases e) (fun _ => .inl hb2.symm))
    replace ht := Lib.hid ht
    clear hL2 hb2 hD hz
    have x0 := hv.out.v.cell 0 rfl
    have x1 := hv.out.v.cell 1 rfl
    have x2 := hv.out.v.cell 2 rfl
    have x3 := hv.out.v.cell 3 rfl
    have x4 := hv.out.v.cell 4 rfl
    have x5 := hv.out.v.cell 5 rfl
    have fv := hv.out.v.free
    have z0 := hv.out.z.cell 0 rfl
    have z1 := hv.out.z.cell 1 rfl
    have z2 := hv.out.z.cell 2 rfl
    have z3 := hv.out.z.cell 3 rfl
    have z4 := hv.out.z.cell 4 rfl
    have z5 := hv.out.z.cell 5 rfl
    have fz := hv.out.z.free
    go_wp2_with fail
    refine (ht.out).mono ?_
    rintro e w4 ⟨rfl, hr2, hk2⟩
    have hv4 := Lib.hid (hv.out.on hk2 hr2)
    clear hv ht hk2 hr2
    clear x0 x1 x2 x3 x4 x5 fv z0 z1 z2 z3 z4 z5 fz
    have hv := hv4
    clear hv4
    have x0 := hv.out.v.cell 0 rfl
    have x1 := hv.out.v.cell 1 rfl
    have x2 := hv.out.v.cell 2 rfl
    have x3 := hv.out.v.cell 3 rfl
    have x4 := hv.out.v.cell 4 rfl
    have x5 := hv.out.v.cell 5 rfl
    have fv := hv.out.v.free
    have z0 := hv.out.z.cell 0 rfl
    have z1 := hv.out.z.cell 1 rfl
    have z2 := hv.out.z.cell 2 rfl
    have z3 := hv.out.z.cell 3 rfl
    have z4 := hv.out.z.cell 4 rfl
    have z5 := hv.out.z.cell 5 rfl
    have fz := hv.out.z.free
    go_upto_region 28 with (fail)
    have hv6 := Lib.hid (hv.out.set 2 (.int .i64 z))
    clear hv
    clear x0 x1 x2 x3 x4 x5 fv z0 z1 z2 z3 z4 z5 fz
    generalize (w4.setCell ⟨g, 2, none⟩ (.int .i64 z)) = w6 at *
    have hv := hv6
    clear hv6
    unfold In64 at hzi
    have x0 := hv.out.v.cell 0 rfl
    have x1 := hv.out.v.cell 1 rfl
    have x2 := hv.out.v.cell 2 rfl
    have x3 := hv.out.v.cell 3 rfl
    have x4 := hv.out.v.cell 4 rfl
    have x5 := hv.out.v.cell 5 rfl
    have fv := hv.out.v.free
    have z0 := hv.out.z.cell 0 rfl
    have z1 := hv.out.z.cell 1 rfl
    have z2 := hv.out.z.cell 2 rfl
    have z3 := hv.out.z.cell 3 rfl
    have z4 := hv.out.z.cell 4 rfl
    have z5 := hv.out.z.cell 5 rfl
    have fz := hv.out.z.free
    go_wp2
    obtain ⟨hf, hrd, hkp, hlf⟩ := hv.out.end (.int .i64 7) (.bool false) (.int .i64 z) (.string ByteArray.empty) (.string ByteArray.empty) (.slice none 0 0) (LF.nil _ _ _)
    exact bodyPost_ret (v := agg6 7 false z ByteArray.empty ByteArray.empty (.slice none 0 0)) (results_cell_row rfl _ _ w.heap.size 26 _ (0, 0) _ rfl hf.eq Tryz.underlying26 rfl infoV6) rfl (RdX.mk (x := .mk 7 false z ByteArray.empty ByteArray.empty []) hvl.out hrd hkp hlf (by unfold okV In64; refine ⟨?_, ?_, ?_, ?_⟩ <;> first | omega | exact Nat.zero_le _))
  · obtain rfl : (8 : Int) = ki := hki.out
    have ht := Lib.hid (rtext_call w2 rb L1 false hL1 hv.out.rd)
    have x0 := hv.out.v.cell 0 rfl
    have x1 := hv.out.v.cell 1 rfl
    have x2 := hv.out.v.cell 2 rfl
    have x3 := hv.out.v.cell 3 rfl
    have x4 := hv.out.v.cell 4 rfl
    have x5 := hv.out.v.cell 5 rfl
    have fv := hv.out.v.free
    have z0 := hv.out.z.cell 0 rfl
    have z1 := hv.out.z.cell 1 rfl
    have z2 := hv.out.z.cell 2 rfl
    have z3 := hv.out.z.cell 3 rfl
    have z4 := hv.out.z.cell 4 rfl
    have z5 := hv.out.z.cell 5 rfl
    have fz := hv.out.z.free
    go_wp2_with fail
    refine (ht.out).mono ?_
    rintro e w4 ⟨t, L2, b2, rfl, htx, hr2, hk2⟩
    have hvl : Hid (VlR M (c :: L1) false (.mk 8 false 0 t ByteArray.empty []) L2 b2) := Lib.hid (VlR.any htx.le fun m _ => by
      have hbd : bodyD (valD m) c.toNat L1 = (txtD L1).bind fun p => some (.mk 8 false 0 p.1 ByteArray.empty [], p.2) := by
        rw [hk.out]; unfold bodyD; simp
      refine .body htx.le (fun v s e => ?_) (fun e => .inl (htx.no rfl ?_))
      · rw [hbd] at e
        cases h1 : txtD L1 with
        | none => rw [h1] at e; cases e
        | some p =>
          obtain ⟨t0, r0⟩ := p
          rw [h1] at e
          simp only [Option.bind_some, Option.some.injEq, Prod.mk.injEq] at e
          obtain ⟨rfl, rfl, rfl⟩ := htx.yes rfl t0 r0 h1
          exact ⟨e.1, e.2, rfl⟩
      · rw [hbd] at e
        cases h1 : txtD L1 with
        | none => rfl
        | some p => rw [h1] at e; cases e)
    have hszt := htx.sz.1
    have hv4 := Lib.hid (hv.out.on hk2 hr2)
    clear hv ht hr2 hk2
    clear x0 x1 x2 x3 x4 x5 fv z0 z1 z2 z3 z4 z5 fz
    have hv := hv4
    clear hv4
    have x0 := hv.out.v.cell 0 rfl
    have x1 := hv.out.v.cell 1 rfl
    have x2 := hv.out.v.cell 2 rfl
    have x3 := hv.out.v.cell 3 rfl
    have x4 := hv.out.v.cell 4 rfl
    have x5 := hv.out.v.cell 5 rfl
    have fv := hv.out.v.free
    have z0 := hv.out.z.cell 0 rfl
    have z1 := hv.out.z.cell 1 rfl
    have z2 := hv.out.z.cell 2 rfl
    have z3 := hv.out.z.cell 3 rfl
    have z4 := hv.out.z.cell 4 rfl
    have z5 := hv.out.z.cell 5 rfl
    have fz := hv.out.z.free
    go_upto_region 28 with (fail)
    have hv6 := Lib.hid (hv.out.set 3 (.string t))
    clear hv
    clear x0 x1 x2 x3 x4 x5 fv z0 z1 z2 z3 z4 z5 fz
    generalize (w4.setCell ⟨g, 3, none⟩ (.string t)) = w6 at *
    have hv := hv6
    clear hv6
    have x0 := hv.out.v.cell 0 rfl
    have x1 := hv.out.v.cell 1 rfl
    have x2 := hv.out.v.cell 2 rfl
    have x3 := hv.out.v.cell 3 rfl
    have x4 := hv.out.v.cell 4 rfl
    have x5 := hv.out.v.cell 5 rfl
    have fv := hv.out.v.free
    have z0 := hv.out.z.cell 0 rfl
    have z1 := hv.out.z.cell 1 rfl
    have z2 := hv.out.z.cell 2 rfl
    have z3 := hv.out.z.cell 3 rfl
    have z4 := hv.out.z.cell 4 rfl
    have z5 := hv.out.z.cell 5 rfl
    have fz := hv.out.z.free
    go_wp2
    obtain ⟨hf, hrd, hkp, hlf⟩ := hv.out.end (.int .i64 8) (.bool false) (.int .i64 0) (.string t) (.string ByteArray.empty) (.slice none 0 0) (LF.nil _ _ _)
    exact bodyPost_ret (v := agg6 8 false 0 t ByteArray.empty (.slice none 0 0)) (results_cell_row rfl _ _ w.heap.size 26 _ (0, 0) _ rfl hf.eq Tryz.underlying26 rfl infoV6) rfl (RdX.mk (x := .mk 8 false 0 t ByteArray.empty []) hvl.out hrd hkp hlf (by unfold okV In64; refine ⟨?_, ?_, ?_, ?_⟩ <;> first | omega | exact Nat.zero_le _))
  · obtain rfl : (9 : Int) = ki := hki.out
    have ht := Lib.hid (rtext_call w2 rb L1 false hL1 hv.out.rd)
    have x0 := hv.out.v.cell 0 rfl
    have x1 := hv.out.v.cell 1 rfl
    have x2 := hv.out.v.cell 2 rfl
    have x3 := hv.out.v.cell 3 rfl
    have x4 := hv.out.v.cell 4 rfl
    have x5 := hv.out.v.cell 5 rfl
    have fv := hv.out.v.free
    have z0 := hv.out.z.cell 0 rfl
    have z1 := hv.out.z.cell 1 rfl
    have z2 := hv.out.z.cell 2 rfl
    have z3 := hv.out.z.cell 3 rfl
    have z4 := hv.out.z.cell 4 rfl
    have z5 := hv.out.z.cell 5 rfl
    have fz := hv.out.z.free
    go_wp2_with fail
    refine (ht.out).mono ?_
    rintro e w4 ⟨t, L2, b2, rfl, htx, hr2, hk2⟩
    have hvl : Hid (VlR M (c :: L1) false (.mk 9 false 0 t ByteArray.empty []) L2 b2) := Lib.hid (VlR.any htx.le fun m _ => by
      have hbd : bodyD (valD m) c.toNat L1 = (txtD L1).bind fun p => some (.mk 9 false 0 p.1 ByteArray.empty [], p.2) := by
        rw [hk.out]; unfold bodyD; simp
      refine .body htx.le (fun v s e => ?_) (fun e => .inl (htx.no rfl ?_))
      · rw [hbd] at e
        cases h1 : txtD L1 with
        | none => rw [h1] at e; cases e
        | some p =>
          obtain ⟨t0, r0⟩ := p
          rw [h1] at e
          simp only [Option.bind_some, Option.some.injEq, Prod.mk.injEq] at e
          obtain ⟨rfl, rfl, rfl⟩ := htx.yes rfl t0 r0 h1
          exact ⟨e.1, e.2, rfl⟩
      · rw [hbd] at e
        cases h1 : txtD L1 with
        | none => rfl
        | some p => rw [h1] at e; cases e)
    have hszt := htx.sz.1
    have hv4 := Lib.hid (hv.out.on hk2 hr2)
    clear hv ht hr2 hk2
    clear x0 x1 x2 x3 x4 x5 fv z0 z1 z2 z3 z4 z5 fz
    have hv := hv4
    clear hv4
    have x0 := hv.out.v.cell 0 rfl
    have x1 := hv.out.v.cell 1 rfl
    have x2 := hv.out.v.cell 2 rfl
    have x3 := hv.out.v.cell 3 rfl
    have x4 := hv.out.v.cell 4 rfl
    have x5 := hv.out.v.cell 5 rfl
    have fv := hv.out.v.free
    have z0 := hv.out.z.cell 0 rfl
    have z1 := hv.out.z.cell 1 rfl
    have z2 := hv.out.z.cell 2 rfl
    have z3 := hv.out.z.cell 3 rfl
    have z4 := hv.out.z.cell 4 rfl
    have z5 := hv.out.z.cell 5 rfl
    have fz := hv.out.z.free
    go_upto_region 28 with (fail)
    have hv6 := Lib.hid (hv.out.set 3 (.string t))
    clear hv
    clear x0 x1 x2 x3 x4 x5 fv z0 z1 z2 z3 z4 z5 fz
    generalize (w4.setCell ⟨g, 3, none⟩ (.string t)) = w6 at *
    have hv := hv6
    clear hv6
    have x0 := hv.out.v.cell 0 rfl
    have x1 := hv.out.v.cell 1 rfl
    have x2 := hv.out.v.cell 2 rfl
    have x3 := hv.out.v.cell 3 rfl
    have x4 := hv.out.v.cell 4 rfl
    have x5 := hv.out.v.cell 5 rfl
    have fv := hv.out.v.free
    have z0 := hv.out.z.cell 0 rfl
    have z1 := hv.out.z.cell 1 rfl
    have z2 := hv.out.z.cell 2 rfl
    have z3 := hv.out.z.cell 3 rfl
    have z4 := hv.out.z.cell 4 rfl
    have z5 := hv.out.z.cell 5 rfl
    have fz := hv.out.z.free
    go_wp2
    obtain ⟨hf, hrd, hkp, hlf⟩ := hv.out.end (.int .i64 9) (.bool false) (.int .i64 0) (.string t) (.string ByteArray.empty) (.slice none 0 0) (LF.nil _ _ _)
    exact bodyPost_ret (v := agg6 9 false 0 t ByteArray.empty (.slice none 0 0)) (results_cell_row rfl _ _ w.heap.size 26 _ (0, 0) _ rfl hf.eq Tryz.underlying26 rfl infoV6) rfl (RdX.mk (x := .mk 9 false 0 t ByteArray.empty []) hvl.out hrd hkp hlf (by unfold okV In64; refine ⟨?_, ?_, ?_, ?_⟩ <;> first | omega | exact Nat.zero_le _))
  · obtain rfl : (10 : Int) = ki := hki.out
    have ht := Lib.hid (rtext_call w2 rb L1 false hL1 hv.out.rd)
    have x0 := hv.out.v.cell 0 rfl
    have x1 := hv.out.v.cell 1 rfl
    have x2 := hv.out.v.cell 2 rfl
    have x3 := hv.out.v.cell 3 rfl
    have x4 := hv.out.v.cell 4 rfl
    have x5 := hv.out.v.cell 5 rfl
    have fv := hv.out.v.free
    have z0 := hv.out.z.cell 0 rfl
    have z1 := hv.out.z.cell 1 rfl
    have z2 := hv.out.z.cell 2 rfl
    have z3 := hv.out.z.cell 3 rfl
    have z4 := hv.out.z.cell 4 rfl
    have z5 := hv.out.z.cell 5 rfl
    have fz := hv.out.z.free
    go_wp2_with fail
    refine (ht.out).mono ?_
    rintro e w4 ⟨t, L2, b2, rfl, htx, hr2, hk2⟩
    have hv4 := Lib.hid (hv.out.on hk2 hr2)
    clear hv ht hr2 hk2
    clear x0 x1 x2 x3 x4 x5 fv z0 z1 z2 z3 z4 z5 fz
    have hv := hv4
    clear hv4
    have x0 := hv.out.v.cell 0 rfl
    have x1 := hv.out.v.cell 1 rfl
    have x2 := hv.out.v.cell 2 rfl
    have x3 := hv.out.v.cell 3 rfl
    have x4 := hv.out.v.cell 4 rfl
    have x5 := hv.out.v.cell 5 rfl
    have fv := hv.out.v.free
    have z0 := hv.out.z.cell 0 rfl
    have z1 := hv.out.z.cell 1 rfl
    have z2 := hv.out.z.cell 2 rfl
    have z3 := hv.out.z.cell 3 rfl
    have z4 := hv.out.z.cell 4 rfl
    have z5 := hv.out.z.cell 5 rfl
    have fz := hv.out.z.free
    go_upto_region 20 with (fail)
    have hv6 := Lib.hid (hv.out.set 3 (.string t))
    clear hv
    clear x0 x1 x2 x3 x4 x5 fv z0 z1 z2 z3 z4 z5 fz
    generalize (w4.setCell ⟨g, 3, none⟩ (.string t)) = w5 at *
    have hv := hv6
    clear hv6
    have ht := Lib.hid (rtext_call w5 rb L2 b2 (Nat.le_trans htx.le hL1) hv.out.rd)
    go_wp2_with fail
    refine (ht.out).mono ?_
    rintro e w6 ⟨x, L3, b3, rfl, hxx, hr3, hk3⟩
    have hvl : Hid (VlR M (c :: L1) false (.mk 10 false 0 t x []) L3 b3) := Lib.hid (VlR.any (Nat.le_trans hxx.le htx.le) fun m _ => by
      have hbd : bodyD (valD m) c.toNat L1 = (txtD L1).bind fun p => (txtD p.2).bind fun q => some (.mk 10 false 0 p.1 q.1 [], q.2) := by
        rw [hk.out]; unfold bodyD; simp
      refine .body (Nat.le_trans hxx.le htx.le) (fun v s e => ?_) (fun e => .inl ?_)
      · rw [hbd] at e
        cases h1 : txtD L1 with
        | none => rw [h1] at e; cases e
        | some p =>
          obtain ⟨t0, r0⟩ := p
          obtain ⟨rfl, rfl, rfl⟩ := htx.yes rfl t0 r0 h1
          rw [h1] at e
          simp only [Option.bind_some] at e
          cases h2 : txtD L2 with
          | none => rw [h2] at e; cases e
          | some q =>
            obtain ⟨t1, r1⟩ := q
            obtain ⟨rfl, rfl, rfl⟩ := hxx.yes rfl t1 r1 h2
            rw [h2] at e
            simp only [Option.bind_some, Option.some.injEq, Prod.mk.injEq] at e
            exact ⟨e.1, e.2, rfl⟩
      · rw [hbd] at e
        cases h1 : txtD L1 with
        | none => exact hxx.more (htx.no rfl h1)
        | some p =>
          obtain ⟨t0, r0⟩ := p
          obtain ⟨rfl, rfl, rfl⟩ := htx.yes rfl t0 r0 h1
          rw [h1] at e
          simp only [Option.bind_some] at e
          cases h2 : txtD L2 with
          | none => exact hxx.no rfl h2
          | some q => rw [h2] at e; cases e)
    have hszt := htx.sz.1
    have hszx := hxx.sz.1
    have hv4 := Lib.hid (hv.out.on hk3 hr3)
    clear hv ht hr3 hk3
    have hv := hv4
    clear hv4
    have x0 := hv.out.v.cell 0 rfl
    have x1 := hv.out.v.cell 1 rfl
    have x2 := hv.out.v.cell 2 rfl
    have x3 := hv.out.v.cell 3 rfl
    have x4 := hv.out.v.cell 4 rfl
    have x5 := hv.out.v.cell 5 rfl
    have fv := hv.out.v.free
    have z0 := hv.out.z.cell 0 rfl
    have z1 := hv.out.z.cell 1 rfl
    have z2 := hv.out.z.cell 2 rfl
    have z3 := hv.out.z.cell 3 rfl
    have z4 := hv.out.z.cell 4 rfl
    have z5 := hv.out.z.cell 5 rfl
    have fz := hv.out.z.free
    go_upto_region 28 with (fail)
    have hv6 := Lib.hid (hv.out.set 4 (.string x))
    clear hv
    clear x0 x1 x2 x3 x4 x5 fv z0 z1 z2 z3 z4 z5 fz
    generalize (w6.setCell ⟨g, 4, none⟩ (.string x)) = w7 at *
    have hv := hv6
    clear hv6
    have x0 := hv.out.v.cell 0 rfl
    have x1 := hv.out.v.cell 1 rfl
    have x2 := hv.out.v.cell 2 rfl
    have x3 := hv.out.v.cell 3 rfl
    have x4 := hv.out.v.cell 4 rfl
    have x5 := hv.out.v.cell 5 rfl
    have fv := hv.out.v.free
    have z0 := hv.out.z.cell 0 rfl
    have z1 := hv.out.z.cell 1 rfl
    have z2 := hv.out.z.cell 2 rfl
    have z3 := hv.out.z.cell 3 rfl
    have z4 := hv.out.z.cell 4 rfl
    have z5 := hv.out.z.cell 5 rfl
    have fz := hv.out.z.free
    go_wp2
    obtain ⟨hf, hrd, hkp, hlf⟩ := hv.out.end (.int .i64 10) (.bool false) (.int .i64 0) (.string t) (.string x) (.slice none 0 0) (LF.nil _ _ _)
    exact bodyPost_ret (v := agg6 10 false 0 t x (.slice none 0 0)) (results_cell_row rfl _ _ w.heap.size 26 _ (0, 0) _ rfl hf.eq Tryz.underlying26 rfl infoV6) rfl (RdX.mk (x := .mk 10 false 0 t x []) hvl.out hrd hkp hlf (by unfold okV In64; refine ⟨?_, ?_, ?_, ?_⟩ <;> first | omega | exact Nat.zero_le _))
  · have q0 : (ki == 0) = false := beq_eq_false_iff_ne.2 (by have := hki.out; omega)
    have q1 : (ki == 1) = false := beq_eq_false_iff_ne.2 (by have := hki.out; omega)
    have q2 : (ki == 2) = false := beq_eq_false_iff_ne.2 (by have := hki.out; omega)
    have q3 : (ki == 3) = false := beq_eq_false_iff_ne.2 (by have := hki.out; omega)
    have q4 : (ki == 4) = false := beq_eq_false_iff_ne.2 (by have := hki.out; omega)
    have q5 : (ki == 5) = false := beq_eq_false_iff_ne.2 (by have := hki.out; omega)
    have q6 : (ki == 6) = false := beq_eq_false_iff_ne.2 (by have := hki.out; omega)
    have q7 : (ki == 7) = false := beq_eq_false_iff_ne.2 (by have := hki.out; omega)
    have q8 : (ki == 8) = false := beq_eq_false_iff_ne.2 (by have := hki.out; omega)
    have q9 : (ki == 9) = false := beq_eq_false_iff_ne.2 (by have := hki.out; omega)
    have q10 : (ki == 10) = false := beq_eq_false_iff_ne.2 (by have := hki.out; omega)
    have hvl : Hid (VlR M (c :: L1) false (.mk ki false 0 ByteArray.empty ByteArray.empty []) L1 true) := Lib.hid (VlR.any (Nat.le_refl _) fun m _ => .body (Nat.le_refl _) (fun v s e => by
        rw [hk.out] at e
        unfold bodyD at e
        rw [if_neg (by omega), if_neg (by omega), if_neg (by omega), if_neg (by omega), if_neg (by omega), if_neg (by omega)] at e
        cases e) (fun _ => .inl rfl))
    have hki0 : 0 ≤ ki ∧ ki ≤ 255 := by have := hki.out; omega
    obtain ⟨aoR, capR, hqR, hbR⟩ := hv.out.rd.form
    have r0 := hqR.cell 0 rfl
    have r1 := hqR.cell 1 rfl
    have fr := hqR.free
    have x0 := hv.out.v.cell 0 rfl
    have x1 := hv.out.v.cell 1 rfl
    have x2 := hv.out.v.cell 2 rfl
    have x3 := hv.out.v.cell 3 rfl
    have x4 := hv.out.v.cell 4 rfl
    have x5 := hv.out.v.cell 5 rfl
    have fv := hv.out.v.free
    have z0 := hv.out.z.cell 0 rfl
    have z1 := hv.out.z.cell 1 rfl
    have z2 := hv.out.z.cell 2 rfl
    have z3 := hv.out.z.cell 3 rfl
    have z4 := hv.out.z.cell 4 rfl
    have z5 := hv.out.z.cell 5 rfl
    have fz := hv.out.z.free
    clear hqR hbR
    go_upto_region 28 with (fail)
    have hv5 := Lib.hid (hv.out.bad true)
    clear hv r0 r1 fr
    clear x0 x1 x2 x3 x4 x5 fv z0 z1 z2 z3 z4 z5 fz
    generalize (w2.setCell ⟨rb, 1, none⟩ (.bool true)) = w5 at *
    have hv := hv5
    clear hv5
    have x0 := hv.out.v.cell 0 rfl
    have x1 := hv.out.v.cell 1 rfl
    have x2 := hv.out.v.cell 2 rfl
    have x3 := hv.out.v.cell 3 rfl
    have x4 := hv.out.v.cell 4 rfl
    have x5 := hv.out.v.cell 5 rfl
    have fv := hv.out.v.free
    have z0 := hv.out.z.cell 0 rfl
    have z1 := hv.out.z.cell 1 rfl
    have z2 := hv.out.z.cell 2 rfl
    have z3 := hv.out.z.cell 3 rfl
    have z4 := hv.out.z.cell 4 rfl
    have z5 := hv.out.z.cell 5 rfl
    have fz := hv.out.z.free
    go_wp2
    obtain ⟨hf, hrd, hkp, hlf⟩ := hv.out.end (.int .i64 ki) (.bool false) (.int .i64 0) (.string ByteArray.empty) (.string ByteArray.empty) (.slice none 0 0) (LF.nil _ _ _)
    exact bodyPost_ret (v := agg6 ki false 0 ByteArray.empty ByteArray.empty (.slice none 0 0)) (results_cell_row rfl _ _ w.heap.size 26 _ (0, 0) _ rfl hf.eq Tryz.underlying26 rfl infoV6) rfl (RdX.mk (x := .mk ki false 0 ByteArray.empty ByteArray.empty []) hvl.out hrd hkp hlf (by unfold okV In64; refine ⟨?_, ?_, ?_, ?_⟩ <;> first | omega | exact Nat.zero_le _))
end Go.Proofs.YtjncjcellpbhcaaGreatDoor.val
