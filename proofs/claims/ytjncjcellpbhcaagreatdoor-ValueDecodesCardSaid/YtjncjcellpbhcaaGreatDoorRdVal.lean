/- Contract of the program's reader: a value. -/
import Derived.Test.YtjncjcellpbhcaaGreatDoorRdReadA
import Derived.Test.YtjncjcellpbhcaaGreatDoorVJoinA
namespace Go.Proofs.YtjncjcellpbhcaaGreatDoor.val
open Go.ChangeShapes Go.WideShapes Go.ChangeAt Go.RowKit kit dec
set_option linter.unusedVariables false
set_option linter.unusedSimpArgs false
/-- Inside the reading of a value: the box of what is told, the value's box, the reader. -/
structure RV (T : TypeId) (w : World) (rb : Nat) (W : World) (g : Nat) (c : Array Value) (L : List UInt8) (bad : Bool) : Prop where
  keep : Keep [rb] w W
  rd : RD T W rb L bad
  z : Blk W w.heap.size #[.int .i64 0, .bool false, .int .i64 0, .string ByteArray.empty, .string ByteArray.empty, .slice none 0 0] 26
  v : Blk W g c 26
  lt : w.heap.size < g
  rl : rb < w.heap.size
theorem RV.on {T : TypeId} {w W W' : World} {rb g : Nat} {c : Array Value} {L L' : List UInt8} {bad bad' : Bool} (h : RV T w rb W g c L bad) (hk : Keep [rb] W W') (hr : RD T W' rb L' bad') : RV T w rb W' g c L' bad' := by
  have hlt := h.lt
  have hrl := h.rl
  exact ⟨h.keep.trans hk (fun x hx _ => hx), hr, h.z.keep hk (by simp; omega), h.v.keep hk (by simp; omega), hlt, hrl⟩
theorem RV.set {T : TypeId} {w W : World} {rb g : Nat} {c : Array Value} {L : List UInt8} {bad : Bool} (h : RV T w rb W g c L bad) (i : Nat) (u : Value) : RV T w rb (W.setCell ⟨g, i, none⟩ u) g (c.setIfInBounds i u) L bad := by
  have hlt := h.lt
  have hrl := h.rl
  exact ⟨h.keep.setCell (p := ⟨g, i, none⟩) (fun hb => by simp at hb; omega) u, h.rd.keep fun k hk => Below.heap_setCell W ⟨g, i, none⟩ u k (by simp; omega), h.z.set_other _ (by simp; omega) u, h.v.set i u, hlt, hrl⟩
theorem RV.bad {T : TypeId} {w W : World} {rb g : Nat} {c : Array Value} {L : List UInt8} {bad : Bool} (h : RV T w rb W g c L bad) (q : Bool) : RV T w rb (W.setCell ⟨rb, 1, none⟩ (.bool q)) g c L q := by
  have hlt := h.lt
  have hrl := h.rl
  obtain ⟨v, hq, hb⟩ := h.rd.ex
  exact ⟨h.keep.setCell (p := ⟨rb, 1, none⟩) (fun _ => by simp) _, ⟨v, hq.set 1 _, hb.stay fun k hk => Below.heap_setCell W ⟨rb, 1, none⟩ _ k (by simp; omega)⟩, h.z.set_other _ (by simp; omega) _, h.v.set_other _ (by simp; omega) _, hlt, hrl⟩
/-- The end: the value is told. -/
theorem RV.end {T : TypeId} {w W : World} {rb g : Nat} {c : Array Value} {L : List UInt8} {bad : Bool} (h : RV T w rb W g c L bad) (v0 v1 v2 v3 v4 v5 : Value) {sv : Value} {l : List V} (hl : LF W 1048576 (Fr (w.heap.size + 1) W) sv l) :
    Blk (set6 W w.heap.size v0 v1 v2 v3 v4 v5) w.heap.size #[v0, v1, v2, v3, v4, v5] 26 ∧ RD T (set6 W w.heap.size v0 v1 v2 v3 v4 v5) rb L bad ∧ Keep [rb] w (set6 W w.heap.size v0 v1 v2 v3 v4 v5) ∧ LF (set6 W w.heap.size v0 v1 v2 v3 v4 v5) 1048576 (Fr w.heap.size (set6 W w.heap.size v0 v1 v2 v3 v4 v5)) sv l := by
  have hrl := h.rl
  have h1 := Blk.set6 h.z v0 v1 v2 v3 v4 v5
  have h2 := Below.set6 (Below.refl w.heap.size W) (Nat.le_refl _) v0 v1 v2 v3 v4 v5
  have h3 := hl.set6 w.heap.size (fun e => by have := e.1; omega) v0 v1 v2 v3 v4 v5
  have h4 := size_set6 W w.heap.size v0 v1 v2 v3 v4 v5
  generalize set6 W w.heap.size v0 v1 v2 v3 v4 v5 = W6 at *
  refine ⟨h1, h.rd.keep fun k hk => h2.block k (by omega), ?_, ?_⟩
  · exact ⟨h2.os.trans h.keep.os, h2.tape.trans h.keep.tape, h2.output.trans h.keep.output, by rw [h4]; exact h.keep.size, fun k hk hn => (h2.block k hk).trans (h.keep.block k hk hn)⟩
  · exact h3.mono fun b hb => ⟨by have := hb.1; omega, by rw [h4]; exact hb.2⟩
theorem RV.onB {T : TypeId} {w W W' : World} {rb g : Nat} {c : Array Value} {L : List UInt8} {bad : Bool} (h : RV T w rb W g c L bad) (hb : Below W.heap.size W W') : RV T w rb W' g c L bad :=
  h.on ⟨hb.os, hb.tape, hb.output, hb.size, fun k hk _ => hb.block k hk⟩ (h.rd.keep fun k hk => hb.block k (by have := h.rd.lt; omega))
theorem RV.grown {T : TypeId} {w W W' : World} {rb g : Nat} {c : Array Value} {L : List UInt8} {bad : Bool} {row : Option Nat} (h : RV T w rb W g c L bad) (hg : W.grownBy W' row) (hr : ∀ k, row = some k → g < k) : RV T w rb W' g c L bad := by
  have hlt := h.lt
  have hrl := h.rl
  have hk : ∀ k, k ≤ g → k < W.heap.size → W'.heap[k]? = W.heap[k]? := fun k h1 h2 => hg.block k h2 (fun e => by have := hr k e.symm; omega)
  exact ⟨h.keep.grown hg (fun k e h2 => by have := hr k e; omega), h.rd.keep fun k h2 => hk k (by omega) (by have := h.rd.lt; omega), (hk _ (by omega) h.z.lt).trans h.z, (hk _ (Nat.le_refl _) h.v.lt).trans h.v, hlt, hrl⟩
theorem okV_z : okV 1048576 zV := by unfold zV okV In64; exact ⟨by omega, by omega, Nat.zero_le _, Nat.zero_le _⟩
theorem kindsN (k : Nat) : k = 0 ∨ k = 1 ∨ k = 2 ∨ k = 3 ∨ k = 4 ∨ k = 5 ∨ k = 6 ∨ k = 7 ∨ k = 8 ∨ k = 9 ∨ k = 10 ∨ 10 < k := by omega
theorem VlR.body {m : Nat} {c : UInt8} {r : List UInt8} {x : V} {L' : List UInt8} {b' : Bool} (hle : L'.length ≤ r.length) (hy : ∀ v s, bodyD (valD m) c.toNat r = some (v, s) → x = v ∧ L' = s ∧ b' = false) (hn : bodyD (valD m) c.toNat r = none → b' = true ∨ chkV m x = false) :
    VlR (m + 1) (c :: r) false x L' b' := by
  refine ⟨Nat.le_trans hle (by simp), (fun e => by cases e), fun _ v s e => ?_, fun _ e => ?_⟩
  · rw [valD_cons] at e; exact hy v s e
  · rw [valD_cons] at e
    rcases hn e with h | h
    · exact .inl h
    · exact .inr (.inr h)
/-- The first byte. -/
theorem take_one {w w' : World} {rb : Nat} {L : List UInt8} {bad : Bool} {v : Value} (h : Tk w rb L bad 1 v w') : ∃ (c : UInt8) (L1 : List UInt8) (b1 : Bool) (b off cap : Nat), v = .slice (some ⟨b, off, none⟩) 1 cap ∧ w'.cell? ⟨b, off, none⟩ = some (.int .u8 (c.toNat : Nat)) ∧ RD 43 w' rb L1 b1 ∧ Keep [rb] w w' ∧ ((L = c :: L1 ∧ b1 = bad) ∨ (L = [] ∧ c = 0 ∧ L1 = [] ∧ b1 = true)) := by
  obtain ⟨h1, h2, h3⟩ := h
  cases L with
  | nil =>
    rw [if_neg (by simp)] at h1
    rw [if_neg (by simp), if_neg (by simp)] at h2
    rcases h1 with ⟨_, _, _, h⟩ | ⟨b, off, cap, hv, _, _, _, hj⟩
    · exact absurd h (by decide)
    · exact ⟨0, [], true, b, off, cap, hv, hj 0 (by decide), h2, h3, .inr ⟨rfl, rfl, rfl, rfl⟩⟩
  | cons c r =>
    rw [if_pos (by simp)] at h1
    rw [if_pos (by simp), if_pos (by simp)] at h2
    rcases h1 with ⟨_, _, _, h⟩ | ⟨b, off, cap, hv, _, _, _, hj⟩
    · simp at h
    · exact ⟨c, r, bad, b, off, cap, hv, hj 0 (by simp), h2, h3, .inl ⟨rfl, rfl⟩⟩
/-- What value tells. -/
def RdP (T : TypeId) (m : Nat) (w : World) (rb : Nat) (L : List UInt8) (bad : Bool) (e : Ending) (w' : World) : Prop :=
  ∃ x sv L' bad', e = .returned (val6 x sv) ∧ VlR m L bad x L' bad' ∧ RD T w' rb L' bad' ∧ Keep [rb] w w' ∧ LF w' 1048576 (Fr w.heap.size w') sv (kids x) ∧ okV 1048576 x
/-- value answers, so many lists deep. -/
def RdX (m : Nat) : Prop := ∀ (w : World) (rb : Nat) (L : List UInt8) (bad : Bool) (deep : Int), deep = 61 - (m : Int) → 0 ≤ deep → RD 43 w rb L bad →
  Calls Tryz.prog 15 #[.pointer (some ⟨rb, 0, none⟩), .int .i64 deep] w (RdP 43 m w rb L bad)
theorem RdX.mk {T : TypeId} {m : Nat} {w w' : World} {rb : Nat} {L L' : List UInt8} {bad bad' : Bool} {x : V} {sv : Value} (h1 : VlR m L bad x L' bad') (h2 : RD T w' rb L' bad') (h3 : Keep [rb] w w') (h4 : LF w' 1048576 (Fr w.heap.size w') sv (kids x)) (h5 : okV 1048576 x) :
    RdP T m w rb L bad (.returned (val6 x sv)) w' := ⟨x, sv, L', bad', rfl, h1, h2, h3, h4, h5⟩
set_option maxRecDepth 100000 in
set_option maxHeartbeats 16000000 in
theorem value_step (m : Nat) (ih : ∀ m', m = m' + 1 → RdX m') : RdX m := by
  intro w rb L bad deep hdeep hd0 h
  have hrl := h.lt
  have hal : Keep [rb] w (w.alloc (.cells #[.int .i64 0, .bool false, .int .i64 0, .string ByteArray.empty, .string ByteArray.empty, .slice none 0 0] 26)) := (Keep.refl [rb] w).alloc _
  have ht := take_call (w.alloc (.cells #[.int .i64 0, .bool false, .int .i64 0, .string ByteArray.empty, .string ByteArray.empty, .slice none 0 0] 26)) rb L bad 1 (h.keep fun k hk => Below.heap_alloc w _ k (by omega)) (by omega)
  have hz := Blk.new w #[.int .i64 0, .bool false, .int .i64 0, .string ByteArray.empty, .string ByteArray.empty, .slice none 0 0] 26
  have hsz : (w.alloc (.cells #[.int .i64 0, .bool false, .int .i64 0, .string ByteArray.empty, .string ByteArray.empty, .slice none 0 0] 26)).heap.size = w.heap.size + 1 := World.size_alloc _ _
  rw [show ((1 : Nat) : Int) = 1 from rfl] at ht
  replace ht := Lib.hid ht
  replace hal := Lib.hid hal
  replace hz := Lib.hid hz
  replace ih := Lib.hid ih
  replace hdeep := Lib.hid hdeep
  clear h
  go_enter Tryz.func15, Tryz.ntmps15
  go_wp2_with fail
  refine (ht.out).mono ?_
  rintro e w1 ⟨v, rfl, htk⟩
  obtain ⟨c, L1, b1, b, off, cap, rfl, hc, hr1, hk1, hor⟩ := take_one htk
  have hs1 := hk1.size
  rw [hsz] at hs1
  obtain ⟨k, hk⟩ : ∃ k, c.toNat = k := ⟨_, rfl⟩
  obtain ⟨ki, hki⟩ : ∃ ki : Int, (k : Int) = ki := ⟨_, rfl⟩
  have hk256 : k < 256 := by rw [← hk]; exact c.toNat_lt
  rw [hk, hki] at hc
  have hcv : IntKind.i64.wrap ki = ki := IntWalk.i64_in _ (by omega)
  have hv : Hid (RV 43 w rb (w1.alloc (.cells #[.int .i64 ki, .bool false, .int .i64 0, .string ⟨#[]⟩, .string ⟨#[]⟩, .slice none 0 0] 26)) w1.heap.size #[.int .i64 ki, .bool false, .int .i64 0, .string ⟨#[]⟩, .string ⟨#[]⟩, .slice none 0 0] L1 b1) := Lib.hid
    ⟨(hal.out.trans hk1 (fun x hx _ => hx)).alloc _, hr1.keep fun k hk => Below.heap_alloc w1 _ k (by have := hr1.lt; omega), (hz.out.keep hk1 (by simp; omega)).alloc _, Blk.new _ _ _, by omega, hrl⟩
  replace hor := Lib.hid hor
  replace hk := Lib.hid hk
  replace hki := Lib.hid hki
  clear hk1 hr1 htk ht hal hz hsz
  go_upto_region 2 with (fail)
  generalize (w1.alloc (.cells #[.int .i64 ki, .bool false, .int .i64 0, .string ⟨#[]⟩, .string ⟨#[]⟩, .slice none 0 0] 26)) = w2 at *
  replace hv : Hid (RV 43 w rb w2 w1.heap.size #[.int .i64 ki, .bool false, .int .i64 0, .string ByteArray.empty, .string ByteArray.empty, .slice none 0 0] L1 b1) := hv
  generalize w1.heap.size = g at *
  clear hc
  by_cases hb1 : b1 = true
  · subst hb1
    have hvl : Hid (VlR m L bad zV L1 true) := Lib.hid (by
      rcases hor.out with ⟨rfl, h2⟩ | ⟨rfl, -, rfl, -⟩
      · exact ⟨by simp, fun _ => rfl, (fun h => by rw [h] at h2; cases h2), fun _ _ => .inl rfl⟩
      · exact ⟨Nat.le_refl _, fun _ => rfl, (fun _ v r e => by rw [valD_nil] at e; cases e), fun _ _ => .inl rfl⟩)
    obtain ⟨aoR, capR, hqR, hbR⟩ := hv.out.rd.form
    have r0 := hqR.cell 0 rfl
    have r1 := hqR.cell 1 rfl
    have fr := hqR.free
    have x0 := hv.out.v.cell 0 rfl
    have x1 := hv.out.v.cell 1 rfl
    have x2 := hv.out.v.cell 2 rfl
    have x3 := hv.out.v.cell 3 rfl
    have x4 := hv.out.v.cell 4 rfl
    have x5 := hv.out.v.cell 5 rfl
    have fv := hv.out.v.free
    have z0 := hv.out.z.cell 0 rfl
    have z1 := hv.out.z.cell 1 rfl
    have z2 := hv.out.z.cell 2 rfl
    have z3 := hv.out.z.cell 3 rfl
    have z4 := hv.out.z.cell 4 rfl
    have z5 := hv.out.z.cell 5 rfl
    have fz := hv.out.z.free
    have hv2 := Lib.hid (hv.out.bad true)
    clear hv hqR hbR
    go_wp2
    obtain ⟨hf, hrd, hkp, hlf⟩ := hv2.out.end (.int .i64 0) (.bool false) (.int .i64 0) (.string ByteArray.empty) (.string ByteArray.empty) (.slice none 0 0) (LF.nil _ _ _)
    exact bodyPost_ret (v := agg6 0 false 0 ByteArray.empty ByteArray.empty (.slice none 0 0)) (results_cell_row rfl _ _ w.heap.size 26 _ (0, 0) _ rfl hf.eq Tryz.underlying26 rfl infoV6) rfl (RdX.mk hvl.out hrd hkp hlf okV_z)
  obtain rfl : b1 = false := by simpa using hb1
  obtain ⟨rfl, rfl⟩ : L = c :: L1 ∧ false = bad := by
    rcases hor.out with h | ⟨_, _, _, h⟩
    · exact h
    · cases h
  clear hor hb1
  cases m with
  | zero =>
    have hd61 : deep = 61 := by have := hdeep.out; omega
    subst hd61
    have hvl : Hid (VlR 0 (c :: L1) false zV L1 true) := Lib.hid ⟨by simp, fun _ => rfl, (fun _ v r e => by cases e), fun _ _ => .inl rfl⟩
    clear hdeep
    obtain ⟨aoR, capR, hqR, hbR⟩ := hv.out.rd.form
    have r0 := hqR.cell 0 rfl
    have r1 := hqR.cell 1 rfl
    have fr := hqR.free
    have x0 := hv.out.v.cell 0 rfl
    have x1 := hv.out.v.cell 1 rfl
    have x2 := hv.out.v.cell 2 rfl
    have x3 := hv.out.v.cell 3 rfl
    have x4 := hv.out.v.cell 4 rfl
    have x5 := hv.out.v.cell 5 rfl
    have fv := hv.out.v.free
    have z0 := hv.out.z.cell 0 rfl
    have z1 := hv.out.z.cell 1 rfl
    have z2 := hv.out.z.cell 2 rfl
    have z3 := hv.out.z.cell 3 rfl
    have z4 := hv.out.z.cell 4 rfl
    have z5 := hv.out.z.cell 5 rfl
    have fz := hv.out.z.free
    have hv2 := Lib.hid (hv.out.bad true)
    clear hv hqR hbR
    go_wp2
    obtain ⟨hf, hrd, hkp, hlf⟩ := hv2.out.end (.int .i64 0) (.bool false) (.int .i64 0) (.string ByteArray.empty) (.string ByteArray.empty) (.slice none 0 0) (LF.nil _ _ _)
    exact bodyPost_ret (v := agg6 0 false 0 ByteArray.empty ByteArray.empty (.slice none 0 0)) (results_cell_row rfl _ _ w.heap.size 26 _ (0, 0) _ rfl hf.eq Tryz.underlying26 rfl infoV6) rfl (RdX.mk hvl.out hrd hkp hlf okV_z)
  | succ m =>
    have hd60 : deep ≤ 60 := by have := hdeep.out; omega
    have hd60' : ¬ 60 < deep := by omega
    have ihm := Lib.hid (ih.out m rfl)
    have hpt := Lib.hid (fun W => part_any ki false 0 ByteArray.empty ByteArray.empty (.slice none 0 0) W)
    unfold agg6 at hpt
    clear ih
    obtain ⟨aoR, capR, hqR, hbR⟩ := hv.out.rd.form
    have r0 := hqR.cell 0 rfl
    have r1 := hqR.cell 1 rfl
    have fr := hqR.free
    have x0 := hv.out.v.cell 0 rfl
    have x1 := hv.out.v.cell 1 rfl
    have x2 := hv.out.v.cell 2 rfl
    have x3 := hv.out.v.cell 3 rfl
    have x4 := hv.out.v.cell 4 rfl
    have x5 := hv.out.v.cell 5 rfl
    have fv := hv.out.v.free
    have z0 := hv.out.z.cell 0 rfl
    have z1 := hv.out.z.cell 1 rfl
    have z2 := hv.out.z.cell 2 rfl
    have z3 := hv.out.z.cell 3 rfl
    have z4 := hv.out.z.cell 4 rfl
    have z5 := hv.out.z.cell 5 rfl
    have fz := hv.out.z.free
    go_wp2_with fail
    refine (hpt.out _).mono ?_
    rintro e w3 ⟨he, hb3⟩
    have hv3 := Lib.hid (hv.out.onB hb3)
    clear hv hb3 hpt
    clear r0 r1 fr hqR hbR
    clear x0 x1 x2 x3 x4 x5 fv z0 z1 z2 z3 z4 z5 fz
    have hv := hv3
    clear hv3
    rcases kindsN k with rfl | rfl | rfl | rfl | rfl | rfl | rfl | rfl | rfl | rfl | rfl | hk10
    · obtain rfl : (0 : Int) = ki := hki.out
      obtain rfl : e = .returned (.iface 98 (.agg #[])) := he
      have hvl : Hid (VlR (m + 1) (c :: L1) false (.mk 0 false 0 ByteArray.empty ByteArray.empty []) L1 false) := Lib.hid (.body (Nat.le_refl _) (fun v s e => by rw [hk.out] at e; simp [bodyD] at e; exact ⟨e.1, e.2, rfl⟩) (fun e => by rw [hk.out] at e; simp [bodyD] at e))
      have tb0 := tb_0_0
      have tb1 := tb_0_1
      have tb2 := tb_0_2
      have tb3 := tb_0_3
      have tb4 := tb_0_4
      have tb5 := tb_0_5
      have tb6 := tb_0_6
      have tb7 := tb_0_7
      have tb8 := tb_0_8
      have x0 := hv.out.v.cell 0 rfl
      have x1 := hv.out.v.cell 1 rfl
      have x2 := hv.out.v.cell 2 rfl
      have x3 := hv.out.v.cell 3 rfl
      have x4 := hv.out.v.cell 4 rfl
      have x5 := hv.out.v.cell 5 rfl
      have fv := hv.out.v.free
      have z0 := hv.out.z.cell 0 rfl
      have z1 := hv.out.z.cell 1 rfl
      have z2 := hv.out.z.cell 2 rfl
      have z3 := hv.out.z.cell 3 rfl
      have z4 := hv.out.z.cell 4 rfl
      have z5 := hv.out.z.cell 5 rfl
      have fz := hv.out.z.free
      go_wp2
      obtain ⟨hf, hrd, hkp, hlf⟩ := hv.out.end (.int .i64 0) (.bool false) (.int .i64 0) (.string ByteArray.empty) (.string ByteArray.empty) (.slice none 0 0) (LF.nil _ _ _)
      exact bodyPost_ret (v := agg6 0 false 0 ByteArray.empty ByteArray.empty (.slice none 0 0)) (results_cell_row rfl _ _ w.heap.size 26 _ (0, 0) _ rfl hf.eq Tryz.underlying26 rfl infoV6) rfl (RdX.mk (x := .mk 0 false 0 ByteArray.empty ByteArray.empty []) hvl.out hrd hkp hlf (by unfold okV In64; refine ⟨?_, ?_, ?_, ?_⟩ <;> first | omega | exact Nat.zero_le _))
    · obtain rfl : (1 : Int) = ki := hki.out
      obtain rfl : e = .returned (.iface 65 (.bool false)) := he
      have ht := Lib.hid (take_call w3 rb L1 false 1 hv.out.rd (by omega))
      rw [show ((1 : Nat) : Int) = 1 from rfl] at ht
      have tb0 := tb_1_0
      have tb1 := tb_1_1
      have tb2 := tb_1_2
      have tb3 := tb_1_3
      have tb4 := tb_1_4
      have tb5 := tb_1_5
      have tb6 := tb_1_6
      have tb7 := tb_1_7
      have tb8 := tb_1_8
      go_wp2_with fail
      refine (ht.out).mono ?_
      rintro e w4 ⟨v, rfl, htk⟩
      obtain ⟨c2, L2, b2, ba, offa, capa, rfl, hc2, hr2, hk2, hor⟩ := take_one htk
      have hv4 := Lib.hid (hv.out.on hk2 hr2)
      clear hv htk ht hk2 hr2
      clear tb0 tb1 tb2 tb3 tb4 tb5 tb6 tb7 tb8
      have hv := hv4
      clear hv4
      obtain ⟨k2, hk2⟩ : ∃ k2, c2.toNat = k2 := ⟨_, rfl⟩
      rw [hk2] at hc2
      have hvl : ∀ q b', (b2 = true → b' = true) → (k2 = 0 → b2 = false → q = false ∧ b' = false) → (k2 = 1 → b2 = false → q = true ∧ b' = false) → (1 < k2 → b' = true) → VlR (m + 1) (c :: L1) false (.mk 1 q 0 ByteArray.empty ByteArray.empty []) L2 b' := by
        intro q b' g1 g2 g3 g4
        rcases hor with ⟨rfl, rfl⟩ | ⟨rfl, rfl, rfl, rfl⟩
        · have hbd : bodyD (valD m) c.toNat (c2 :: L2) = if k2 ≤ 1 then some (.mk 1 (decide (k2 = 1)) 0 ByteArray.empty ByteArray.empty [], L2) else none := by
            rw [hk.out]; unfold bodyD takeB
            simp [beN, hk2]
          refine .body (by simp) (fun v s e => ?_) (fun e => ?_)
          · rw [hbd] at e
            by_cases h0 : k2 ≤ 1
            · rw [if_pos h0] at e
              simp only [Option.some.injEq, Prod.mk.injEq] at e
              obtain ⟨e1, e2⟩ := e
              by_cases h1 : k2 = 1
              · obtain ⟨rfl, h3⟩ := g3 h1 rfl
                rw [decide_eq_true h1] at e1
                exact ⟨e1, e2, h3⟩
              · obtain ⟨rfl, h3⟩ := g2 (by omega) rfl
                rw [decide_eq_false h1] at e1
                exact ⟨e1, e2, h3⟩
            · rw [if_neg h0] at e; cases e
          · rw [hbd] at e
            by_cases h0 : k2 ≤ 1
            · rw [if_pos h0] at e; cases e
            · exact .inl (g4 (by omega))
        · have hbd : bodyD (valD m) c.toNat [] = none := by rw [hk.out]; unfold bodyD takeB; simp
          exact .body (Nat.le_refl _) (fun v s e => by rw [hbd] at e; cases e) (fun _ => .inl (g1 rfl))
      have hk20 : b2 = true → k2 = 0 := by
        intro h
        rcases hor with ⟨_, h2⟩ | ⟨_, h2, _⟩
        · rw [h] at h2; cases h2
        · rw [h2] at hk2; exact hk2.symm
      replace hvl := Lib.hid hvl
      clear hor hk2
      cases b2
      · by_cases h0 : k2 = 0
        · subst h0
          replace hvl := Lib.hid (hvl.out false false (fun h => h) (fun _ _ => ⟨rfl, rfl⟩) (fun h => by omega) (fun h => by omega))
          obtain ⟨aoR, capR, hqR, hbR⟩ := hv.out.rd.form
          have r0 := hqR.cell 0 rfl
          have r1 := hqR.cell 1 rfl
          have fr := hqR.free
          have x0 := hv.out.v.cell 0 rfl
          have x1 := hv.out.v.cell 1 rfl
          have x2 := hv.out.v.cell 2 rfl
          have x3 := hv.out.v.cell 3 rfl
          have x4 := hv.out.v.cell 4 rfl
          have x5 := hv.out.v.cell 5 rfl
          have fv := hv.out.v.free
          have z0 := hv.out.z.cell 0 rfl
          have z1 := hv.out.z.cell 1 rfl
          have z2 := hv.out.z.cell 2 rfl
          have z3 := hv.out.z.cell 3 rfl
          have z4 := hv.out.z.cell 4 rfl
          have z5 := hv.out.z.cell 5 rfl
          have fz := hv.out.z.free
          clear hqR hbR
          go_upto_region 9 with (fail)
          have hv5 := Lib.hid (hv.out.set 1 (.bool false))
          clear hv r0 r1 fr hc2
          clear x0 x1 x2 x3 x4 x5 fv z0 z1 z2 z3 z4 z5 fz
          generalize (w4.setCell ⟨g, 1, none⟩ (.bool false)) = w5 at *
          have hv := hv5
          clear hv5
          obtain ⟨aoR, capR, hqR, hbR⟩ := hv.out.rd.form
          have r0 := hqR.cell 0 rfl
          have r1 := hqR.cell 1 rfl
          have fr := hqR.free
          clear hqR hbR
          go_upto_region 23 with (fail)
          have hv6 := Lib.hid (hv.out.bad false)
          clear hv r0 r1 fr
          generalize (w5.setCell ⟨rb, 1, none⟩ (.bool false)) = w6 at *
          have hv := hv6
          clear hv6
          have x0 := hv.out.v.cell 0 rfl
          have x1 := hv.out.v.cell 1 rfl
          have x2 := hv.out.v.cell 2 rfl
          have x3 := hv.out.v.cell 3 rfl
          have x4 := hv.out.v.cell 4 rfl
          have x5 := hv.out.v.cell 5 rfl
          have fv := hv.out.v.free
          have z0 := hv.out.z.cell 0 rfl
          have z1 := hv.out.z.cell 1 rfl
          have z2 := hv.out.z.cell 2 rfl
          have z3 := hv.out.z.cell 3 rfl
          have z4 := hv.out.z.cell 4 rfl
          have z5 := hv.out.z.cell 5 rfl
          have fz := hv.out.z.free
          go_wp2
          obtain ⟨hf, hrd, hkp, hlf⟩ := hv.out.end (.int .i64 1) (.bool false) (.int .i64 0) (.string ByteArray.empty) (.string ByteArray.empty) (.slice none 0 0) (LF.nil _ _ _)
          exact bodyPost_ret (v := agg6 1 false 0 ByteArray.empty ByteArray.empty (.slice none 0 0)) (results_cell_row rfl _ _ w.heap.size 26 _ (0, 0) _ rfl hf.eq Tryz.underlying26 rfl infoV6) rfl (RdX.mk (x := .mk 1 false 0 ByteArray.empty ByteArray.empty []) hvl.out hrd hkp hlf (by unfold okV In64; refine ⟨?_, ?_, ?_, ?_⟩ <;> first | omega | exact Nat.zero_le _))
        by_cases h1 : k2 = 1
        · subst h1
          replace hvl := Lib.hid (hvl.out true false (fun h => h) (fun h => by omega) (fun _ _ => ⟨rfl, rfl⟩) (fun h => by omega))
          obtain ⟨aoR, capR, hqR, hbR⟩ := hv.out.rd.form
          have r0 := hqR.cell 0 rfl
          have r1 := hqR.cell 1 rfl
          have fr := hqR.free
          have x0 := hv.out.v.cell 0 rfl
          have x1 := hv.out.v.cell 1 rfl
          have x2 := hv.out.v.cell 2 rfl
          have x3 := hv.out.v.cell 3 rfl
          have x4 := hv.out.v.cell 4 rfl
          have x5 := hv.out.v.cell 5 rfl
          have fv := hv.out.v.free
          have z0 := hv.out.z.cell 0 rfl
          have z1 := hv.out.z.cell 1 rfl
          have z2 := hv.out.z.cell 2 rfl
          have z3 := hv.out.z.cell 3 rfl
          have z4 := hv.out.z.cell 4 rfl
          have z5 := hv.out.z.cell 5 rfl
          have fz := hv.out.z.free
          clear hqR hbR
          go_upto_region 9 with (fail)
          have hv5 := Lib.hid (hv.out.set 1 (.bool true))
          clear hv r0 r1 fr hc2
          clear x0 x1 x2 x3 x4 x5 fv z0 z1 z2 z3 z4 z5 fz
          generalize (w4.setCell ⟨g, 1, none⟩ (.bool true)) = w5 at *
          have hv := hv5
          clear hv5
          obtain ⟨aoR, capR, hqR, hbR⟩ := hv.out.rd.form
          have r0 := hqR.cell 0 rfl
          have r1 := hqR.cell 1 rfl
          have fr := hqR.free
          clear hqR hbR
          go_upto_region 23 with (fail)
          have hv6 := Lib.hid (hv.out.bad false)
          clear hv r0 r1 fr
          generalize (w5.setCell ⟨rb, 1, none⟩ (.bool false)) = w6 at *
          have hv := hv6
          clear hv6
          have x0 := hv.out.v.cell 0 rfl
          have x1 := hv.out.v.cell 1 rfl
          have x2 := hv.out.v.cell 2 rfl
          have x3 := hv.out.v.cell 3 rfl
          have x4 := hv.out.v.cell 4 rfl
          have x5 := hv.out.v.cell 5 rfl
          have fv := hv.out.v.free
          have z0 := hv.out.z.cell 0 rfl
          have z1 := hv.out.z.cell 1 rfl
          have z2 := hv.out.z.cell 2 rfl
          have z3 := hv.out.z.cell 3 rfl
          have z4 := hv.out.z.cell 4 rfl
          have z5 := hv.out.z.cell 5 rfl
          have fz := hv.out.z.free
          go_wp2
          obtain ⟨hf, hrd, hkp, hlf⟩ := hv.out.end (.int .i64 1) (.bool true) (.int .i64 0) (.string ByteArray.empty) (.string ByteArray.empty) (.slice none 0 0) (LF.nil _ _ _)
          exact bodyPost_ret (v := agg6 1 true 0 ByteArray.empty ByteArray.empty (.slice none 0 0)) (results_cell_row rfl _ _ w.heap.size 26 _ (0, 0) _ rfl hf.eq Tryz.underlying26 rfl infoV6) rfl (RdX.mk (x := .mk 1 true 0 ByteArray.empty ByteArray.empty []) hvl.out hrd hkp hlf (by unfold okV In64; refine ⟨?_, ?_, ?_, ?_⟩ <;> first | omega | exact Nat.zero_le _))
        · replace hvl := Lib.hid (hvl.out false true (fun _ => rfl) (fun h => by omega) (fun h => by omega) (fun _ => rfl))
          obtain ⟨ci, hci⟩ : ∃ ci : Int, (k2 : Int) = ci := ⟨_, rfl⟩
          have q1 : (ci == 1) = false := beq_eq_false_iff_ne.2 (by omega)
          have q2 : 1 < ci := by omega
          rw [hci] at hc2
          clear hci h0 h1
          obtain ⟨aoR, capR, hqR, hbR⟩ := hv.out.rd.form
          have r0 := hqR.cell 0 rfl
          have r1 := hqR.cell 1 rfl
          have fr := hqR.free
          have x0 := hv.out.v.cell 0 rfl
          have x1 := hv.out.v.cell 1 rfl
          have x2 := hv.out.v.cell 2 rfl
          have x3 := hv.out.v.cell 3 rfl
          have x4 := hv.out.v.cell 4 rfl
          have x5 := hv.out.v.cell 5 rfl
          have fv := hv.out.v.free
          have z0 := hv.out.z.cell 0 rfl
          have z1 := hv.out.z.cell 1 rfl
          have z2 := hv.out.z.cell 2 rfl
          have z3 := hv.out.z.cell 3 rfl
          have z4 := hv.out.z.cell 4 rfl
          have z5 := hv.out.z.cell 5 rfl
          have fz := hv.out.z.free
          clear hqR hbR
          go_upto_region 9 with (fail)
          have hv5 := Lib.hid (hv.out.set 1 (.bool false))
          clear hv r0 r1 fr hc2
          clear x0 x1 x2 x3 x4 x5 fv z0 z1 z2 z3 z4 z5 fz
          generalize (w4.setCell ⟨g, 1, none⟩ (.bool false)) = w5 at *
          have hv := hv5
          clear hv5
          obtain ⟨aoR, capR, hqR, hbR⟩ := hv.out.rd.form
          have r0 := hqR.cell 0 rfl
          have r1 := hqR.cell 1 rfl
          have fr := hqR.free
          clear hqR hbR
          go_upto_region 23 with (fail)
          have hv6 := Lib.hid (hv.out.bad true)
          clear hv r0 r1 fr
          generalize (w5.setCell ⟨rb, 1, none⟩ (.bool true)) = w6 at *
          have hv := hv6
          clear hv6
          have x0 := hv.out.v.cell 0 rfl
          have x1 := hv.out.v.cell 1 rfl
          have x2 := hv.out.v.cell 2 rfl
          have x3 := hv.out.v.cell 3 rfl
          have x4 := hv.out.v.cell 4 rfl
          have x5 := hv.out.v.cell 5 rfl
          have fv := hv.out.v.free
          have z0 := hv.out.z.cell 0 rfl
          have z1 := hv.out.z.cell 1 rfl
          have z2 := hv.out.z.cell 2 rfl
          have z3 := hv.out.z.cell 3 rfl
          have z4 := hv.out.z.cell 4 rfl
          have z5 := hv.out.z.cell 5 rfl
          have fz := hv.out.z.free
          go_wp2
          obtain ⟨hf, hrd, hkp, hlf⟩ := hv.out.end (.int .i64 1) (.bool false) (.int .i64 0) (.string ByteArray.empty) (.string ByteArray.empty) (.slice none 0 0) (LF.nil _ _ _)
          exact bodyPost_ret (v := agg6 1 false 0 ByteArray.empty ByteArray.empty (.slice none 0 0)) (results_cell_row rfl _ _ w.heap.size 26 _ (0, 0) _ rfl hf.eq Tryz.underlying26 rfl infoV6) rfl (RdX.mk (x := .mk 1 false 0 ByteArray.empty ByteArray.empty []) hvl.out hrd hkp hlf (by unfold okV In64; refine ⟨?_, ?_, ?_, ?_⟩ <;> first | omega | exact Nat.zero_le _))
      · obtain rfl : k2 = 0 := hk20 rfl
        replace hvl := Lib.hid (hvl.out false true (fun _ => rfl) (fun _ h => by cases h) (fun h => by omega) (fun h => by omega))
        obtain ⟨aoR, capR, hqR, hbR⟩ := hv.out.rd.form
        have r0 := hqR.cell 0 rfl
        have r1 := hqR.cell 1 rfl
        have fr := hqR.free
        have x0 := hv.out.v.cell 0 rfl
        have x1 := hv.out.v.cell 1 rfl
        have x2 := hv.out.v.cell 2 rfl
        have x3 := hv.out.v.cell 3 rfl
        have x4 := hv.out.v.cell 4 rfl
        have x5 := hv.out.v.cell 5 rfl
        have fv := hv.out.v.free
        have z0 := hv.out.z.cell 0 rfl
        have z1 := hv.out.z.cell 1 rfl
        have z2 := hv.out.z.cell 2 rfl
        have z3 := hv.out.z.cell 3 rfl
        have z4 := hv.out.z.cell 4 rfl
        have z5 := hv.out.z.cell 5 rfl
        have fz := hv.out.z.free
        clear hqR hbR
        go_upto_region 9 with (fail)
        have hv5 := Lib.hid (hv.out.set 1 (.bool false))
        clear hv r0 r1 fr hc2
        clear x0 x1 x2 x3 x4 x5 fv z0 z1 z2 z3 z4 z5 fz
        generalize (w4.setCell ⟨g, 1, none⟩ (.bool false)) = w5 at *
        have hv := hv5
        clear hv5
        obtain ⟨aoR, capR, hqR, hbR⟩ := hv.out.rd.form
        have r0 := hqR.cell 0 rfl
        have r1 := hqR.cell 1 rfl
        have fr := hqR.free
        clear hqR hbR
        go_upto_region 23 with (fail)
        have hv6 := Lib.hid (hv.out.bad true)
        clear hv r0 r1 fr
        generalize (w5.setCell ⟨rb, 1, none⟩ (.bool true)) = w6 at *
        have hv := hv6
        clear hv6
        have x0 := hv.out.v.cell 0 rfl
        have x1 := hv.out.v.cell 1 rfl
        have x2 := hv.out.v.cell 2 rfl
        have x3 := hv.out.v.cell 3 rfl
        have x4 := hv.out.v.cell 4 rfl
        have x5 := hv.out.v.cell 5 rfl
        have fv := hv.out.v.free
        have z0 := hv.out.z.cell 0 rfl
        have z1 := hv.out.z.cell 1 rfl
        have z2 := hv.out.z.cell 2 rfl
        have z3 := hv.out.z.cell 3 rfl
        have z4 := hv.out.z.cell 4 rfl
        have z5 := hv.out.z.cell 5 rfl
        have fz := hv.out.z.free
        go_wp2
        obtain ⟨hf, hrd, hkp, hlf⟩ := hv.out.end (.int .i64 1) (.bool false) (.int .i64 0) (.string ByteArray.empty) (.string ByteArray.empty) (.slice none 0 0) (LF.nil _ _ _)
        exact bodyPost_ret (v := agg6 1 false 0 ByteArray.empty ByteArray.empty (.slice none 0 0)) (results_cell_row rfl _ _ w.heap.size 26 _ (0, 0) _ rfl hf.eq Tryz.underlying26 rfl infoV6) rfl (RdX.mk (x := .mk 1 false 0 ByteArray.empty ByteArray.empty []) hvl.out hrd hkp hlf (by unfold okV In64; refine ⟨?_, ?_, ?_, ?_⟩ <;> first | omega | exact Nat.zero_le _))
    · obtain rfl : (2 : Int) = ki := hki.out
      obtain rfl : e = .returned (.iface 66 (.int .i64 0)) := he
      have ht := take_call w3 rb L1 false 8 hv.out.rd (by omega)
      rw [show ((8 : Nat) : Int) = 8 from rfl] at ht
      unfold Tk at ht
      obtain ⟨D, hD⟩ : ∃ D, (if 8 ≤ L1.length then L1.take 8 else List.replicate (min 8 8) 0) = D := ⟨_, rfl⟩
      obtain ⟨L2, hL2⟩ : ∃ L2, (if 8 ≤ L1.length then L1.drop 8 else L1) = L2 := ⟨_, rfl⟩
      obtain ⟨b2, hb2⟩ : ∃ b2, (if 8 ≤ L1.length then false else true) = b2 := ⟨_, rfl⟩
      rw [hD, hL2, hb2] at ht
      have hDl : D.length ≤ 8 := by
        rw [← hD]
        split
        · rw [List.length_take]; omega
        · decide
      obtain ⟨z, hz⟩ : ∃ z, IntKind.i64.wrap (beN D : Int) = z := ⟨_, rfl⟩
      have hzi : In64 z := by rw [← hz, IntKind.wrap_i64]; unfold In64; omega
      have hvl : Hid (VlR (m + 1) (c :: L1) false (.mk 2 false z ByteArray.empty ByteArray.empty []) L2 b2) := Lib.hid (by
        by_cases h8 : 8 ≤ L1.length
        · rw [if_pos h8] at hD hL2 hb2
          have hbd : bodyD (valD m) c.toNat L1 = some (.mk 2 false z ByteArray.empty ByteArray.empty [], L2) := by
            rw [hk.out]; unfold bodyD takeB
            rw [if_pos h8, hD, hL2]
            simp [hz]
          exact .body (by rw [← hL2, List.length_drop]; omega) (fun v s e => by rw [hbd] at e; simp only [Option.some.injEq, Prod.mk.injEq] at e; exact ⟨e.1, e.2, hb2.symm⟩) (fun e => by rw [hbd] at e; cases e)
        · rw [if_neg h8] at hD hL2 hb2
          have hbd : bodyD (valD m) c.toNat L1 = none := by
            rw [hk.out]; unfold bodyD takeB
            rw [if_neg h8]
            simp
          exact .body (by rw [← hL2]; exact Nat.le_refl _) (fun v s e => by rw [hbd] at e; cases e) (fun _ => .inl hb2.symm))
      replace ht := Lib.hid ht
      replace hD := Lib.hid hD
      clear hL2 hb2
      have tb0 := tb_2_0
      have tb1 := tb_2_1
      have tb2 := tb_2_2
      have tb3 := tb_2_3
      have tb4 := tb_2_4
      have tb5 := tb_2_5
      have tb6 := tb_2_6
      have tb7 := tb_2_7
      have tb8 := tb_2_8
      go_wp2_with fail
      refine (ht.out).mono ?_
      rintro e w4 ⟨v, rfl, hbv, hr2, hk2⟩
      have hn8 := number8_call w4 _ v D hbv hDl
      have hv4 := Lib.hid (hv.out.on hk2 hr2)
      generalize beN D = Nn at *
      rw [IntWalk.i64_left] at hz
      replace hn8 := Lib.hid hn8
      clear hv ht hk2 hr2 hbv hD
      clear tb0 tb1 tb2 tb3 tb4 tb5 tb6 tb7 tb8
      have hv := hv4
      clear hv4
      have x0 := hv.out.v.cell 0 rfl
      have x1 := hv.out.v.cell 1 rfl
      have x2 := hv.out.v.cell 2 rfl
      have x3 := hv.out.v.cell 3 rfl
      have x4 := hv.out.v.cell 4 rfl
      have x5 := hv.out.v.cell 5 rfl
      have fv := hv.out.v.free
      have z0 := hv.out.z.cell 0 rfl
      have z1 := hv.out.z.cell 1 rfl
      have z2 := hv.out.z.cell 2 rfl
      have z3 := hv.out.z.cell 3 rfl
      have z4 := hv.out.z.cell 4 rfl
      have z5 := hv.out.z.cell 5 rfl
      have fz := hv.out.z.free
      go_wp2_with fail
      refine (hn8.out).mono ?_
      rintro e w5 ⟨rfl, hw5⟩
      rw [hw5]
      clear hw5 hn8
      go_upto_region 23 with (fail)
      have hv6 := Lib.hid (hv.out.set 2 (.int .i64 z))
      clear hv
      clear x0 x1 x2 x3 x4 x5 fv z0 z1 z2 z3 z4 z5 fz
      generalize (w4.setCell ⟨g, 2, none⟩ (.int .i64 z)) = w6 at *
      have hv := hv6
      clear hv6
      unfold In64 at hzi
      have x0 := hv.out.v.cell 0 rfl
      have x1 := hv.out.v.cell 1 rfl
      have x2 := hv.out.v.cell 2 rfl
      have x3 := hv.out.v.cell 3 rfl
      have x4 := hv.out.v.cell 4 rfl
      have x5 := hv.out.v.cell 5 rfl
      have fv := hv.out.v.free
      have z0 := hv.out.z.cell 0 rfl
      have z1 := hv.out.z.cell 1 rfl
      have z2 := hv.out.z.cell 2 rfl
      have z3 := hv.out.z.cell 3 rfl
      have z4 := hv.out.z.cell 4 rfl
      have z5 := hv.out.z.cell 5 rfl
      have fz := hv.out.z.free
      go_wp2
      obtain ⟨hf, hrd, hkp, hlf⟩ := hv.out.end (.int .i64 2) (.bool false) (.int .i64 z) (.string ByteArray.empty) (.string ByteArray.empty) (.slice none 0 0) (LF.nil _ _ _)
      exact bodyPost_ret (v := agg6 2 false z ByteArray.empty ByteArray.empty (.slice none 0 0)) (results_cell_row rfl _ _ w.heap.size 26 _ (0, 0) _ rfl hf.eq Tryz.underlying26 rfl infoV6) rfl (RdX.mk (x := .mk 2 false z ByteArray.empty ByteArray.empty []) hvl.out hrd hkp hlf (by unfold okV In64; refine ⟨?_, ?_, ?_, ?_⟩ <;> first | omega | exact Nat.zero_le _))
    · obtain rfl : (3 : Int) = ki := hki.out
      obtain rfl : e = .returned (.iface 70 (.string ⟨#[]⟩)) := he
      have ht := Lib.hid (rdtext_call w3 rb L1 false hv.out.rd)
      have tb0 := tb_3_0
      have tb1 := tb_3_1
      have tb2 := tb_3_2
      have tb3 := tb_3_3
      have tb4 := tb_3_4
      have tb5 := tb_3_5
      have tb6 := tb_3_6
      have tb7 := tb_3_7
      have tb8 := tb_3_8
      go_wp2_with fail
      refine (ht.out).mono ?_
      rintro e w4 ⟨t, L2, b2, rfl, htx, hr2, hk2⟩
      have hvl : Hid (VlR (m + 1) (c :: L1) false (.mk 3 false 0 t ByteArray.empty []) L2 b2) := Lib.hid (by
        have hbd : bodyD (valD m) c.toNat L1 = (txtD L1).bind fun p => some (.mk 3 false 0 p.1 ByteArray.empty [], p.2) := by
          rw [hk.out]; unfold bodyD; simp
        refine .body htx.le (fun v s e => ?_) (fun e => .inl (htx.no rfl ?_))
        · rw [hbd] at e
          cases h1 : txtD L1 with
          | none => rw [h1] at e; cases e
          | some p =>
            obtain ⟨t0, r0⟩ := p
            rw [h1] at e
            simp only [Option.bind_some, Option.some.injEq, Prod.mk.injEq] at e
            obtain ⟨rfl, rfl, rfl⟩ := htx.yes rfl t0 r0 h1
            exact ⟨e.1, e.2, rfl⟩
        · rw [hbd] at e
          cases h1 : txtD L1 with
          | none => rfl
          | some p => rw [h1] at e; cases e)
      have hszt := htx.sz.1
      have hv4 := Lib.hid (hv.out.on hk2 hr2)
      clear hv ht hr2 hk2
      clear tb0 tb1 tb2 tb3 tb4 tb5 tb6 tb7 tb8
      have hv := hv4
      clear hv4
      have x0 := hv.out.v.cell 0 rfl
      have x1 := hv.out.v.cell 1 rfl
      have x2 := hv.out.v.cell 2 rfl
      have x3 := hv.out.v.cell 3 rfl
      have x4 := hv.out.v.cell 4 rfl
      have x5 := hv.out.v.cell 5 rfl
      have fv := hv.out.v.free
      have z0 := hv.out.z.cell 0 rfl
      have z1 := hv.out.z.cell 1 rfl
      have z2 := hv.out.z.cell 2 rfl
      have z3 := hv.out.z.cell 3 rfl
      have z4 := hv.out.z.cell 4 rfl
      have z5 := hv.out.z.cell 5 rfl
      have fz := hv.out.z.free
      go_upto_region 23 with (fail)
      have hv6 := Lib.hid (hv.out.set 3 (.string t))
      clear hv
      clear x0 x1 x2 x3 x4 x5 fv z0 z1 z2 z3 z4 z5 fz
      generalize (w4.setCell ⟨g, 3, none⟩ (.string t)) = w6 at *
      have hv := hv6
      clear hv6
      have x0 := hv.out.v.cell 0 rfl
      have x1 := hv.out.v.cell 1 rfl
      have x2 := hv.out.v.cell 2 rfl
      have x3 := hv.out.v.cell 3 rfl
      have x4 := hv.out.v.cell 4 rfl
      have x5 := hv.out.v.cell 5 rfl
      have fv := hv.out.v.free
      have z0 := hv.out.z.cell 0 rfl
      have z1 := hv.out.z.cell 1 rfl
      have z2 := hv.out.z.cell 2 rfl
      have z3 := hv.out.z.cell 3 rfl
      have z4 := hv.out.z.cell 4 rfl
      have z5 := hv.out.z.cell 5 rfl
      have fz := hv.out.z.free
      go_wp2
      obtain ⟨hf, hrd, hkp, hlf⟩ := hv.out.end (.int .i64 3) (.bool false) (.int .i64 0) (.string t) (.string ByteArray.empty) (.slice none 0 0) (LF.nil _ _ _)
      exact bodyPost_ret (v := agg6 3 false 0 t ByteArray.empty (.slice none 0 0)) (results_cell_row rfl _ _ w.heap.size 26 _ (0, 0) _ rfl hf.eq Tryz.underlying26 rfl infoV6) rfl (RdX.mk (x := .mk 3 false 0 t ByteArray.empty []) hvl.out hrd hkp hlf (by unfold okV In64; refine ⟨?_, ?_, ?_, ?_⟩ <;> first | omega | exact Nat.zero_le _))
    · obtain rfl : (4 : Int) = ki := hki.out
      obtain rfl : e = .returned (.iface 71 (.string ⟨#[]⟩)) := he
      have ht := Lib.hid (rdtext_call w3 rb L1 false hv.out.rd)
      have tb0 := tb_4_0
      have tb1 := tb_4_1
      have tb2 := tb_4_2
      have tb3 := tb_4_3
      have tb4 := tb_4_4
      have tb5 := tb_4_5
      have tb6 := tb_4_6
      have tb7 := tb_4_7
      have tb8 := tb_4_8
      go_wp2_with fail
      refine (ht.out).mono ?_
      rintro e w4 ⟨t, L2, b2, rfl, htx, hr2, hk2⟩
      have hvl : Hid (VlR (m + 1) (c :: L1) false (.mk 4 false 0 t ByteArray.empty []) L2 b2) := Lib.hid (by
        have hbd : bodyD (valD m) c.toNat L1 = (txtD L1).bind fun p => some (.mk 4 false 0 p.1 ByteArray.empty [], p.2) := by
          rw [hk.out]; unfold bodyD; simp
        refine .body htx.le (fun v s e => ?_) (fun e => .inl (htx.no rfl ?_))
        · rw [hbd] at e
          cases h1 : txtD L1 with
          | none => rw [h1] at e; cases e
          | some p =>
            obtain ⟨t0, r0⟩ := p
            rw [h1] at e
            simp only [Option.bind_some, Option.some.injEq, Prod.mk.injEq] at e
            obtain ⟨rfl, rfl, rfl⟩ := htx.yes rfl t0 r0 h1
            exact ⟨e.1, e.2, rfl⟩
        · rw [hbd] at e
          cases h1 : txtD L1 with
          | none => rfl
          | some p => rw [h1] at e; cases e)
      have hszt := htx.sz.1
      have hv4 := Lib.hid (hv.out.on hk2 hr2)
      clear hv ht hr2 hk2
      clear tb0 tb1 tb2 tb3 tb4 tb5 tb6 tb7 tb8
      have hv := hv4
      clear hv4
      have x0 := hv.out.v.cell 0 rfl
      have x1 := hv.out.v.cell 1 rfl
      have x2 := hv.out.v.cell 2 rfl
      have x3 := hv.out.v.cell 3 rfl
      have x4 := hv.out.v.cell 4 rfl
      have x5 := hv.out.v.cell 5 rfl
      have fv := hv.out.v.free
      have z0 := hv.out.z.cell 0 rfl
      have z1 := hv.out.z.cell 1 rfl
      have z2 := hv.out.z.cell 2 rfl
      have z3 := hv.out.z.cell 3 rfl
      have z4 := hv.out.z.cell 4 rfl
      have z5 := hv.out.z.cell 5 rfl
      have fz := hv.out.z.free
      go_upto_region 23 with (fail)
      have hv6 := Lib.hid (hv.out.set 3 (.string t))
      clear hv
      clear x0 x1 x2 x3 x4 x5 fv z0 z1 z2 z3 z4 z5 fz
      generalize (w4.setCell ⟨g, 3, none⟩ (.string t)) = w6 at *
      have hv := hv6
      clear hv6
      have x0 := hv.out.v.cell 0 rfl
      have x1 := hv.out.v.cell 1 rfl
      have x2 := hv.out.v.cell 2 rfl
      have x3 := hv.out.v.cell 3 rfl
      have x4 := hv.out.v.cell 4 rfl
      have x5 := hv.out.v.cell 5 rfl
      have fv := hv.out.v.free
      have z0 := hv.out.z.cell 0 rfl
      have z1 := hv.out.z.cell 1 rfl
      have z2 := hv.out.z.cell 2 rfl
      have z3 := hv.out.z.cell 3 rfl
      have z4 := hv.out.z.cell 4 rfl
      have z5 := hv.out.z.cell 5 rfl
      have fz := hv.out.z.free
      go_wp2
      obtain ⟨hf, hrd, hkp, hlf⟩ := hv.out.end (.int .i64 4) (.bool false) (.int .i64 0) (.string t) (.string ByteArray.empty) (.slice none 0 0) (LF.nil _ _ _)
      exact bodyPost_ret (v := agg6 4 false 0 t ByteArray.empty (.slice none 0 0)) (results_cell_row rfl _ _ w.heap.size 26 _ (0, 0) _ rfl hf.eq Tryz.underlying26 rfl infoV6) rfl (RdX.mk (x := .mk 4 false 0 t ByteArray.empty []) hvl.out hrd hkp hlf (by unfold okV In64; refine ⟨?_, ?_, ?_, ?_⟩ <;> first | omega | exact Nat.zero_le _))
    · obtain rfl : (5 : Int) = ki := hki.out
      obtain rfl : e = .returned (.iface 75 (.slice none 0 0)) := he
      obtain rfl : c = 5 := UInt8.toNat_inj.1 hk.out
      have ht := count_call w3 rb L1 false 4096 hv.out.rd (by omega)
      rw [show ((4096 : Nat) : Int) = 4096 from rfl] at ht
      obtain ⟨⟨n, L2, b2⟩, hcs⟩ : ∃ x, cntS 4096 L1 false = x := ⟨_, rfl⟩
      rw [hcs] at ht
      dsimp only at ht
      have hcs2 : n ≤ 4096 ∧ L2.length ≤ L1.length ∧ ((b2 = false ∧ takeB 4 L1 = some (L1.take 4, L2) ∧ beN (L1.take 4) = n) ∨ (b2 = true ∧ n = 0 ∧ bodyD (valD m) 5 L1 = none)) := by
        unfold cntS at hcs
        by_cases h4 : 4 ≤ L1.length
        · rw [if_pos h4] at hcs
          by_cases hb : 4096 < beN (L1.take 4)
          · rw [if_pos hb] at hcs
            injection hcs with e1 e2; injection e2 with e3 e4
            subst e1 e3 e4
            refine ⟨by omega, by rw [List.length_drop]; omega, .inr ⟨rfl, rfl, ?_⟩⟩
            rw [bodyD_list, show takeB 4 L1 = some (L1.take 4, L1.drop 4) from if_pos h4]
            simp only [Option.bind_some]
            rw [if_neg (by omega)]
          · rw [if_neg hb] at hcs
            injection hcs with e1 e2; injection e2 with e3 e4
            subst e1 e3 e4
            exact ⟨by omega, by rw [List.length_drop]; omega, .inl ⟨rfl, if_pos h4, rfl⟩⟩
        · rw [if_neg h4] at hcs
          injection hcs with e1 e2; injection e2 with e3 e4
          subst e1 e3 e4
          refine ⟨by omega, Nat.le_refl _, .inr ⟨rfl, rfl, ?_⟩⟩
          rw [bodyD_list, show takeB 4 L1 = none from if_neg h4]
          rfl
      obtain ⟨hn, hl2, hcs3⟩ := hcs2
      have hend : ∀ (j : Nat) (xs : List V) (Li : List UInt8) (bi : Bool), (b2 = false → LsR m j L2 xs Li bi) → (b2 = true → xs = [] ∧ Li = L2 ∧ bi = true) → (j = n ∨ (j ≤ n ∧ bi = true)) → VlR (m + 1) (5 :: L1) false (.mk 5 false 0 ByteArray.empty ByteArray.empty xs) Li bi := by
        intro j xs Li bi g1 g2 g3
        rcases hcs3 with ⟨h1, h2, h3⟩ | ⟨h1, h2, h3⟩
        · exact .list hl2 h2 h3 hn (g1 h1) g3
        · obtain ⟨rfl, rfl, rfl⟩ := g2 h1
          exact .body hl2 (fun v s e => by rw [show (5 : UInt8).toNat = 5 from rfl, h3] at e; cases e) (fun _ => .inl rfl)
      have hb2n : b2 = true → n = 0 := by
        intro h
        rcases hcs3 with ⟨h1, _⟩ | ⟨_, h2, _⟩
        · rw [h] at h1; cases h1
        · exact h2
      replace hend := Lib.hid hend
      replace hb2n := Lib.hid hb2n
      replace ht := Lib.hid ht
      clear hcs hcs3 hk hki hcv hk256
      have tb0 := tb_5_0
      have tb1 := tb_5_1
      have tb2 := tb_5_2
      have tb3 := tb_5_3
      have tb4 := tb_5_4
      have tb5 := tb_5_5
      have tb6 := tb_5_6
      have tb7 := tb_5_7
      have tb8 := tb_5_8
      go_wp2_with fail
      refine (ht.out).mono ?_
      rintro e w4 ⟨rfl, hr2, hk2⟩
      have hv4 := Lib.hid (hv.out.on hk2 hr2)
      have hws : w.heap.size + 1 ≤ w4.heap.size := by have := hv4.out.v.lt; have := hv4.out.lt; omega
      clear hv ht hr2 hk2
      clear tb0 tb1 tb2 tb3 tb4 tb5 tb6 tb7 tb8
      go_wp2
      go_loopw [84] (fun v wr => ∃ (j : Nat) (xs : List V) (Li : List UInt8) (bi : Bool) (sv : Value), j ≤ n ∧ v = .int .i64 j ∧ Hid (b2 = false → LsR m j L2 xs Li bi) ∧ Hid (b2 = true → xs = [] ∧ Li = L2 ∧ bi = true) ∧ Hid (xs.length ≤ j) ∧ Hid (RV 43 w rb wr g #[.int .i64 5, .bool false, .int .i64 0, .string ByteArray.empty, .string ByteArray.empty, sv] Li bi) ∧ Hid (LF wr 1048576 (Fr (g + 1) wr) sv xs)) (fun v _ => n - (intOf v).toNat)
      case atStart => exact ⟨0, [], L2, b2, _, Nat.zero_le _, rfl, (fun h => .start m L2 b2 h), (fun h => ⟨rfl, rfl, h⟩), Nat.le_refl _, hv4, LF.nil _ _ _⟩
      case round =>
        clear hv4
        obtain ⟨j, xs, Li, bi, sv, hj, rfl, g1, g2, hxl, hv, hlf⟩ := hrel
        obtain ⟨wx, rfl⟩ : ∃ wx : World, wx = wr := ⟨_, rfl⟩
        by_cases hlt : j < n
        · have hji : (j : Int) < (n : Int) := by omega
          have hb2f : b2 = false := by
            cases b2
            · rfl
            · have := hb2n.out rfl; omega
          cases bi
          · obtain ⟨aoR, capR, hqR, hbR⟩ := hv.out.rd.form
            have r0 := hqR.cell 0 rfl
            have r1 := hqR.cell 1 rfl
            have fr := hqR.free
            go_upto_region 21 with (fail)
            clear r0 r1 fr hqR hbR
            have hvd : RV 43 w rb wx.drew g #[.int .i64 5, .bool false, .int .i64 0, .string ByteArray.empty, .string ByteArray.empty, sv] Li false := hv.out.onB (below_drewN (Below.refl _ _) 1)
            have hlfd := (hlf.out.stay (w' := wx.drew) fun b hS hlt => rfl).mono (S' := Fr (g + 1) wx.drew) fun b hb => hb
            have hS0 : Blk wx.drew g #[.int .i64 5, .bool false, .int .i64 0, .string ByteArray.empty, .string ByteArray.empty, sv] 26 := hvd.v
            clear hv hlf
            refine wp_region_late [9] (S := fun V => Blk V g #[.int .i64 5, .bool false, .int .i64 0, .string ByteArray.empty, .string ByteArray.empty, sv] 26) (by kernel_rfl) hS0 (fun hS => ?_)
            clear hS0
            generalize wx.drew = V0 at *
            have hcall := Lib.hid (ihm.out V0 rb Li false (deep + 1) (by have := hdeep.out; omega) (by omega) hvd.rd)
            have hgl := hvd.lt
            have hrl' := hvd.rl
            have hgs := hvd.v.lt
            refine wpAnyL_take (i := 0) (v := ?_) rfl (by kernel_rfl) (by kernel_rfl) (by kernel_rfl) (by kernel_rfl) (by kernel_rfl) (fun _ _ _ h => h) (.inl ⟨by kernel_rfl, fun w' hS => ?_⟩) hS ?_
            rotate_left
            ·
              skip
              go_simp
              try with_reducible rfl
            simp only [List.getElem_toArray, List.getElem_cons_succ, List.getElem_cons_zero, Act.put, List.setIfInBounds_toArray, List.set_cons_zero, List.set_cons_succ]
            refine wpAnyL_take (i := 1) (v := ?_) rfl (by kernel_rfl) (by kernel_rfl) (by kernel_rfl) (by kernel_rfl) (by kernel_rfl) (fun _ _ _ h => h) (.inl ⟨by kernel_rfl, fun w' hS => ?_⟩) hS ?_
            rotate_left
            ·
              have x5 := hS.cell 5 rfl
              go_simp
              try with_reducible rfl
            simp only [List.getElem_toArray, List.getElem_cons_succ, List.getElem_cons_zero, Act.put, List.setIfInBounds_toArray, List.set_cons_zero, List.set_cons_succ]
            refine wpAnyL_take (i := 2) (v := ?_) rfl (by kernel_rfl) (by kernel_rfl) (by kernel_rfl) (by kernel_rfl) (by kernel_rfl) (fun _ _ _ h => h) (.inl ⟨by kernel_rfl, fun w' hS => ?_⟩) hS ?_
            rotate_left
            ·
              skip
              go_simp
              try with_reducible rfl
            simp only [List.getElem_toArray, List.getElem_cons_succ, List.getElem_cons_zero, Act.put, List.setIfInBounds_toArray, List.set_cons_zero, List.set_cons_succ]
            refine wpAnyL_take (i := 3) (v := ?_) rfl (by kernel_rfl) (by kernel_rfl) (by kernel_rfl) (by kernel_rfl) (by kernel_rfl) (fun _ _ _ h => h) (.inl ⟨by kernel_rfl, fun w' hS => ?_⟩) hS ?_
            rotate_left
            ·
              skip
              go_simp
              try with_reducible rfl
            simp only [List.getElem_toArray, List.getElem_cons_succ, List.getElem_cons_zero, Act.put, List.setIfInBounds_toArray, List.set_cons_zero, List.set_cons_succ]
            refine wpAnyL_take (i := 4) (v := ?_) rfl (by kernel_rfl) (by kernel_rfl) (by kernel_rfl) (by kernel_rfl) (by kernel_rfl) (fun _ _ _ h => h) (.inl ⟨by kernel_rfl, fun w' hS => ?_⟩) hS ?_
            rotate_left
            ·
              have ew : IntKind.i64.wrap (deep + 1) = deep + 1 := IntWalk.i64_in _ (by omega)
              go_simp
              try with_reducible rfl
            simp only [List.getElem_toArray, List.getElem_cons_succ, List.getElem_cons_zero, Act.put, List.setIfInBounds_toArray, List.set_cons_zero, List.set_cons_succ]
            refine wpAnyL_ready (i := 5) (by kernel_rfl) rfl (fun K hK => ?_)
            clear hS
            go_simp
            refine (hcall.out).mono ?_
            rintro e w5 ⟨⟨k1, bo, n1, t1, x1, l1⟩, sx, L5, b5, he, hvl5, hr5, hk5, hl5, hok5⟩
            replace hl5 : LF w5 1048576 (Fr V0.heap.size w5) sx l1 := hl5
            obtain ⟨ao2, cap2, rfl, -⟩ := hl5.form
            obtain rfl : e = .returned (.agg #[.int .i64 k1, .bool bo, .int .i64 n1, .string t1, .string x1, .slice ao2 l1.length cap2]) := he
            have hv5 := hvd.on hk5 hr5
            have hlf5 := hlfd.stay (w' := w5) fun b hS hlt => hk5.block b hlt (by have := hS.1; simp; omega)
            have hs5 := hk5.size
            go_wp2_with fail
            refine hK.out _ _ hv5.v (fun hS => ?_)
            clear hK K hcall hvd hlfd hr5 hk5
            try simp only [List.getElem_toArray, List.getElem_cons_succ, List.getElem_cons_zero, Act.put, List.setIfInBounds_toArray, List.set_cons_zero, List.set_cons_succ]
            refine wpAnyL_ready (i := 6) (by kernel_rfl) rfl (fun K hK => ?_)
            clear hS
            go_simp
            go_wp2_with fail
            have hal := ((Below.refl w5.heap.size w5).alloc (Nat.le_refl _) (.cells (six (.mk k1 bo n1 t1 x1 l1) (.slice ao2 l1.length cap2)).toArray 26))
            have hv6 := hv5.onB hal
            have hlf6 := hlf5.stay fun b hS hlt => hal.block b hlt
            have hl6 := hl5.stay fun b hS hlt => hal.block b hlt
            have hn6 := Blk.new w5 (six (.mk k1 bo n1 t1 x1 l1) (.slice ao2 l1.length cap2)).toArray 26
            refine hK.out _ _ hv6.v (fun hS => ?_)
            clear hK K hv5 hlf5 hl5 hal
            try simp only [List.getElem_toArray, List.getElem_cons_succ, List.getElem_cons_zero, Act.put, List.setIfInBounds_toArray, List.set_cons_zero, List.set_cons_succ]
            refine wpAnyL_ready (i := 7) (by kernel_rfl) rfl (fun K hK => ?_)
            clear hS
            refine wp_push1 (.tmp 91) (.tmp 96) rfl 1048576 (by omega) (Fr (g + 1) V0) (Fr V0.heap.size w5) sv xs rfl hlf6 ?d2 w5.heap.size (.mk k1 bo n1 t1 x1 l1) (.slice ao2 l1.length cap2) rfl hn6 hl6 ?d3 hok5 ?d4 ?d5
            case d2 => intro b hb; rw [World.size_alloc]; have := hb.2; omega
            case d3 => intro b hb; exact ⟨by rw [World.size_alloc]; have := hb.2; omega, fun h => by have := h.2; have := hb.1; omega⟩
            case d4 => have := hxl.out; omega
            case d5 =>
              intro v' w' hlf' hg hvS
              have hv7 := hv6.grown hg (fun g' e => by have := (hvS g' e).1; omega)
              have hs7 := hg.size
              rw [World.size_alloc] at hs7
              have hlf7 := hlf'.mono (S' := Fr (g + 1) w') (by
                rintro b (hb | hb | hb)
                · exact ⟨hb.1, by have := hb.2; omega⟩
                · exact ⟨by have := hb.1; omega, by have := hb.2; omega⟩
                · exact ⟨by have := hb.1; rw [World.size_alloc] at this; omega, hb.2⟩)
              obtain ⟨ys, hys⟩ : ∃ ys, xs ++ [V.mk k1 bo n1 t1 x1 l1] = ys := ⟨_, rfl⟩
              rw [hys] at hlf7
              obtain ⟨ao7, cap7, rfl, _⟩ := hlf7.form
              refine hK.out _ _ hv7.v (fun hS => ?_)
              clear hK K hv6 hlf6 hl6 hn6 hlf' hg hvS
              try simp only [List.getElem_toArray, List.getElem_cons_succ, List.getElem_cons_zero, Act.put, List.setIfInBounds_toArray, List.set_cons_zero, List.set_cons_succ]
              refine wpAnyL_take (i := 8) (v := ?_) rfl (by kernel_rfl) (by kernel_rfl) (by kernel_rfl) (by kernel_rfl) (by kernel_rfl) (fun _ _ _ h => h) (.inl ⟨by kernel_rfl, fun w' hS => ?_⟩) hS ?_
              rotate_left
              ·
                skip
                go_simp
                try with_reducible rfl
              simp only [List.getElem_toArray, List.getElem_cons_succ, List.getElem_cons_zero, Act.put, List.setIfInBounds_toArray, List.set_cons_zero, List.set_cons_succ]
              refine wpAnyL_late (i := 9) (by kernel_rfl) rfl (by kernel_rfl) (fun K hK => ?_)
              clear hS
              have f0 := hv7.v.free 5
              have x5 := hv7.v.cell 5 rfl
              have hyl : Hid (ys.length ≤ j + 1) := Lib.hid (by rw [← hys, List.length_append]; simp; exact hxl.out)
              have hg1 : Hid (b2 = false → LsR m (j + 1) L2 ys L5 b5) := Lib.hid fun h => by rw [← hys]; exact (g1.out h).step hvl5
              have hv7' := Lib.hid hv7
              clear hv7 hys
              go_simp
              go_wp2_with fail
              refine hK.out _ _ ?_
              clear hK K x5 f0
              try simp only [List.getElem_toArray, List.getElem_cons_succ, List.getElem_cons_zero, Act.put, List.setIfInBounds_toArray, List.set_cons_zero, List.set_cons_succ]
              refine wpAnyL_done (by kernel_rfl) ?_ _
              have hv8 := Lib.hid (hv7'.out.set 5 (.slice ao7 ys.length cap7))
              have hlf8 := Lib.hid ((hlf7.setCell ⟨g, 5, none⟩ (fun h => by have := h.1; simp at this; omega) (.slice ao7 ys.length cap7)).mono (S' := Fr (g + 1) (w'.setCell ⟨g, 5, none⟩ (.slice ao7 ys.length cap7))) fun b hb => ⟨hb.1, by have := hb.2; simpa only [World.setCell, Array.size_modify] using this⟩)
              clear hv7' hlf7
              go_wp2
              go_roundw
              case rel => exact ⟨j + 1, ys, L5, b5, _, by omega, by go_num, hg1.out, (fun h => by rw [hb2f] at h; cases h), hyl.out, hv8.out, hlf8.out⟩
              case measure => simp [intOf]; omega
          · obtain ⟨aoR, capR, hqR, hbR⟩ := hv.out.rd.form
            have r0 := hqR.cell 0 rfl
            have r1 := hqR.cell 1 rfl
            have fr := hqR.free
            have hvl := Lib.hid (hend.out j xs Li true g1.out g2.out (.inr ⟨hj, rfl⟩))
            clear hqR hbR
            obtain ⟨aoX, capX, rfl, -⟩ := hlf.out.form
            have x0 := hv.out.v.cell 0 rfl
            have x1 := hv.out.v.cell 1 rfl
            have x2 := hv.out.v.cell 2 rfl
            have x3 := hv.out.v.cell 3 rfl
            have x4 := hv.out.v.cell 4 rfl
            have x5 := hv.out.v.cell 5 rfl
            have fv := hv.out.v.free
            have z0 := hv.out.z.cell 0 rfl
            have z1 := hv.out.z.cell 1 rfl
            have z2 := hv.out.z.cell 2 rfl
            have z3 := hv.out.z.cell 3 rfl
            have z4 := hv.out.z.cell 4 rfl
            have z5 := hv.out.z.cell 5 rfl
            have fz := hv.out.z.free
            go_wp2
            obtain ⟨hf, hrd, hkp, hlf2⟩ := hv.out.end (.int .i64 5) (.bool false) (.int .i64 0) (.string ByteArray.empty) (.string ByteArray.empty) (.slice aoX xs.length capX) (hlf.out.mono (S' := Fr (w.heap.size + 1) _) fun b hb => ⟨by have := hb.1; have := hv.out.lt; omega, hb.2⟩)
            exact bodyPost_ret (v := agg6 5 false 0 ByteArray.empty ByteArray.empty (.slice aoX xs.length capX)) (results_cell_row rfl _ _ w.heap.size 26 _ (0, 0) _ rfl hf.eq Tryz.underlying26 rfl infoV6) rfl (RdX.mk (x := .mk 5 false 0 ByteArray.empty ByteArray.empty xs) hvl.out hrd hkp hlf2 (by unfold okV In64; exact ⟨by omega, by omega, Nat.zero_le _, Nat.zero_le _⟩))
        · have hji : ¬ (j : Int) < (n : Int) := by omega
          have hvl := Lib.hid (hend.out j xs Li bi g1.out g2.out (.inl (by omega)))
          obtain ⟨aoX, capX, rfl, -⟩ := hlf.out.form
          have x0 := hv.out.v.cell 0 rfl
          have x1 := hv.out.v.cell 1 rfl
          have x2 := hv.out.v.cell 2 rfl
          have x3 := hv.out.v.cell 3 rfl
          have x4 := hv.out.v.cell 4 rfl
          have x5 := hv.out.v.cell 5 rfl
          have fv := hv.out.v.free
          have z0 := hv.out.z.cell 0 rfl
          have z1 := hv.out.z.cell 1 rfl
          have z2 := hv.out.z.cell 2 rfl
          have z3 := hv.out.z.cell 3 rfl
          have z4 := hv.out.z.cell 4 rfl
          have z5 := hv.out.z.cell 5 rfl
          have fz := hv.out.z.free
          go_wp2
          obtain ⟨hf, hrd, hkp, hlf2⟩ := hv.out.end (.int .i64 5) (.bool false) (.int .i64 0) (.string ByteArray.empty) (.string ByteArray.empty) (.slice aoX xs.length capX) (hlf.out.mono (S' := Fr (w.heap.size + 1) _) fun b hb => ⟨by have := hb.1; have := hv.out.lt; omega, hb.2⟩)
          exact bodyPost_ret (v := agg6 5 false 0 ByteArray.empty ByteArray.empty (.slice aoX xs.length capX)) (results_cell_row rfl _ _ w.heap.size 26 _ (0, 0) _ rfl hf.eq Tryz.underlying26 rfl infoV6) rfl (RdX.mk (x := .mk 5 false 0 ByteArray.empty ByteArray.empty xs) hvl.out hrd hkp hlf2 (by unfold okV In64; exact ⟨by omega, by omega, Nat.zero_le _, Nat.zero_le _⟩))
    · obtain rfl : (6 : Int) = ki := hki.out
      obtain rfl : e = .returned (.iface 67 (.int .i64 0)) := he
      have ht := take_call w3 rb L1 false 8 hv.out.rd (by omega)
      rw [show ((8 : Nat) : Int) = 8 from rfl] at ht
      unfold Tk at ht
      obtain ⟨D, hD⟩ : ∃ D, (if 8 ≤ L1.length then L1.take 8 else List.replicate (min 8 8) 0) = D := ⟨_, rfl⟩
      obtain ⟨L2, hL2⟩ : ∃ L2, (if 8 ≤ L1.length then L1.drop 8 else L1) = L2 := ⟨_, rfl⟩
      obtain ⟨b2, hb2⟩ : ∃ b2, (if 8 ≤ L1.length then false else true) = b2 := ⟨_, rfl⟩
      rw [hD, hL2, hb2] at ht
      have hDl : D.length ≤ 8 := by
        rw [← hD]
        split
        · rw [List.length_take]; omega
        · decide
      obtain ⟨z, hz⟩ : ∃ z, IntKind.i64.wrap (beN D : Int) = z := ⟨_, rfl⟩
      have hzi : In64 z := by rw [← hz, IntKind.wrap_i64]; unfold In64; omega
      have hvl : Hid (VlR (m + 1) (c :: L1) false (.mk 6 false z ByteArray.empty ByteArray.empty []) L2 b2) := Lib.hid (by
        by_cases h8 : 8 ≤ L1.length
        · rw [if_pos h8] at hD hL2 hb2
          have hbd : bodyD (valD m) c.toNat L1 = some (.mk 6 false z ByteArray.empty ByteArray.empty [], L2) := by
            rw [hk.out]; unfold bodyD takeB
            rw [if_pos h8, hD, hL2]
            simp [hz]
          exact .body (by rw [← hL2, List.length_drop]; omega) (fun v s e => by rw [hbd] at e; simp only [Option.some.injEq, Prod.mk.injEq] at e; exact ⟨e.1, e.2, hb2.symm⟩) (fun e => by rw [hbd] at e; cases e)
        · rw [if_neg h8] at hD hL2 hb2
          have hbd : bodyD (valD m) c.toNat L1 = none := by
            rw [hk.out]; unfold bodyD takeB
            rw [if_neg h8]
            simp
          exact .body (by rw [← hL2]; exact Nat.le_refl _) (fun v s e => by rw [hbd] at e; cases e) (fun _ => .inl hb2.symm))
      replace ht := Lib.hid ht
      replace hD := Lib.hid hD
      clear hL2 hb2
      have tb0 := tb_6_0
      have tb1 := tb_6_1
      have tb2 := tb_6_2
      have tb3 := tb_6_3
      have tb4 := tb_6_4
      have tb5 := tb_6_5
      have tb6 := tb_6_6
      have tb7 := tb_6_7
      have tb8 := tb_6_8
      go_wp2_with fail
      refine (ht.out).mono ?_
      rintro e w4 ⟨v, rfl, hbv, hr2, hk2⟩
      have hn8 := number8_call w4 _ v D hbv hDl
      have hv4 := Lib.hid (hv.out.on hk2 hr2)
      generalize beN D = Nn at *
      rw [IntWalk.i64_left] at hz
      replace hn8 := Lib.hid hn8
      clear hv ht hk2 hr2 hbv hD
      clear tb0 tb1 tb2 tb3 tb4 tb5 tb6 tb7 tb8
      have hv := hv4
      clear hv4
      have x0 := hv.out.v.cell 0 rfl
      have x1 := hv.out.v.cell 1 rfl
      have x2 := hv.out.v.cell 2 rfl
      have x3 := hv.out.v.cell 3 rfl
      have x4 := hv.out.v.cell 4 rfl
      have x5 := hv.out.v.cell 5 rfl
      have fv := hv.out.v.free
      have z0 := hv.out.z.cell 0 rfl
      have z1 := hv.out.z.cell 1 rfl
      have z2 := hv.out.z.cell 2 rfl
      have z3 := hv.out.z.cell 3 rfl
      have z4 := hv.out.z.cell 4 rfl
      have z5 := hv.out.z.cell 5 rfl
      have fz := hv.out.z.free
      go_wp2_with fail
      refine (hn8.out).mono ?_
      rintro e w5 ⟨rfl, hw5⟩
      rw [hw5]
      clear hw5 hn8
      go_upto_region 23 with (fail)
      have hv6 := Lib.hid (hv.out.set 2 (.int .i64 z))
      clear hv
      clear x0 x1 x2 x3 x4 x5 fv z0 z1 z2 z3 z4 z5 fz
      generalize (w4.setCell ⟨g, 2, none⟩ (.int .i64 z)) = w6 at *
      have hv := hv6
      clear hv6
      unfold In64 at hzi
      have x0 := hv.out.v.cell 0 rfl
      have x1 := hv.out.v.cell 1 rfl
      have x2 := hv.out.v.cell 2 rfl
      have x3 := hv.out.v.cell 3 rfl
      have x4 := hv.out.v.cell 4 rfl
      have x5 := hv.out.v.cell 5 rfl
      have fv := hv.out.v.free
      have z0 := hv.out.z.cell 0 rfl
      have z1 := hv.out.z.cell 1 rfl
      have z2 := hv.out.z.cell 2 rfl
      have z3 := hv.out.z.cell 3 rfl
      have z4 := hv.out.z.cell 4 rfl
      have z5 := hv.out.z.cell 5 rfl
      have fz := hv.out.z.free
      go_wp2
      obtain ⟨hf, hrd, hkp, hlf⟩ := hv.out.end (.int .i64 6) (.bool false) (.int .i64 z) (.string ByteArray.empty) (.string ByteArray.empty) (.slice none 0 0) (LF.nil _ _ _)
      exact bodyPost_ret (v := agg6 6 false z ByteArray.empty ByteArray.empty (.slice none 0 0)) (results_cell_row rfl _ _ w.heap.size 26 _ (0, 0) _ rfl hf.eq Tryz.underlying26 rfl infoV6) rfl (RdX.mk (x := .mk 6 false z ByteArray.empty ByteArray.empty []) hvl.out hrd hkp hlf (by unfold okV In64; refine ⟨?_, ?_, ?_, ?_⟩ <;> first | omega | exact Nat.zero_le _))
    · obtain rfl : (7 : Int) = ki := hki.out
      obtain rfl : e = .returned (.iface 67 (.int .i64 0)) := he
      have ht := take_call w3 rb L1 false 8 hv.out.rd (by omega)
      rw [show ((8 : Nat) : Int) = 8 from rfl] at ht
      unfold Tk at ht
      obtain ⟨D, hD⟩ : ∃ D, (if 8 ≤ L1.length then L1.take 8 else List.replicate (min 8 8) 0) = D := ⟨_, rfl⟩
      obtain ⟨L2, hL2⟩ : ∃ L2, (if 8 ≤ L1.length then L1.drop 8 else L1) = L2 := ⟨_, rfl⟩
      obtain ⟨b2, hb2⟩ : ∃ b2, (if 8 ≤ L1.length then false else true) = b2 := ⟨_, rfl⟩
      rw [hD, hL2, hb2] at ht
      have hDl : D.length ≤ 8 := by
        rw [← hD]
        split
        · rw [List.length_take]; omega
        · decide
      obtain ⟨z, hz⟩ : ∃ z, IntKind.i64.wrap (beN D : Int) = z := ⟨_, rfl⟩
      have hzi : In64 z := by rw [← hz, IntKind.wrap_i64]; unfold In64; omega
      have hvl : Hid (VlR (m + 1) (c :: L1) false (.mk 7 false z ByteArray.empty ByteArray.empty []) L2 b2) := Lib.hid (by
        by_cases h8 : 8 ≤ L1.length
        · rw [if_pos h8] at hD hL2 hb2
          have hbd : bodyD (valD m) c.toNat L1 = some (.mk 7 false z ByteArray.empty ByteArray.empty [], L2) := by
            rw [hk.out]; unfold bodyD takeB
            rw [if_pos h8, hD, hL2]
            simp [hz]
          exact .body (by rw [← hL2, List.length_drop]; omega) (fun v s e => by rw [hbd] at e; simp only [Option.some.injEq, Prod.mk.injEq] at e; exact ⟨e.1, e.2, hb2.symm⟩) (fun e => by rw [hbd] at e; cases e)
        · rw [if_neg h8] at hD hL2 hb2
          have hbd : bodyD (valD m) c.toNat L1 = none := by
            rw [hk.out]; unfold bodyD takeB
            rw [if_neg h8]
            simp
          exact .body (by rw [← hL2]; exact Nat.le_refl _) (fun v s e => by rw [hbd] at e; cases e) (fun _ => .inl hb2.symm))
      replace ht := Lib.hid ht
      replace hD := Lib.hid hD
      clear hL2 hb2
      have tb0 := tb_6_0
      have tb1 := tb_6_1
      have tb2 := tb_6_2
      have tb3 := tb_6_3
      have tb4 := tb_6_4
      have tb5 := tb_6_5
      have tb6 := tb_6_6
      have tb7 := tb_6_7
      have tb8 := tb_6_8
      go_wp2_with fail
      refine (ht.out).mono ?_
      rintro e w4 ⟨v, rfl, hbv, hr2, hk2⟩
      have hn8 := number8_call w4 _ v D hbv hDl
      have hv4 := Lib.hid (hv.out.on hk2 hr2)
      generalize beN D = Nn at *
      rw [IntWalk.i64_left] at hz
      replace hn8 := Lib.hid hn8
      clear hv ht hk2 hr2 hbv hD
      clear tb0 tb1 tb2 tb3 tb4 tb5 tb6 tb7 tb8
      have hv := hv4
      clear hv4
      have x0 := hv.out.v.cell 0 rfl
      have x1 := hv.out.v.cell 1 rfl
      have x2 := hv.out.v.cell 2 rfl
      have x3 := hv.out.v.cell 3 rfl
      have x4 := hv.out.v.cell 4 rfl
      have x5 := hv.out.v.cell 5 rfl
      have fv := hv.out.v.free
      have z0 := hv.out.z.cell 0 rfl
      have z1 := hv.out.z.cell 1 rfl
      have z2 := hv.out.z.cell 2 rfl
      have z3 := hv.out.z.cell 3 rfl
      have z4 := hv.out.z.cell 4 rfl
      have z5 := hv.out.z.cell 5 rfl
      have fz := hv.out.z.free
      go_wp2_with fail
      refine (hn8.out).mono ?_
      rintro e w5 ⟨rfl, hw5⟩
      rw [hw5]
      clear hw5 hn8
      go_upto_region 23 with (fail)
      have hv6 := Lib.hid (hv.out.set 2 (.int .i64 z))
      clear hv
      clear x0 x1 x2 x3 x4 x5 fv z0 z1 z2 z3 z4 z5 fz
      generalize (w4.setCell ⟨g, 2, none⟩ (.int .i64 z)) = w6 at *
      have hv := hv6
      clear hv6
      unfold In64 at hzi
      have x0 := hv.out.v.cell 0 rfl
      have x1 := hv.out.v.cell 1 rfl
      have x2 := hv.out.v.cell 2 rfl
      have x3 := hv.out.v.cell 3 rfl
      have x4 := hv.out.v.cell 4 rfl
      have x5 := hv.out.v.cell 5 rfl
      have fv := hv.out.v.free
      have z0 := hv.out.z.cell 0 rfl
      have z1 := hv.out.z.cell 1 rfl
      have z2 := hv.out.z.cell 2 rfl
      have z3 := hv.out.z.cell 3 rfl
      have z4 := hv.out.z.cell 4 rfl
      have z5 := hv.out.z.cell 5 rfl
      have fz := hv.out.z.free
      go_wp2
      obtain ⟨hf, hrd, hkp, hlf⟩ := hv.out.end (.int .i64 7) (.bool false) (.int .i64 z) (.string ByteArray.empty) (.string ByteArray.empty) (.slice none 0 0) (LF.nil _ _ _)
      exact bodyPost_ret (v := agg6 7 false z ByteArray.empty ByteArray.empty (.slice none 0 0)) (results_cell_row rfl _ _ w.heap.size 26 _ (0, 0) _ rfl hf.eq Tryz.underlying26 rfl infoV6) rfl (RdX.mk (x := .mk 7 false z ByteArray.empty ByteArray.empty []) hvl.out hrd hkp hlf (by unfold okV In64; refine ⟨?_, ?_, ?_, ?_⟩ <;> first | omega | exact Nat.zero_le _))
    · obtain rfl : (8 : Int) = ki := hki.out
      obtain rfl : e = .returned (.iface 71 (.string ⟨#[]⟩)) := he
      have ht := Lib.hid (rdtext_call w3 rb L1 false hv.out.rd)
      have tb0 := tb_4_0
      have tb1 := tb_4_1
      have tb2 := tb_4_2
      have tb3 := tb_4_3
      have tb4 := tb_4_4
      have tb5 := tb_4_5
      have tb6 := tb_4_6
      have tb7 := tb_4_7
      have tb8 := tb_4_8
      go_wp2_with fail
      refine (ht.out).mono ?_
      rintro e w4 ⟨t, L2, b2, rfl, htx, hr2, hk2⟩
      have hvl : Hid (VlR (m + 1) (c :: L1) false (.mk 8 false 0 t ByteArray.empty []) L2 b2) := Lib.hid (by
        have hbd : bodyD (valD m) c.toNat L1 = (txtD L1).bind fun p => some (.mk 8 false 0 p.1 ByteArray.empty [], p.2) := by
          rw [hk.out]; unfold bodyD; simp
        refine .body htx.le (fun v s e => ?_) (fun e => .inl (htx.no rfl ?_))
        · rw [hbd] at e
          cases h1 : txtD L1 with
          | none => rw [h1] at e; cases e
          | some p =>
            obtain ⟨t0, r0⟩ := p
            rw [h1] at e
            simp only [Option.bind_some, Option.some.injEq, Prod.mk.injEq] at e
            obtain ⟨rfl, rfl, rfl⟩ := htx.yes rfl t0 r0 h1
            exact ⟨e.1, e.2, rfl⟩
        · rw [hbd] at e
          cases h1 : txtD L1 with
          | none => rfl
          | some p => rw [h1] at e; cases e)
      have hszt := htx.sz.1
      have hv4 := Lib.hid (hv.out.on hk2 hr2)
      clear hv ht hr2 hk2
      clear tb0 tb1 tb2 tb3 tb4 tb5 tb6 tb7 tb8
      have hv := hv4
      clear hv4
      have x0 := hv.out.v.cell 0 rfl
      have x1 := hv.out.v.cell 1 rfl
      have x2 := hv.out.v.cell 2 rfl
      have x3 := hv.out.v.cell 3 rfl
      have x4 := hv.out.v.cell 4 rfl
      have x5 := hv.out.v.cell 5 rfl
      have fv := hv.out.v.free
      have z0 := hv.out.z.cell 0 rfl
      have z1 := hv.out.z.cell 1 rfl
      have z2 := hv.out.z.cell 2 rfl
      have z3 := hv.out.z.cell 3 rfl
      have z4 := hv.out.z.cell 4 rfl
      have z5 := hv.out.z.cell 5 rfl
      have fz := hv.out.z.free
      go_upto_region 23 with (fail)
      have hv6 := Lib.hid (hv.out.set 3 (.string t))
      clear hv
      clear x0 x1 x2 x3 x4 x5 fv z0 z1 z2 z3 z4 z5 fz
      generalize (w4.setCell ⟨g, 3, none⟩ (.string t)) = w6 at *
      have hv := hv6
      clear hv6
      have x0 := hv.out.v.cell 0 rfl
      have x1 := hv.out.v.cell 1 rfl
      have x2 := hv.out.v.cell 2 rfl
      have x3 := hv.out.v.cell 3 rfl
      have x4 := hv.out.v.cell 4 rfl
      have x5 := hv.out.v.cell 5 rfl
      have fv := hv.out.v.free
      have z0 := hv.out.z.cell 0 rfl
      have z1 := hv.out.z.cell 1 rfl
      have z2 := hv.out.z.cell 2 rfl
      have z3 := hv.out.z.cell 3 rfl
      have z4 := hv.out.z.cell 4 rfl
      have z5 := hv.out.z.cell 5 rfl
      have fz := hv.out.z.free
      go_wp2
      obtain ⟨hf, hrd, hkp, hlf⟩ := hv.out.end (.int .i64 8) (.bool false) (.int .i64 0) (.string t) (.string ByteArray.empty) (.slice none 0 0) (LF.nil _ _ _)
      exact bodyPost_ret (v := agg6 8 false 0 t ByteArray.empty (.slice none 0 0)) (results_cell_row rfl _ _ w.heap.size 26 _ (0, 0) _ rfl hf.eq Tryz.underlying26 rfl infoV6) rfl (RdX.mk (x := .mk 8 false 0 t ByteArray.empty []) hvl.out hrd hkp hlf (by unfold okV In64; refine ⟨?_, ?_, ?_, ?_⟩ <;> first | omega | exact Nat.zero_le _))
    · obtain rfl : (9 : Int) = ki := hki.out
      obtain rfl : e = .returned (.iface 71 (.string ⟨#[]⟩)) := he
      have ht := Lib.hid (rdtext_call w3 rb L1 false hv.out.rd)
      have tb0 := tb_4_0
      have tb1 := tb_4_1
      have tb2 := tb_4_2
      have tb3 := tb_4_3
      have tb4 := tb_4_4
      have tb5 := tb_4_5
      have tb6 := tb_4_6
      have tb7 := tb_4_7
      have tb8 := tb_4_8
      go_wp2_with fail
      refine (ht.out).mono ?_
      rintro e w4 ⟨t, L2, b2, rfl, htx, hr2, hk2⟩
      have hvl : Hid (VlR (m + 1) (c :: L1) false (.mk 9 false 0 t ByteArray.empty []) L2 b2) := Lib.hid (by
        have hbd : bodyD (valD m) c.toNat L1 = (txtD L1).bind fun p => some (.mk 9 false 0 p.1 ByteArray.empty [], p.2) := by
          rw [hk.out]; unfold bodyD; simp
        refine .body htx.le (fun v s e => ?_) (fun e => .inl (htx.no rfl ?_))
        · rw [hbd] at e
          cases h1 : txtD L1 with
          | none => rw [h1] at e; cases e
          | some p =>
            obtain ⟨t0, r0⟩ := p
            rw [h1] at e
            simp only [Option.bind_some, Option.some.injEq, Prod.mk.injEq] at e
            obtain ⟨rfl, rfl, rfl⟩ := htx.yes rfl t0 r0 h1
            exact ⟨e.1, e.2, rfl⟩
        · rw [hbd] at e
          cases h1 : txtD L1 with
          | none => rfl
          | some p => rw [h1] at e; cases e)
      have hszt := htx.sz.1
      have hv4 := Lib.hid (hv.out.on hk2 hr2)
      clear hv ht hr2 hk2
      clear tb0 tb1 tb2 tb3 tb4 tb5 tb6 tb7 tb8
      have hv := hv4
      clear hv4
      have x0 := hv.out.v.cell 0 rfl
      have x1 := hv.out.v.cell 1 rfl
      have x2 := hv.out.v.cell 2 rfl
      have x3 := hv.out.v.cell 3 rfl
      have x4 := hv.out.v.cell 4 rfl
      have x5 := hv.out.v.cell 5 rfl
      have fv := hv.out.v.free
      have z0 := hv.out.z.cell 0 rfl
      have z1 := hv.out.z.cell 1 rfl
      have z2 := hv.out.z.cell 2 rfl
      have z3 := hv.out.z.cell 3 rfl
      have z4 := hv.out.z.cell 4 rfl
      have z5 := hv.out.z.cell 5 rfl
      have fz := hv.out.z.free
      go_upto_region 23 with (fail)
      have hv6 := Lib.hid (hv.out.set 3 (.string t))
      clear hv
      clear x0 x1 x2 x3 x4 x5 fv z0 z1 z2 z3 z4 z5 fz
      generalize (w4.setCell ⟨g, 3, none⟩ (.string t)) = w6 at *
      have hv := hv6
      clear hv6
      have x0 := hv.out.v.cell 0 rfl
      have x1 := hv.out.v.cell 1 rfl
      have x2 := hv.out.v.cell 2 rfl
      have x3 := hv.out.v.cell 3 rfl
      have x4 := hv.out.v.cell 4 rfl
      have x5 := hv.out.v.cell 5 rfl
      have fv := hv.out.v.free
      have z0 := hv.out.z.cell 0 rfl
      have z1 := hv.out.z.cell 1 rfl
      have z2 := hv.out.z.cell 2 rfl
      have z3 := hv.out.z.cell 3 rfl
      have z4 := hv.out.z.cell 4 rfl
      have z5 := hv.out.z.cell 5 rfl
      have fz := hv.out.z.free
      go_wp2
      obtain ⟨hf, hrd, hkp, hlf⟩ := hv.out.end (.int .i64 9) (.bool false) (.int .i64 0) (.string t) (.string ByteArray.empty) (.slice none 0 0) (LF.nil _ _ _)
      exact bodyPost_ret (v := agg6 9 false 0 t ByteArray.empty (.slice none 0 0)) (results_cell_row rfl _ _ w.heap.size 26 _ (0, 0) _ rfl hf.eq Tryz.underlying26 rfl infoV6) rfl (RdX.mk (x := .mk 9 false 0 t ByteArray.empty []) hvl.out hrd hkp hlf (by unfold okV In64; refine ⟨?_, ?_, ?_, ?_⟩ <;> first | omega | exact Nat.zero_le _))
    · obtain rfl : (10 : Int) = ki := hki.out
      obtain rfl : e = .returned (.iface 74 (.agg #[.string ⟨#[]⟩, .string ⟨#[]⟩])) := he
      have ht := Lib.hid (rdtext_call w3 rb L1 false hv.out.rd)
      have tb0 := tb_7_0
      have tb1 := tb_7_1
      have tb2 := tb_7_2
      have tb3 := tb_7_3
      have tb4 := tb_7_4
      have tb5 := tb_7_5
      have tb6 := tb_7_6
      have tb7 := tb_7_7
      have tb8 := tb_7_8
      go_wp2_with fail
      refine (ht.out).mono ?_
      rintro e w4 ⟨t, L2, b2, rfl, htx, hr2, hk2⟩
      have hv4 := Lib.hid (hv.out.on hk2 hr2)
      clear hv ht hr2 hk2
      clear tb0 tb1 tb2 tb3 tb4 tb5 tb6 tb7 tb8
      have hv := hv4
      clear hv4
      have x0 := hv.out.v.cell 0 rfl
      have x1 := hv.out.v.cell 1 rfl
      have x2 := hv.out.v.cell 2 rfl
      have x3 := hv.out.v.cell 3 rfl
      have x4 := hv.out.v.cell 4 rfl
      have x5 := hv.out.v.cell 5 rfl
      have fv := hv.out.v.free
      have z0 := hv.out.z.cell 0 rfl
      have z1 := hv.out.z.cell 1 rfl
      have z2 := hv.out.z.cell 2 rfl
      have z3 := hv.out.z.cell 3 rfl
      have z4 := hv.out.z.cell 4 rfl
      have z5 := hv.out.z.cell 5 rfl
      have fz := hv.out.z.free
      go_upto_region 16 with (fail)
      have hv6 := Lib.hid (hv.out.set 3 (.string t))
      clear hv
      clear x0 x1 x2 x3 x4 x5 fv z0 z1 z2 z3 z4 z5 fz
      generalize (w4.setCell ⟨g, 3, none⟩ (.string t)) = w5 at *
      have hv := hv6
      clear hv6
      have ht := Lib.hid (rdtext_call w5 rb L2 b2 hv.out.rd)
      go_wp2_with fail
      refine (ht.out).mono ?_
      rintro e w6 ⟨x, L3, b3, rfl, hxx, hr3, hk3⟩
      have hvl : Hid (VlR (m + 1) (c :: L1) false (.mk 10 false 0 t x []) L3 b3) := Lib.hid (by
        have hbd : bodyD (valD m) c.toNat L1 = (txtD L1).bind fun p => (txtD p.2).bind fun q => some (.mk 10 false 0 p.1 q.1 [], q.2) := by
          rw [hk.out]; unfold bodyD; simp
        refine .body (Nat.le_trans hxx.le htx.le) (fun v s e => ?_) (fun e => .inl ?_)
        · rw [hbd] at e
          cases h1 : txtD L1 with
          | none => rw [h1] at e; cases e
          | some p =>
            obtain ⟨t0, r0⟩ := p
            obtain ⟨rfl, rfl, rfl⟩ := htx.yes rfl t0 r0 h1
            rw [h1] at e
            simp only [Option.bind_some] at e
            cases h2 : txtD L2 with
            | none => rw [h2] at e; cases e
            | some q =>
              obtain ⟨t1, r1⟩ := q
              obtain ⟨rfl, rfl, rfl⟩ := hxx.yes rfl t1 r1 h2
              rw [h2] at e
              simp only [Option.bind_some, Option.some.injEq, Prod.mk.injEq] at e
              exact ⟨e.1, e.2, rfl⟩
        · rw [hbd] at e
          cases h1 : txtD L1 with
          | none => exact hxx.more (htx.no rfl h1)
          | some p =>
            obtain ⟨t0, r0⟩ := p
            obtain ⟨rfl, rfl, rfl⟩ := htx.yes rfl t0 r0 h1
            rw [h1] at e
            simp only [Option.bind_some] at e
            cases h2 : txtD L2 with
            | none => exact hxx.no rfl h2
            | some q => rw [h2] at e; cases e)
      have hszt := htx.sz.1
      have hszx := hxx.sz.1
      have hv4 := Lib.hid (hv.out.on hk3 hr3)
      clear hv ht hr3 hk3
      have hv := hv4
      clear hv4
      have x0 := hv.out.v.cell 0 rfl
      have x1 := hv.out.v.cell 1 rfl
      have x2 := hv.out.v.cell 2 rfl
      have x3 := hv.out.v.cell 3 rfl
      have x4 := hv.out.v.cell 4 rfl
      have x5 := hv.out.v.cell 5 rfl
      have fv := hv.out.v.free
      have z0 := hv.out.z.cell 0 rfl
      have z1 := hv.out.z.cell 1 rfl
      have z2 := hv.out.z.cell 2 rfl
      have z3 := hv.out.z.cell 3 rfl
      have z4 := hv.out.z.cell 4 rfl
      have z5 := hv.out.z.cell 5 rfl
      have fz := hv.out.z.free
      go_upto_region 23 with (fail)
      have hv6 := Lib.hid (hv.out.set 4 (.string x))
      clear hv
      clear x0 x1 x2 x3 x4 x5 fv z0 z1 z2 z3 z4 z5 fz
      generalize (w6.setCell ⟨g, 4, none⟩ (.string x)) = w7 at *
      have hv := hv6
      clear hv6
      have x0 := hv.out.v.cell 0 rfl
      have x1 := hv.out.v.cell 1 rfl
      have x2 := hv.out.v.cell 2 rfl
      have x3 := hv.out.v.cell 3 rfl
      have x4 := hv.out.v.cell 4 rfl
      have x5 := hv.out.v.cell 5 rfl
      have fv := hv.out.v.free
      have z0 := hv.out.z.cell 0 rfl
      have z1 := hv.out.z.cell 1 rfl
      have z2 := hv.out.z.cell 2 rfl
      have z3 := hv.out.z.cell 3 rfl
      have z4 := hv.out.z.cell 4 rfl
      have z5 := hv.out.z.cell 5 rfl
      have fz := hv.out.z.free
      go_wp2
      obtain ⟨hf, hrd, hkp, hlf⟩ := hv.out.end (.int .i64 10) (.bool false) (.int .i64 0) (.string t) (.string x) (.slice none 0 0) (LF.nil _ _ _)
      exact bodyPost_ret (v := agg6 10 false 0 t x (.slice none 0 0)) (results_cell_row rfl _ _ w.heap.size 26 _ (0, 0) _ rfl hf.eq Tryz.underlying26 rfl infoV6) rfl (RdX.mk (x := .mk 10 false 0 t x []) hvl.out hrd hkp hlf (by unfold okV In64; refine ⟨?_, ?_, ?_, ?_⟩ <;> first | omega | exact Nat.zero_le _))
    · obtain rfl : e = .returned (.iface 99 (.int .i64 ki)) := by
        rw [he]
        unfold partV
        have h := hki.out
        rw [if_neg (by omega), if_neg (by omega), if_neg (by omega), if_neg (by omega), if_neg (by omega), if_neg (by omega), if_neg (by omega), if_neg (by omega)]
      have hvl : Hid (VlR (m + 1) (c :: L1) false (.mk ki false 0 ByteArray.empty ByteArray.empty []) L1 false) := Lib.hid (.body (Nat.le_refl _) (fun v s e => by
          rw [hk.out] at e
          unfold bodyD at e
          rw [if_neg (by omega), if_neg (by omega), if_neg (by omega), if_neg (by omega), if_neg (by omega), if_neg (by omega)] at e
          cases e) (fun _ => .inr (by
          have h := hki.out
          cases m with
          | zero => exact chkW_other _ ki (by omega) (by omega) (by omega) (by omega) (by omega) (by omega) (by omega) (by omega) (by omega) (by omega) (by omega) _ _ _ _ _
          | succ m => exact chkW_other _ ki (by omega) (by omega) (by omega) (by omega) (by omega) (by omega) (by omega) (by omega) (by omega) (by omega) (by omega) _ _ _ _ _)))
      have hki0 : 0 ≤ ki ∧ ki ≤ 255 := by have := hki.out; omega
      have tb0 := tb_8_0
      have tb1 := tb_8_1
      have tb2 := tb_8_2
      have tb3 := tb_8_3
      have tb4 := tb_8_4
      have tb5 := tb_8_5
      have tb6 := tb_8_6
      have tb7 := tb_8_7
      have tb8 := tb_8_8
      have x0 := hv.out.v.cell 0 rfl
      have x1 := hv.out.v.cell 1 rfl
      have x2 := hv.out.v.cell 2 rfl
      have x3 := hv.out.v.cell 3 rfl
      have x4 := hv.out.v.cell 4 rfl
      have x5 := hv.out.v.cell 5 rfl
      have fv := hv.out.v.free
      have z0 := hv.out.z.cell 0 rfl
      have z1 := hv.out.z.cell 1 rfl
      have z2 := hv.out.z.cell 2 rfl
      have z3 := hv.out.z.cell 3 rfl
      have z4 := hv.out.z.cell 4 rfl
      have z5 := hv.out.z.cell 5 rfl
      have fz := hv.out.z.free
      go_wp2
      obtain ⟨hf, hrd, hkp, hlf⟩ := hv.out.end (.int .i64 ki) (.bool false) (.int .i64 0) (.string ByteArray.empty) (.string ByteArray.empty) (.slice none 0 0) (LF.nil _ _ _)
      exact bodyPost_ret (v := agg6 ki false 0 ByteArray.empty ByteArray.empty (.slice none 0 0)) (results_cell_row rfl _ _ w.heap.size 26 _ (0, 0) _ rfl hf.eq Tryz.underlying26 rfl infoV6) rfl (RdX.mk (x := .mk ki false 0 ByteArray.empty ByteArray.empty []) hvl.out hrd hkp hlf (by unfold okV In64; refine ⟨?_, ?_, ?_, ?_⟩ <;> first | omega | exact Nat.zero_le _))
end Go.Proofs.YtjncjcellpbhcaaGreatDoor.val
