/- Contracts of Encode, of Text at decimals, of wakes. -/
import Derived.Test.YtjncjcellpbhcaaGreatDoorVLay
import Derived.Test.YtjncjcellpbhcaaGreatDoorVEqA
namespace Go.Proofs.YtjncjcellpbhcaaGreatDoor.val
open Go.ChangeShapes Go.WideShapes Go.ChangeAt Go.RowKit kit dec
set_option linter.unusedVariables false
set_option linter.unusedSimpArgs false
theorem BW.form {W W1 : World} {B : Nat} {v : Value} {l : List UInt8} (h : BW W B v l W1) : ∃ ao cap, v = .slice ao l.length cap := by
  rcases h.own.2 with ⟨hv, hn⟩ | ⟨g, cap, cur, hv, _⟩
  · exact ⟨none, 0, by rw [hv, hn]⟩
  · exact ⟨_, cap, hv⟩
/-- What Encode tells. -/
def encR (v : V) : List UInt8 := if mayV v then encV v else []
set_option maxRecDepth 100000 in
set_option maxHeartbeats 1000000 in
theorem encode_call (N : Nat) (hN : N ≤ 9223372036854775807) (w : World) (hE : Env w) (k : Int) (b : Bool) (n : Int) (hk : In64 k) (hn : In64 n) (t x : ByteArray) (s : Value) (l : List V) (ha : LA w N s l) (ht : t.size ≤ N) (hx : x.size ≤ N) (hlen : (encV (.mk k b n t x l)).length ≤ 10000000) :
    Calls Tryz.prog 20 #[agg6 k b n t x s] w fun e w' => ∃ v', e = .returned (.tuple #[v', .int .i64 (if mayV (.mk k b n t x l) then 0 else 1)]) ∧ BW w w.heap.size v' (encR (.mk k b n t x l)) w' := by
  have hal : Below w.heap.size w (w.alloc (.cells #[.int .i64 k, .bool b, .int .i64 n, .string t, .string x, s] 26)) := (Below.refl _ _).alloc (Nat.le_refl _) _
  have hblk := Blk.new w #[.int .i64 k, .bool b, .int .i64 n, .string t, .string x, s] 26
  have hck := check_any N hN _ (hE.below hal) k b n t x s l (ha.stay hal) ht hx
  have hlay : ∀ W, BW w w.heap.size (.slice none 0 0) [] W → Calls Tryz.prog 50 #[.slice none 0 0, agg6 k b n t x s] W fun e w' => ∃ v', e = .returned v' ∧ BW w w.heap.size v' ([] ++ encV (.mk k b n t x l)) w' ∧ Gr W w' :=
    fun W hW => lay_all N hN (SizeOf.sizeOf l + 1) w W [] _ k b n hk hn t x s l (Nat.lt_succ_self _) ha hW (by simpa using hlen)
  unfold encR
  generalize mayV (.mk k b n t x l) = p at *
  generalize encV (.mk k b n t x l) = E at *
  unfold agg6 at hck hlay ⊢
  have hbw := (BW.start w).alloc (Nat.le_refl _) (.cells #[.int .i64 k, .bool b, .int .i64 n, .string t, .string x, s] 26)
  replace hck := Lib.hid hck
  replace hlay := Lib.hid hlay
  clear ha hE
  go_enter Tryz.func20, Tryz.ntmps20
  go_wp2_with fail
  refine (hck.out).mono ?_
  rintro e w3 ⟨rfl, hb3⟩
  have hbw3 := hbw.on hal.size hb3
  have hblk3 := hblk.keep (Keep.ofBelow hb3) (by simp)
  clear hck hbw hb3 hblk hal
  have x0 := hblk3.cell 0 rfl
  have x1 := hblk3.cell 1 rfl
  have x2c := hblk3.cell 2 rfl
  have x3 := hblk3.cell 3 rfl
  have x4 := hblk3.cell 4 rfl
  have x5 := hblk3.cell 5 rfl
  cases p
  · replace hbw3 := Lib.hid hbw3
    clear hblk3
    go_wp2
    go_ret2
    exact ⟨_, rfl, hbw3.out⟩
  · go_wp2_with fail
    refine (hlay.out _ hbw3).mono ?_
    rintro e w4 ⟨v4, rfl, hbw4, hg4⟩
    rw [List.nil_append] at hbw4
    clear hbw3 hblk3 hlay hg4
    replace hbw4 := Lib.hid hbw4
    go_wp2
    go_ret2
    exact ⟨_, rfl, hbw4.out⟩
set_option maxRecDepth 100000 in
set_option maxHeartbeats 1000000 in
theorem textDec_call (w : World) (hE : Env w) (b : Bool) (n : Int) (t x : ByteArray) (hm : mayV (.mk 3 b n t x []) = true) (ht : t.size ≤ 1000000) (hx : x.size ≤ 1000000) :
    Calls Tryz.prog 23 #[agg6 3 b n t x (.slice none 0 0)] w fun e w' => e = .returned (.string t) ∧ Below w.heap.size w w' := by
  have hal : Below w.heap.size w (w.alloc (.cells #[.int .i64 3, .bool b, .int .i64 n, .string t, .string x, .slice none 0 0] 26)) := (Below.refl _ _).alloc (Nat.le_refl _) _
  have hblk := Blk.new w #[.int .i64 3, .bool b, .int .i64 n, .string t, .string x, .slice none 0 0] 26
  have hck := check_any 1000000 (by omega) _ (hE.below hal) 3 b n t x (.slice none 0 0) [] (.mk none 0 [] (by simp) (fun j hj => by simp at hj)) ht hx
  rw [hm] at hck
  have hpt := fun W => part_any 3 b n t x (.slice none 0 0) W
  unfold partV agg6 at hpt
  simp only [if_true, Int.reduceEq, reduceCtorEq, if_false, or_true, true_or, or_false, or_self] at hpt
  unfold agg6 at hck ⊢
  replace hck := Lib.hid hck
  replace hpt := Lib.hid hpt
  clear hm hE
  go_enter Tryz.func23, Tryz.ntmps23
  go_wp2_with fail
  refine (hck.out).mono ?_
  rintro e w3 ⟨rfl, hb3⟩
  have hal3 := hal.trans (hb3.mono hal.size)
  have hblk3 := hblk.keep (Keep.ofBelow hb3) (by simp)
  clear hck hb3 hblk hal
  have x0 := hblk3.cell 0 rfl
  have x1 := hblk3.cell 1 rfl
  have x2c := hblk3.cell 2 rfl
  have x3 := hblk3.cell 3 rfl
  have x4 := hblk3.cell 4 rfl
  have x5 := hblk3.cell 5 rfl
  clear hblk3
  go_wp2_with fail
  refine (hpt.out _).mono ?_
  rintro e w4 ⟨rfl, hb4⟩
  have hal4 := Lib.hid (hal3.trans (hb4.mono hal3.size))
  clear hb4 hal3 hpt x0 x1 x2c x3 x4 x5
  have tb0 := tb_3_0
  have tb1 := tb_3_1
  have tb2 := tb_3_2
  have tb3 := tb_3_3
  have tb4 := tb_3_4
  have tb5 := tb_3_5
  have tb6 := tb_3_6
  have tb7 := tb_3_7
  have tb8 := tb_3_8
  go_wp2
  go_ret
  exact ⟨rfl, hal4.out⟩
/-- The two numbers of wakes. -/
def wkA : V := .mk 2 false 1 ⟨#[]⟩ ⟨#[]⟩ []
def wkB : V := .mk 3 false 0 ⟨#[49, 46, 48]⟩ ⟨#[]⟩ []
theorem one_canon : ([49, 46, 48] : List UInt8) = canon ((1 : Int) * E20) := by
  first | kernel_rfl | (rw [← itoa_canon]; rfl)
theorem one_small : small ((1 : Int) * E20) := ofInt_small 1 (by decide) (by decide)
theorem wkA_may : mayV wkA = true := by
  show chkV 60 wkA = true
  rfl
theorem wkB_chk : chk [49, 46, 48] = true := by rw [one_canon]; exact chk_canon _ one_small
theorem wkB_may : mayV wkB = true := by
  show chkW (fun l => l.all (chkV 59)) wkB = true
  unfold wkB chkW
  dsimp only
  rw [if_neg (by decide), if_neg (by decide), if_neg (by decide), if_pos rfl]
  rw [wkB_chk]
  rfl
theorem wk_equal : equalV false wkA wkB = 1 := by
  unfold equalV
  rw [wkA_may, wkB_may]
  simp only [Bool.and_self, if_true]
  unfold wkA wkB
  rw [eqlV, if_neg (by decide), if_pos (by decide)]
  have h1 : numV 2 1 ⟨#[]⟩ = (1 : Int) * E20 := by unfold numV; rw [if_pos rfl]
  have h2 : numV 3 0 ⟨#[49, 46, 48]⟩ = (1 : Int) * E20 := by
    unfold numV
    rw [if_neg (by decide), show (⟨#[49, 46, 48]⟩ : ByteArray).data.toList = [49, 46, 48] from rfl, wkB_chk, if_pos rfl, one_canon, zof_canon _ one_small]
  rw [h1, h2, decide_eq_true rfl]
  rfl
theorem wk_same : sameP wkA wkB = false := by decide
theorem wk_enc : (encV wkB).length = 8 := by
  unfold wkB
  rw [encV_mk]
  rfl
/-- The world of wakes: two boxes. -/
structure WW (w W : World) : Prop where
  below : Below w.heap.size w W
  env : Env W
  b0 : Blk W w.heap.size #[.int .i64 2, .bool false, .int .i64 1, .string ⟨#[]⟩, .string ⟨#[]⟩, .slice none 0 0] 26
  b1 : Blk W (w.heap.size + 1) #[.int .i64 3, .bool false, .int .i64 0, .string ⟨#[49, 46, 48]⟩, .string ⟨#[]⟩, .slice none 0 0] 26
theorem WW.on {w W W' : World} (h : WW w W) (hb : Below W.heap.size W W') : WW w W' := ⟨h.below.trans (hb.mono h.below.size), h.env.below hb, h.b0.keep (Keep.ofBelow hb) (by simp), h.b1.keep (Keep.ofBelow hb) (by simp)⟩
theorem WW.cells {w W : World} (h : WW w W) : W.cell? ⟨w.heap.size, 0, none⟩ = some (.int .i64 2) ∧ W.cell? ⟨w.heap.size, 1, none⟩ = some (.bool false) ∧ W.cell? ⟨w.heap.size, 2, none⟩ = some (.int .i64 1) ∧ W.cell? ⟨w.heap.size, 3, none⟩ = some (.string ⟨#[]⟩) ∧ W.cell? ⟨w.heap.size, 4, none⟩ = some (.string ⟨#[]⟩) ∧ W.cell? ⟨w.heap.size, 5, none⟩ = some (.slice none 0 0) ∧
    W.cell? ⟨w.heap.size + 1, 0, none⟩ = some (.int .i64 3) ∧ W.cell? ⟨w.heap.size + 1, 1, none⟩ = some (.bool false) ∧ W.cell? ⟨w.heap.size + 1, 2, none⟩ = some (.int .i64 0) ∧ W.cell? ⟨w.heap.size + 1, 3, none⟩ = some (.string ⟨#[49, 46, 48]⟩) ∧ W.cell? ⟨w.heap.size + 1, 4, none⟩ = some (.string ⟨#[]⟩) ∧ W.cell? ⟨w.heap.size + 1, 5, none⟩ = some (.slice none 0 0) :=
  ⟨h.b0.cell 0 rfl, h.b0.cell 1 rfl, h.b0.cell 2 rfl, h.b0.cell 3 rfl, h.b0.cell 4 rfl, h.b0.cell 5 rfl, h.b1.cell 0 rfl, h.b1.cell 1 rfl, h.b1.cell 2 rfl, h.b1.cell 3 rfl, h.b1.cell 4 rfl, h.b1.cell 5 rfl⟩
theorem WW.made (w : World) (hE : Env w) : WW w ((w.alloc (.cells #[.int .i64 2, .bool false, .int .i64 1, .string ⟨#[]⟩, .string ⟨#[]⟩, .slice none 0 0] 26)).alloc (.cells #[.int .i64 3, .bool false, .int .i64 0, .string ⟨#[49, 46, 48]⟩, .string ⟨#[]⟩, .slice none 0 0] 26)) := by
  have hb := (((Keep.refl [] w).alloc (.cells #[.int .i64 2, .bool false, .int .i64 1, .string ⟨#[]⟩, .string ⟨#[]⟩, .slice none 0 0] 26)).alloc (.cells #[.int .i64 3, .bool false, .int .i64 0, .string ⟨#[49, 46, 48]⟩, .string ⟨#[]⟩, .slice none 0 0] 26)).below
  refine ⟨hb, hE.below hb, (Blk.new _ _ _).alloc _, ?_⟩
  have := Blk.new (w.alloc (.cells #[.int .i64 2, .bool false, .int .i64 1, .string ⟨#[]⟩, .string ⟨#[]⟩, .slice none 0 0] 26)) #[.int .i64 3, .bool false, .int .i64 0, .string ⟨#[49, 46, 48]⟩, .string ⟨#[]⟩, .slice none 0 0] 26
  rwa [World.size_alloc] at this
theorem nil_la (W : World) : LA W 1000000 (.slice none 0 0) [] := .mk none 0 [] (by simp) (fun j hj => by simp at hj)
set_option maxRecDepth 100000 in
set_option maxHeartbeats 2000000 in
theorem wakes2_call (w : World) (hE : Env w) : Calls Tryz.prog 9 #[] w fun e w' => e = .returned (.bool true) ∧ Below w.heap.size w w' := by
  have hw := WW.made w hE
  have henc := fun (W : World) (h : WW w W) => encode_call 1000000 (by omega) W h.env 3 false 0 (by unfold In64; omega) (by unfold In64; omega) ⟨#[49, 46, 48]⟩ ⟨#[]⟩ (.slice none 0 0) [] (nil_la W) (by decide) (by decide) (by have := wk_enc; unfold wkB at this; omega)
  have hca := fun (W : World) (h : WW w W) => check_any 1000000 (by omega) W h.env 2 false 1 ⟨#[]⟩ ⟨#[]⟩ (.slice none 0 0) [] (nil_la W) (by decide) (by decide)
  have hcb := fun (W : World) (h : WW w W) => check_any 1000000 (by omega) W h.env 3 false 0 ⟨#[49, 46, 48]⟩ ⟨#[]⟩ (.slice none 0 0) [] (nil_la W) (by decide) (by decide)
  have heq := fun (W : World) (h : WW w W) => equalX_call 1000000 0 (by omega) W h.env 2 false 1 (by unfold In64; omega) ⟨#[]⟩ ⟨#[]⟩ (.slice none 0 0) [] 3 false 0 (by unfold In64; omega) ⟨#[49, 46, 48]⟩ ⟨#[]⟩ (.slice none 0 0) [] (nil_la W) (by decide) (by decide) (nil_la W) (by decide) (by decide)
  have hsm := fun (W : World) (h : WW w W) => same_call 1000000 (by omega) W 2 false 1 ⟨#[]⟩ ⟨#[]⟩ (.slice none 0 0) [] 3 false 0 ⟨#[49, 46, 48]⟩ ⟨#[]⟩ (.slice none 0 0) [] (nil_la W) (nil_la W)
  have htx := fun (W : World) (h : WW w W) => textDec_call W h.env false 0 ⟨#[49, 46, 48]⟩ ⟨#[]⟩ wkB_may (by decide) (by decide)
  have e1 := wkA_may
  have e2 := wkB_may
  have e3 := wk_equal
  have e4 := wk_same
  have e5 := wk_enc
  have e6 : encR wkB = encV wkB := by unfold encR; rw [wkB_may]; rfl
  unfold wkB at e6
  unfold wkA at e1
  unfold wkB at e2 e5
  unfold wkA wkB at e3 e4
  simp only [e2, e6, if_true] at henc
  simp only [e1] at hca
  simp only [e2] at hcb
  rw [show (decide ((0 : Int) = 1)) = false from rfl] at heq
  simp only [e3] at heq
  simp only [e4] at hsm
  generalize encV (.mk 3 false 0 ⟨#[49, 46, 48]⟩ ⟨#[]⟩ []) = EB at *
  clear e1 e2 e3 e4 e6 hE
  unfold agg6 at henc hca hcb heq hsm htx
  replace henc := Lib.hid henc
  replace hca := Lib.hid hca
  replace hcb := Lib.hid hcb
  replace heq := Lib.hid heq
  replace hsm := Lib.hid hsm
  replace htx := Lib.hid htx
  replace e5 := Lib.hid e5
  go_enter Tryz.func9, Tryz.ntmps9
  go_wp2_with fail
  refine (henc.out _ hw).mono ?_
  rintro e w4 ⟨v4, rfl, hbw4⟩
  obtain ⟨ao4, cap4, rfl⟩ := hbw4.form
  rw [e5.out]
  have hw4 := hw.on hbw4.below
  clear hbw4 hw
  obtain ⟨x0, x1, x2c, x3, x4, x5, y0, y1, y2, y3, y4, y5⟩ := WW.cells hw4
  have hw := hw4
  clear hw4
  go_wp2_with fail
  refine (hca.out _ hw).mono ?_
  rintro e w4 ⟨rfl, hb4⟩
  have hw4 := hw.on hb4
  clear hb4 hw
  clear x0 x1 x2c x3 x4 x5 y0 y1 y2 y3 y4 y5
  obtain ⟨x0, x1, x2c, x3, x4, x5, y0, y1, y2, y3, y4, y5⟩ := WW.cells hw4
  have hw := hw4
  clear hw4
  go_wp2_with fail
  refine (hcb.out _ hw).mono ?_
  rintro e w4 ⟨rfl, hb4⟩
  have hw4 := hw.on hb4
  clear hb4 hw
  clear x0 x1 x2c x3 x4 x5 y0 y1 y2 y3 y4 y5
  obtain ⟨x0, x1, x2c, x3, x4, x5, y0, y1, y2, y3, y4, y5⟩ := WW.cells hw4
  have hw := hw4
  clear hw4
  go_wp2_with fail
  refine (heq.out _ hw).mono ?_
  rintro e w4 ⟨rfl, hb4⟩
  have hw4 := hw.on hb4
  clear hb4 hw
  clear x0 x1 x2c x3 x4 x5 y0 y1 y2 y3 y4 y5
  obtain ⟨x0, x1, x2c, x3, x4, x5, y0, y1, y2, y3, y4, y5⟩ := WW.cells hw4
  have hw := hw4
  clear hw4
  go_wp2_with fail
  refine (hsm.out _ hw).mono ?_
  rintro e w4 ⟨rfl, hb4⟩
  have hw4 := hw.on hb4
  clear hb4 hw
  clear x0 x1 x2c x3 x4 x5 y0 y1 y2 y3 y4 y5
  obtain ⟨x0, x1, x2c, x3, x4, x5, y0, y1, y2, y3, y4, y5⟩ := WW.cells hw4
  have hw := hw4
  clear hw4
  go_wp2_with fail
  refine (htx.out _ hw).mono ?_
  rintro e w4 ⟨rfl, hb4⟩
  have hw4 := hw.on hb4
  clear hb4 hw
  clear x0 x1 x2c x3 x4 x5 y0 y1 y2 y3 y4 y5
  obtain ⟨x0, x1, x2c, x3, x4, x5, y0, y1, y2, y3, y4, y5⟩ := WW.cells hw4
  have hw := hw4
  clear hw4
  have hbe := Lib.hid hw.below
  clear hw
  go_wp2
  go_ret
  exact ⟨rfl, hbe.out⟩
end Go.Proofs.YtjncjcellpbhcaaGreatDoor.val
