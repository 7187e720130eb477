/- Texts DecMul, DecOver, DecDiv, one behind the other. -/
import Derived.Test.YtjncjcellpbhcaaGreatDoorDecC
import Derived.Deep.RegionHeld3
import Derived.Deep.LoopGhost
import Derived.OwnWalk
import Derived.Lib.ConvBytes
import Derived.Laws.IdiomStrings
import Derived.Laws.OwnMore
import Derived.Maps.AppendAt
import Derived.Lib.SmallJoins
import Derived.Test.YtjncjcellpbhcaaGreatDoorDecCmp
/- Contract of decimal.Mul. -/
namespace Go.Proofs.YtjncjcellpbhcaaGreatDoor.dec
open Go.ChangeShapes Go.WideShapes Go.ChangeAt Go.RowKit kit
set_option linter.unusedVariables false
set_option linter.unusedSimpArgs false
theorem NW.drew {w W : World} {B : Nat} {s t : Bool} {f g : Nat → Nat} (h : NW w W B s t f g) : NW w W.drew B s t f g := ⟨h.keep.drewN 1, h.le, h.b0, h.b1⟩
/-- What the walk reads of the two numbers. -/
def Held (B : Nat) (s t : Bool) (f g : Nat → Nat) (W : World) : Prop := W.cell? ⟨B, 0, none⟩ = some (.bool s) ∧ W.cell? ⟨B + 1, 0, none⟩ = some (.bool t) ∧ W.rangeAt B 1 (wv f).toList ∧ W.rangeAt (B + 1) 1 (wv g).toList
theorem NW.held {w W : World} {B : Nat} {s t : Bool} {f g : Nat → Nat} (h : NW w W B s t f g) : W.cell? ⟨B, 0, none⟩ = some (.bool s) ∧ W.cell? ⟨B + 1, 0, none⟩ = some (.bool t) ∧ W.rangeAt B 1 (wv f).toList ∧ W.rangeAt (B + 1) 1 (wv g).toList :=
  ⟨h.cells.1, h.cells.2.1, nv_range h.b0, nv_range h.b1⟩
theorem yields_bool {P : Program} {ops : Array Oper} {S : World → Prop} {op : Oper} {a : Act} (hw : Region.wanted op (yielded ops a.tmps) = true) (ty : TypeId) (x : Operand) (ho : op.op = .load ty x)
    (p : Addr) (b : Bool) (hx : a.eval x = .pointer (some p)) (hS : ∀ w, S w → w.cell? p = some (.bool b)) (hu : P.underlying ty = some .bool) : YieldsIf P ops S op (.bool b) a :=
  .inl ⟨hw, fun w hw' => by
    have hc := hS w hw'
    unfold execOp
    simp only [ho, hx, Instr.loadAt, Instr.sureAddr, Sem.run_bind, Sem.run_pure, Result.andThen_ok]
    simp [loadVar, isAgg, run_underlying hu, hc, go_sem]⟩
theorem times_call (N M : Nat) (w : World) (hN : N < B9 ^ 16) (hNM : N * M < B9 ^ 16) :
    Calls Tryz.prog 96 #[.agg (wv (wd N)), .agg (wv (wd M))] w fun e w' => e = .returned (.agg (wv (wd (N * M)))) ∧ Below w.heap.size w w' := by
  have h := times_any (wd N) (wd M) w (wd_lt N) (wd_lt M)
  rw [wv_congr _ _ fun i hi => times_wd N M hN hNM i hi] at h
  exact h
theorem top_sq : top * top ≤ B9 ^ 16 := by unfold top B9; decide
theorem mul_lt {N M : Nat} (hN : N < top) (hM : M < top) : N * M < B9 ^ 16 := Nat.lt_of_lt_of_le (Nat.mul_lt_mul'' hN hM) top_sq
set_option maxHeartbeats 2000000 in
set_option maxRecDepth 100000 in
theorem mul_no (a b : ByteArray) (w : World) (hE : Env w) (hc : (chk a.data.toList && chk b.data.toList) = false) :
    Calls Tryz.prog 61 #[.string a, .string b] w fun e w' => e = .returned (rv ([], 1)) ∧ Below w.heap.size w w' := by
  have hb := fun w hE => both_any a b w hE
  rw [hc, num_eq, num_eq] at hb
  generalize decide (zof a.data.toList < 0) = s at *
  generalize decide (zof b.data.toList < 0) = t at *
  generalize wd (zof a.data.toList).natAbs = f at *
  generalize wd (zof b.data.toList).natAbs = g at *
  replace hb := Lib.hid hb
  replace hE := Lib.hid hE
  go_enter Tryz.func61, Tryz.ntmps61
  go_wp2_with fail
  refine (hb.out _ hE.out).mono ?_
  rintro e w1 ⟨rfl, hb1⟩
  have q0 : Blk ((w1.alloc (.cells (nv false fun _ => 0) 120)).alloc (.cells (nv false fun _ => 0) 120)) w1.heap.size (nv false fun _ => 0) 120 := (Blk.new _ _ _).alloc _
  have q1 : Blk (((w1.alloc (.cells (nv false fun _ => 0) 120)).alloc (.cells (nv false fun _ => 0) 120)).setRow w1.heap.size (nv s f)) (w1.heap.size + 1) (nv false fun _ => 0) 120 := by
    have := Blk.new (w1.alloc (.cells (nv false fun _ => 0) 120)) (nv false fun _ => 0) 120
    rw [World.size_alloc] at this
    exact this.setRow_other (by omega)
  have nw := NW.made hb1 s t f g
  rw [nv_falses] at q0 q1 nw
  replace q0 := Lib.hid q0
  replace q1 := Lib.hid q1
  replace nw := Lib.hid nw
  go_wp2_with (first | (with_reducible refine wpList_store_rowTo rfl 120 (.tmp 6) (.tmp 13) rfl rfl w1.heap.size (nv s f) rfl rfl 120 _ (Blk.eq q0.out) (by rw [nv_size]; exact Tryz.infoN) (zerosTo s f) (nv_one _ _) ?_) | (with_reducible refine wpList_store_rowTo rfl 120 (.tmp 7) (.tmp 14) rfl rfl (w1.heap.size + 1) (nv t g) rfl rfl 120 _ (Blk.eq q1.out) (by rw [nv_size]; exact Tryz.infoN) (zerosTo t g) (nv_one _ _) ?_))
  go_ret2
  exact ⟨rfl, nw.out.keep.below⟩
set_option maxHeartbeats 2000000 in
set_option maxRecDepth 100000 in
theorem mul_yes (a b : ByteArray) (w : World) (hE : Env w) (hc : (chk a.data.toList && chk b.data.toList) = true) :
    Calls Tryz.prog 61 #[.string a, .string b] w fun e w' => e = .returned (rv (mulR (zof a.data.toList) (zof b.data.toList))) ∧ Below w.heap.size w w' := by
  have hb := fun w hE => both_any a b w hE
  rw [hc, num_eq, num_eq] at hb
  have hN : (zof a.data.toList).natAbs < top := zof_small _
  have hM : (zof b.data.toList).natAbs < top := zof_small _
  have hN' := small_lt (zof_small a.data.toList)
  have hM' := small_lt (zof_small b.data.toList)
  have hfin : mulR (zof a.data.toList) (zof b.data.toList) = toldP (decide (zof a.data.toList < 0) != decide (zof b.data.toList < 0)) ((zof a.data.toList).natAbs * (zof b.data.toList).natAbs) 40 := rfl
  generalize mulR (zof a.data.toList) (zof b.data.toList) = R at *
  generalize decide (zof a.data.toList < 0) = s at *
  generalize decide (zof b.data.toList < 0) = t at *
  generalize (zof a.data.toList).natAbs = N at *
  generalize (zof b.data.toList).natAbs = M at *
  obtain ⟨f, hf⟩ : ∃ f, wd N = f := ⟨_, rfl⟩
  obtain ⟨g, hg⟩ : ∃ g, wd M = g := ⟨_, rfl⟩
  rw [hf, hg] at hb
  replace hb := Lib.hid hb
  replace hE := Lib.hid hE
  replace hN := Lib.hid hN
  replace hM := Lib.hid hM
  replace hN' := Lib.hid hN'
  replace hM' := Lib.hid hM'
  replace hf := Lib.hid hf
  replace hg := Lib.hid hg
  replace hfin := Lib.hid hfin
  have hu := Tryz.underlying118
  have hi1 : (Tryz.prog.info? 118).map (·.size) = some (wv f).toList.length := by rw [wv_len]; exact Tryz.infoW
  have hi2 : (Tryz.prog.info? 118).map (·.size) = some (wv g).toList.length := by rw [wv_len]; exact Tryz.infoW
  have hNM := mul_lt hN.out hM.out
  have htim := fun W => times_call N M W hN'.out hNM
  rw [hf.out, hg.out] at htim
  have hsz : (tx (digs (N * M))).size ≤ 100000 := by
    have h1 := (digs_lt (N * M) 144).2 (by rw [show (144 : Nat) = 9 * 16 from rfl, ← pow9]; exact hNM)
    rw [tx_size]; omega
  replace htim := Lib.hid htim
  replace hNM := Lib.hid hNM
  generalize hP : N * M = P at *
  replace hP := Lib.hid hP
  go_enter Tryz.func61, Tryz.ntmps61
  go_wp2_with fail
  refine (hb.out _ hE.out).mono ?_
  rintro e w1 ⟨rfl, hb1⟩
  have q0 : Blk ((w1.alloc (.cells (nv false fun _ => 0) 120)).alloc (.cells (nv false fun _ => 0) 120)) w1.heap.size (nv false fun _ => 0) 120 := (Blk.new _ _ _).alloc _
  have q1 : Blk (((w1.alloc (.cells (nv false fun _ => 0) 120)).alloc (.cells (nv false fun _ => 0) 120)).setRow w1.heap.size (nv s f)) (w1.heap.size + 1) (nv false fun _ => 0) 120 := by
    have := Blk.new (w1.alloc (.cells (nv false fun _ => 0) 120)) (nv false fun _ => 0) 120
    rw [World.size_alloc] at this
    exact this.setRow_other (by omega)
  have nw := NW.made hb1 s t f g
  rw [nv_falses] at q0 q1 nw
  replace q0 := Lib.hid q0
  replace q1 := Lib.hid q1
  replace nw := Lib.hid nw
  go_upto_region 4 with (first | (with_reducible refine wpList_store_rowTo rfl 120 (.tmp 6) (.tmp 13) rfl rfl w1.heap.size (nv s f) rfl rfl 120 _ (Blk.eq q0.out) (by rw [nv_size]; exact Tryz.infoN) (zerosTo s f) (nv_one _ _) ?_) | (with_reducible refine wpList_store_rowTo rfl 120 (.tmp 7) (.tmp 14) rfl rfl (w1.heap.size + 1) (nv t g) rfl rfl 120 _ (Blk.eq q1.out) (by rw [nv_size]; exact Tryz.infoN) (zerosTo t g) (nv_one _ _) ?_))
  generalize (((w1.alloc (.cells #[.bool false, .int .u64 0, .int .u64 0, .int .u64 0, .int .u64 0, .int .u64 0, .int .u64 0, .int .u64 0, .int .u64 0, .int .u64 0, .int .u64 0, .int .u64 0, .int .u64 0, .int .u64 0, .int .u64 0, .int .u64 0, .int .u64 0] 120)).alloc (.cells #[.bool false, .int .u64 0, .int .u64 0, .int .u64 0, .int .u64 0, .int .u64 0, .int .u64 0, .int .u64 0, .int .u64 0, .int .u64 0, .int .u64 0, .int .u64 0, .int .u64 0, .int .u64 0, .int .u64 0, .int .u64 0, .int .u64 0] 120)).setRow w1.heap.size (nv s f)).setRow (w1.heap.size + 1) (nv t g) = W at *; clear q0 q1
  obtain ⟨c0, c1, r0, r1⟩ := nw.out.held
  have hE1 := hE.out.below nw.out.keep.below
  have nd := nw.out.drew
  generalize w1.heap.size = B at *
  replace hE1 := Lib.hid hE1
  replace nd := Lib.hid nd
  refine wp_region_held_drew (S := Held B s t f g) (by kernel_rfl) nd.out.held (fun hS => ?_)
  refine wpAnyH_take (i := 0) (v := .pointer (some ⟨B, 0, none⟩)) rfl (by kernel_rfl) (by kernel_rfl) (by kernel_rfl) (fun _ _ _ h => h) (.inl ⟨by kernel_rfl, fun _ _ => by kernel_rfl⟩) hS ?_; simp only [List.getElem_toArray, List.getElem_cons_succ, List.getElem_cons_zero, Act.put, List.setIfInBounds_toArray, List.set_cons_zero, List.set_cons_succ]
  refine wpAnyH_take (i := 1) (v := .bool s) rfl (by kernel_rfl) (by kernel_rfl) (by kernel_rfl) (fun _ _ _ h => h) (yields_bool (by kernel_rfl) 4 (.tmp 18) rfl ⟨B, 0, none⟩ s rfl (fun _ h => h.1) Tryz.underlying4) hS ?_; simp only [List.getElem_toArray, List.getElem_cons_succ, List.getElem_cons_zero, Act.put, List.setIfInBounds_toArray, List.set_cons_zero, List.set_cons_succ]
  refine wpAnyH_take (i := 2) (v := .pointer (some ⟨B + 1, 0, none⟩)) rfl (by kernel_rfl) (by kernel_rfl) (by kernel_rfl) (fun _ _ _ h => h) (.inl ⟨by kernel_rfl, fun _ _ => by kernel_rfl⟩) hS ?_; simp only [List.getElem_toArray, List.getElem_cons_succ, List.getElem_cons_zero, Act.put, List.setIfInBounds_toArray, List.set_cons_zero, List.set_cons_succ]
  refine wpAnyH_take (i := 3) (v := .bool t) rfl (by kernel_rfl) (by kernel_rfl) (by kernel_rfl) (fun _ _ _ h => h) (yields_bool (by kernel_rfl) 4 (.tmp 20) rfl ⟨B + 1, 0, none⟩ t rfl (fun _ h => h.2.1) Tryz.underlying4) hS ?_; simp only [List.getElem_toArray, List.getElem_cons_succ, List.getElem_cons_zero, Act.put, List.setIfInBounds_toArray, List.set_cons_zero, List.set_cons_succ]
  refine wpAnyH_take (i := 4) (v := .bool (s != t)) rfl (by kernel_rfl) (by kernel_rfl) (by kernel_rfl) (fun _ _ _ h => h) (.inl ⟨by kernel_rfl, fun _ _ => by kernel_rfl⟩) hS ?_; simp only [List.getElem_toArray, List.getElem_cons_succ, List.getElem_cons_zero, Act.put, List.setIfInBounds_toArray, List.set_cons_zero, List.set_cons_succ]
  refine wpAnyH_take (i := 5) (v := .pointer (some ⟨B, 1, none⟩)) rfl (by kernel_rfl) (by kernel_rfl) (by kernel_rfl) (fun _ _ _ h => h) (.inl ⟨by kernel_rfl, fun _ _ => by kernel_rfl⟩) hS ?_; simp only [List.getElem_toArray, List.getElem_cons_succ, List.getElem_cons_zero, Act.put, List.setIfInBounds_toArray, List.set_cons_zero, List.set_cons_succ]
  refine wpAnyH_take (i := 6) (v := .agg (wv f)) rfl (by kernel_rfl) (by kernel_rfl) (by kernel_rfl) (fun _ _ _ h => h) (yieldsIf_load_mid (by kernel_rfl) 118 (.tmp 23) rfl B 1 rfl (wv f).toList _ (fun _ h => h.2.2.1) hu rfl hi1) hS ?_; simp only [List.getElem_toArray, List.getElem_cons_succ, List.getElem_cons_zero, Act.put, List.setIfInBounds_toArray, List.set_cons_zero, List.set_cons_succ]
  refine wpAnyH_take (i := 7) (v := .pointer (some ⟨B + 1, 1, none⟩)) rfl (by kernel_rfl) (by kernel_rfl) (by kernel_rfl) (fun _ _ _ h => h) (.inl ⟨by kernel_rfl, fun _ _ => by kernel_rfl⟩) hS ?_; simp only [List.getElem_toArray, List.getElem_cons_succ, List.getElem_cons_zero, Act.put, List.setIfInBounds_toArray, List.set_cons_zero, List.set_cons_succ]
  refine wpAnyH_take (i := 8) (v := .agg (wv g)) rfl (by kernel_rfl) (by kernel_rfl) (by kernel_rfl) (fun _ _ _ h => h) (yieldsIf_load_mid (by kernel_rfl) 118 (.tmp 25) rfl (B + 1) 1 rfl (wv g).toList _ (fun _ h => h.2.2.2) hu rfl hi2) hS ?_; simp only [List.getElem_toArray, List.getElem_cons_succ, List.getElem_cons_zero, Act.put, List.setIfInBounds_toArray, List.set_cons_zero, List.set_cons_succ]
  refine wpAnyH_ready (rs := [9]) (by kernel_rfl) (by simp) ?_
  refine AllReadyH.cons rfl (fun K hK => ?_) AllReadyH.nil
  clear hS
  go_simp
  refine (htim.out _).mono ?_
  rintro e w2 ⟨rfl, hb2⟩
  go_wp2_with fail
  refine hK.out _ _ ((nd.out.below hb2).held) (fun hS => ?_)
  clear hK K
  try simp only [List.getElem_toArray, List.getElem_cons_succ, List.getElem_cons_zero, Act.put, List.setIfInBounds_toArray, List.set_cons_zero, List.set_cons_succ]
  refine wpAnyH_ready (rs := [10]) (by kernel_rfl) (by simp) ?_
  refine AllReadyH.cons rfl (fun K hK => ?_) AllReadyH.nil
  clear hS
  go_simp
  refine (digits_any P _ (hE1.out.drew.below hb2) hNM.out).mono ?_
  rintro e w3 ⟨rfl, hb3⟩
  go_wp2_with fail
  refine hK.out _ _ (((nd.out.below hb2).below hb3).held) (fun hS => ?_)
  clear hK K
  try simp only [List.getElem_toArray, List.getElem_cons_succ, List.getElem_cons_zero, Act.put, List.setIfInBounds_toArray, List.set_cons_zero, List.set_cons_succ]
  refine wpAnyH_ready (rs := [11]) (by kernel_rfl) (by simp) ?_
  refine AllReadyH.cons rfl (fun K hK => ?_) AllReadyH.nil
  clear hS
  go_simp
  refine (told_at (s != t) (tx (digs P)) P 40 _ rfl _ (digs_val P) (digs_allD P) hsz (by decide)).mono ?_
  rintro e w4 ⟨rfl, hb4⟩
  go_wp2_with fail
  refine hK.out _ _ ((((nd.out.below hb2).below hb3).below hb4).held) (fun hS => ?_)
  clear hK K
  try simp only [List.getElem_toArray, List.getElem_cons_succ, List.getElem_cons_zero, Act.put, List.setIfInBounds_toArray, List.set_cons_zero, List.set_cons_succ]
  refine wpAnyH_take (i := 12) (v := .string (tx (toldP (s != t) P 40).1)) rfl (by kernel_rfl) (by kernel_rfl) (by kernel_rfl) (fun _ _ _ h => h) (.inl ⟨by kernel_rfl, fun _ _ => by kernel_rfl⟩) hS ?_; simp only [List.getElem_toArray, List.getElem_cons_succ, List.getElem_cons_zero, Act.put, List.setIfInBounds_toArray, List.set_cons_zero, List.set_cons_succ]
  refine wpAnyH_take (i := 13) (v := .int .i64 (toldP (s != t) P 40).2) rfl (by kernel_rfl) (by kernel_rfl) (by kernel_rfl) (fun _ _ _ h => h) (.inl ⟨by kernel_rfl, fun _ _ => by kernel_rfl⟩) hS ?_; simp only [List.getElem_toArray, List.getElem_cons_succ, List.getElem_cons_zero, Act.put, List.setIfInBounds_toArray, List.set_cons_zero, List.set_cons_succ]
  refine wpAnyH_take (i := 14) (v := .string (tx (toldP (s != t) P 40).1)) rfl (by kernel_rfl) (by kernel_rfl) (by kernel_rfl) (fun _ _ _ h => h) (.inl ⟨by kernel_rfl, fun _ _ => by kernel_rfl⟩) hS ?_; simp only [List.getElem_toArray, List.getElem_cons_succ, List.getElem_cons_zero, Act.put, List.setIfInBounds_toArray, List.set_cons_zero, List.set_cons_succ]
  refine wpAnyH_take (i := 15) (v := .int .i64 (toldP (s != t) P 40).2) rfl (by kernel_rfl) (by kernel_rfl) (by kernel_rfl) (fun _ _ _ h => h) (.inl ⟨by kernel_rfl, fun _ _ => by kernel_rfl⟩) hS ?_; simp only [List.getElem_toArray, List.getElem_cons_succ, List.getElem_cons_zero, Act.put, List.setIfInBounds_toArray, List.set_cons_zero, List.set_cons_succ]
  refine wpAnyH_done (by kernel_rfl) ?_ _
  go_wp2_with fail
  go_ret2
  exact ⟨by rw [hfin.out]; rfl, (((nd.out.below hb2).below hb3).below hb4).keep.below⟩
def mulT (a b : List UInt8) : List UInt8 × Int := if chk a && chk b then mulR (zof a) (zof b) else ([], 1)
theorem mul_call (a b : ByteArray) (w : World) (hE : Env w) : Calls Tryz.prog 61 #[.string a, .string b] w fun e w' => e = .returned (rv (mulT a.data.toList b.data.toList)) ∧ Below w.heap.size w w' := by
  unfold mulT
  cases hc : (chk a.data.toList && chk b.data.toList)
  · exact mul_no a b w hE hc
  · exact mul_yes a b w hE hc
end Go.Proofs.YtjncjcellpbhcaaGreatDoor.dec

/- Contract of decimal.over. -/
namespace Go.Proofs.YtjncjcellpbhcaaGreatDoor.dec
open Go.ChangeShapes Go.WideShapes Go.ChangeAt Go.RowKit kit
set_option linter.unusedVariables false
set_option linter.unusedSimpArgs false
theorem Keep.grownBy {b : Nat} {w w' : World} (h : Keep [b] w w') : w.grownBy w' (some b) :=
  ⟨h.os, h.tape, h.output, h.size, fun k hk hne => h.block k hk (by simp; exact fun e => hne (by rw [e]))⟩
/-- What over has in hand: the divisor, the rest, ten, the digits, what is told so far. -/
structure OW (w : World) (bb M : Nat) (s : ByteArray) (R : Nat) (os : List UInt8) (W : World) : Prop where
  keep : Keep [] w W
  b3 : Blk W w.heap.size (wv (wd M)) 118
  b5 : Blk W (w.heap.size + 1) (wv (wd R)) 118
  b6 : Blk W (w.heap.size + 1 + 1) (wv (wd 10)) 118
  lt : bb < W.heap.size
  gt : w.heap.size + 1 + 1 + 1 < bb
  byt : ∀ j, j < s.size → W.cell? ⟨bb, j, none⟩ = some (.int .u8 (s.data.toList.getD j 0).toNat)
  own : W.ownsRow (w.heap.size + 1 + 1 + 1) 5 1 (.slice (some ⟨w.heap.size + 1 + 1 + 1, 0, none⟩) os.length s.size) os.length (Lib.byteCells os)
theorem OW.below {w W W' : World} {bb M R : Nat} {s : ByteArray} {os : List UInt8} (h : OW w bb M s R os W) (hb : Below W.heap.size W W') : OW w bb M s R os W' :=
  ⟨h.keep.trans (Keep.ofBelow hb) (by simp), h.b3.keep (Keep.ofBelow hb) (by simp), h.b5.keep (Keep.ofBelow hb) (by simp), h.b6.keep (Keep.ofBelow hb) (by simp), Nat.lt_of_lt_of_le h.lt hb.size, h.gt,
    fun j hj => (hb.cell (p := ⟨bb, j, none⟩) h.lt).trans (h.byt j hj), h.own.kept (row := none) (grown_of_below hb) (.inr (by simp [Value.ownBlock]))⟩
theorem OW.rest {w W W' : World} {bb M R R' : Nat} {s : ByteArray} {os : List UInt8} (h : OW w bb M s R os W) (hk : Keep [w.heap.size + 1] W W') (h5 : Blk W' (w.heap.size + 1) (wv (wd R')) 118) : OW w bb M s R' os W' :=
  ⟨h.keep.trans hk (by simp), h.b3.keep hk (by simp), h5, h.b6.keep hk (by simp), Nat.lt_of_lt_of_le h.lt hk.size, h.gt,
    fun j hj => by
      rw [← h.byt j hj]
      exact World.cell?_of_block (hk.block _ h.lt (by have := h.gt; simp; omega)),
    h.own.kept (row := some (w.heap.size + 1)) (Keep.grownBy hk) (.inr (by simp [Value.ownBlock]; omega))⟩
theorem OW.grow {w W W' : World} {bb M R : Nat} {s : ByteArray} {os os' : List UInt8} (h : OW w bb M s R os W) (hg : W.grownBy W' (some (w.heap.size + 1 + 1 + 1))) (ho : W'.ownsRow (w.heap.size + 1 + 1 + 1) 5 1 (.slice (some ⟨w.heap.size + 1 + 1 + 1, 0, none⟩) os'.length s.size) os'.length (Lib.byteCells os')) : OW w bb M s R os' W' := by
  have e : ∀ {b cs t}, Blk W b cs t → b ≠ w.heap.size + 1 + 1 + 1 → Blk W' b cs t := fun hb hn => (hg.block _ hb.lt (by simpa using hn)).trans hb
  exact ⟨h.keep.grown hg (by simp; omega), e h.b3 (by omega), e h.b5 (by omega), e h.b6 (by omega), Nat.lt_of_lt_of_le h.lt hg.size, h.gt, fun j hj => by
    rw [← h.byt j hj]
    exact World.cell?_of_block (hg.block _ h.lt (by have := h.gt; simp; omega)), ho⟩
theorem wd10 : wv (wd 10) = #[.int .u64 10, .int .u64 0, .int .u64 0, .int .u64 0, .int .u64 0, .int .u64 0, .int .u64 0, .int .u64 0, .int .u64 0, .int .u64 0, .int .u64 0, .int .u64 0, .int .u64 0, .int .u64 0, .int .u64 0, .int .u64 0] := by kernel_rfl
theorem wd_digit (d : Nat) (h : d < 10) : wv (wd d) = #[.int .u64 (d : Nat), .int .u64 0, .int .u64 0, .int .u64 0, .int .u64 0, .int .u64 0, .int .u64 0, .int .u64 0, .int .u64 0, .int .u64 0, .int .u64 0, .int .u64 0, .int .u64 0, .int .u64 0, .int .u64 0, .int .u64 0] := by
  have hB : 10 ≤ B9 := by decide
  rw [wv_congr (wd d) (fun i => if i = 0 then d else 0) (fun i hi => ?_)]
  · rfl
  · unfold wd
    by_cases hi0 : i = 0
    · subst hi0; rw [if_pos rfl, Nat.pow_zero, Nat.div_one, Nat.mod_eq_of_lt (by omega)]
    · rw [if_neg hi0, Nat.div_eq_of_lt, Nat.zero_mod]
      have : B9 ^ 1 ≤ B9 ^ i := Nat.pow_le_pow_right B9_pos (by omega)
      rw [Nat.pow_one] at this; omega
theorem grow10 {R M : Nat} (h : R < M) (hM : M < top) : R < B9 ^ 16 ∧ R * 10 < B9 ^ 16 ∧ R * 10 + 9 < B9 ^ 16 := by
  have h1 : top * 10 + 10 ≤ B9 ^ 16 := by unfold top B9; decide
  omega
theorem OW.start {w W1 : World} {M : Nat} {f : Nat → Nat} (hf : wd M = f) (s : ByteArray)
    (hg : (((w.alloc (.cells (wv f) 118)).alloc (.cells (wv fun _ => 0) 118)).alloc (.cells (wv (wd 10)) 118)).grownBy W1 none)
    (own : W1.ownsRow (w.heap.size + 1 + 1 + 1) 5 1 (.slice (some ⟨w.heap.size + 1 + 1 + 1, 0, none⟩) 0 s.size) 0 []) :
    OW w W1.heap.size M s 0 [] (Lib.bytesWorld W1 5 s) := by
  subst hf
  have q3 : Blk (((w.alloc (.cells (wv (wd M)) 118)).alloc (.cells (wv fun _ => 0) 118)).alloc (.cells (wv (wd 10)) 118)) w.heap.size (wv (wd M)) 118 := ((Blk.new _ _ _).alloc _).alloc _
  have q5 : Blk (((w.alloc (.cells (wv (wd M)) 118)).alloc (.cells (wv fun _ => 0) 118)).alloc (.cells (wv (wd 10)) 118)) (w.heap.size + 1) (wv fun _ => 0) 118 := by
    have := (Blk.new (w.alloc (.cells (wv (wd M)) 118)) (wv fun _ => 0) 118).alloc (.cells (wv (wd 10)) 118)
    rwa [World.size_alloc] at this
  have q6 : Blk (((w.alloc (.cells (wv (wd M)) 118)).alloc (.cells (wv fun _ => 0) 118)).alloc (.cells (wv (wd 10)) 118)) (w.heap.size + 1 + 1) (wv (wd 10)) 118 := by
    have := Blk.new ((w.alloc (.cells (wv (wd M)) 118)).alloc (.cells (wv fun _ => 0) 118)) (wv (wd 10)) 118
    rwa [World.size_alloc, World.size_alloc] at this
  have k0 : Keep [] w (((w.alloc (.cells (wv (wd M)) 118)).alloc (.cells (wv fun _ => 0) 118)).alloc (.cells (wv (wd 10)) 118)) := (((Keep.refl _ _).alloc _).alloc _).alloc _
  have hbw : Below W1.heap.size W1 (Lib.bytesWorld W1 5 s) := Lib.bytesWorld_below _ _ _
  have e : ∀ {b cs t}, Blk (((w.alloc (.cells (wv (wd M)) 118)).alloc (.cells (wv fun _ => 0) 118)).alloc (.cells (wv (wd 10)) 118)) b cs t → Blk (Lib.bytesWorld W1 5 s) b cs t := fun hb => by
    have h1 : Blk W1 _ _ _ := (hg.block _ hb.lt (by simp)).trans hb
    exact (hbw.block _ h1.lt).trans h1
  have hlt : w.heap.size + 1 + 1 + 1 < W1.heap.size := by
    rcases own.2 with ⟨h, _⟩ | ⟨g, cap, cur, hv, _, hgg, _⟩
    · cases h
    · cases hv; exact (Array.getElem?_eq_some_iff.1 hgg).1
  refine ⟨(k0.grown hg (by simp)).trans (Keep.ofBelow hbw) (by simp), e q3, ?_, e q6, ?_, hlt, fun j hj => Lib.bytesWorld_cell W1 _ s j hj, own.kept (row := none) (grown_of_below hbw) (.inr (by simp [Value.ownBlock]))⟩
  · rw [wd_zero]; exact e q5
  · rw [Lib.bytesWorld_size]; omega
theorem add_wcall (b N x : Nat) (w : World) (hB : Blk w b (wv (wd N)) 118) :
    Calls Tryz.prog 119 #[.pointer (some ⟨b, 0, none⟩), .agg (wv (wd x))] w fun e w' => e = .returned (.tuple #[]) ∧ Keep [b] w w' ∧ Blk w' b (wv (wd (N + x))) 118 := by
  have h := add_any b 0 (wv (wd N)) 118 (wd N) (wd x) w hB (fun i hi => by rw [Nat.zero_add]; exact wv_get _ i hi) (wd_lt N) (wd_lt x)
  rw [putW_wv, wv_congr _ _ fun i hi => sumW_wd N x i] at h
  exact h
theorem sub_wcall (b N x : Nat) (w : World) (hB : Blk w b (wv (wd N)) 118) (hx : x ≤ N) :
    Calls Tryz.prog 121 #[.pointer (some ⟨b, 0, none⟩), .agg (wv (wd x))] w fun e w' => e = .returned (.tuple #[]) ∧ Keep [b] w w' ∧ Blk w' b (wv (wd (N - x))) 118 := by
  have h := sub_any b 0 (wv (wd N)) 118 (wd N) (wd x) w hB (fun i hi => by rw [Nat.zero_add]; exact wv_get _ i hi) (wd_lt N) (wd_lt x)
  rw [putW_wv, wv_congr _ _ fun i hi => subW_wd N x i hx] at h
  exact h
theorem cmp_wcall (N M : Nat) (w : World) (hN : N < B9 ^ 16) (hM : M < B9 ^ 16) (r : Int) (hr : sgn N M = r) :
    Calls Tryz.prog 120 #[.agg (wv (wd N)), .agg (wv (wd M))] w fun e w' => e = .returned (.int .i64 r) ∧ Below w.heap.size w w' := by
  have h := compare_any (wd N) (wd M) w
  rw [cmpW_wd, Nat.mod_eq_of_lt hN, Nat.mod_eq_of_lt hM, hr] at h
  exact h
/-- What stands at the head of a round, k digits done. -/
def Done (s : ByteArray) (M k : Nat) (os : List UInt8) : Prop := allD os = true ∧ os.length = k ∧ val os = val (s.data.toList.take k) / M
theorem Done.step {s : ByteArray} {M k : Nat} {os : List UInt8} (h : Done s M k os) (hM : 0 < M) (hk : k < s.size) (d q : Nat) (hd : dv (s.data.toList.getD k 0) = d)
    (h1 : q * M ≤ val (s.data.toList.take k) % M * 10 + d) (h2 : val (s.data.toList.take k) % M * 10 + d - q * M < M) (hq : q < 10) :
    Done s M (k + 1) (os ++ [dg q]) ∧ val (s.data.toList.take (k + 1)) % M = val (s.data.toList.take k) % M * 10 + d - q * M := by
  obtain ⟨a, b, c⟩ := h
  have hl : k < s.data.toList.length := hk
  have ht : s.data.toList.take (k + 1) = s.data.toList.take k ++ [s.data.toList.getD k 0] := by
    rw [List.take_succ_eq_append_getElem hl, List.getD_eq_getElem?_getD, List.getElem?_eq_getElem hl]; rfl
  have hv : val (s.data.toList.take (k + 1)) = val (s.data.toList.take k) * 10 + d := by rw [ht, val_snoc, hd]
  have hm := Nat.div_add_mod (val (s.data.toList.take k)) M
  unfold Done
  generalize val (s.data.toList.take k) = V at *
  generalize val (s.data.toList.take (k + 1)) = V' at *
  have e : V' = M * (V / M * 10 + q) + (V % M * 10 + d - q * M) := by
    rw [hv, Nat.mul_add, Nat.mul_comm M q]
    rw [show M * (V / M * 10) = M * (V / M) * 10 by rw [Nat.mul_assoc]]
    generalize M * (V / M) = X at *
    omega
  have e1 : V' / M = V / M * 10 + q := by
    rw [e, Nat.mul_add_div hM, Nat.div_eq_of_lt h2, Nat.add_zero]
  have e2 : V' % M = V % M * 10 + d - q * M := by
    conv => lhs; rw [e]
    rw [Nat.mul_add_mod, Nat.mod_eq_of_lt h2]
  refine ⟨⟨by rw [allD_append, a]; simp [isD_dg hq], by simp [b], ?_⟩, e2⟩
  rw [val_snoc, c, dv_dg hq, e1]
set_option maxHeartbeats 4000000 in
set_option maxRecDepth 100000 in
theorem over_any (s : ByteArray) (M : Nat) (w : World) (hd : allD s.data.toList = true) (h0 : 0 < s.size) (hl : s.size ≤ 200) (hM0 : 0 < M) (hM : M < top) :
    Calls Tryz.prog 98 #[.string s, .agg (wv (wd M))] w fun e w' => e = .returned (.string ⟨(digs (val s.data.toList / M)).toArray⟩) ∧ Below w.heap.size w w' := by
  obtain ⟨i0, hi, hx⟩ := Option.map_eq_some_iff.1 infoByte
  simp only [Prod.mk.injEq] at hx
  obtain ⟨hz0, hz1, hz2⟩ := hx
  replace hi := Lib.hid hi
  replace hz0 := Lib.hid hz0
  replace hz1 := Lib.hid hz1
  replace hz2 := Lib.hid hz2
  have hcv := fun (w : World) => Lib.run_convert_string_bytes (P := Tryz.prog) w 9 23 5 s Tryz.underlying9 Tryz.underlying23 Tryz.underlying5
  have hdig : ∀ k, k < s.size → isD (s.data.toList.getD k 0) = true := fun k hk => by
    have hl : k < s.data.toList.length := hk
    rw [List.getD_eq_getElem?_getD, List.getElem?_eq_getElem hl]
    exact List.all_eq_true.1 hd _ (List.getElem_mem hl)
  replace hd := Lib.hid hd
  replace hM := Lib.hid hM
  replace hdig := Lib.hid hdig
  generalize hf : wd M = f
  replace hf := Lib.hid hf
  have hli : (s.size : Int) ≤ 200 := by omega
  go_enter Tryz.func98, Tryz.ntmps98
  go_wp2_with fail
  go_step3
  go_wp2_with (at_make; refine wpList_make_own _ rfl _ _ 23 rfl (w.heap.size + 1 + 1 + 1) 5 i0 (.int .u8 0) 1 Tryz.underlying23 hi.out hz0.out hz1.out _ _ _ s.size rfl rfl (by first | rfl | omega) (by rw [hz2.out]; omega) (by unfold maxLen; omega) (by simp) ?_; intro W1 own1 grow1; simp only [World.size_alloc] at own1; have hs1 := grow1.size; have gb1 := Lib.hid grow1; clear grow1; replace own1 := Lib.hid own1)
  go_step3
  go_wp2_with fail
  have ow := OW.start hf.out s (by rw [wv_zero, wd10]; exact gb1.out) own1.out
  clear own1 gb1 hcv hs1
  generalize Lib.bytesWorld W1 5 s = W at *
  generalize hbb : W1.heap.size = bb at *
  have hgt := ow.gt
  clear hbb
  generalize grownCap W1 s.size 0 5 = cp at *
  replace ow := Lib.hid ow
  go_loopg [7, 18] s.size (fun g v7 v18 wr => ∃ (k : Nat) (os : List UInt8), k + g = s.size ∧ v18 = .int .i64 k ∧ v7 = .slice (some ⟨w.heap.size + 1 + 1 + 1, 0, none⟩) os.length s.size ∧ Hid (Done s M k os) ∧ Hid (OW w bb M s (val (s.data.toList.take k) % M) os wr))
  case atStart => exact ⟨0, [], by omega, rfl, rfl, ⟨rfl, rfl, by simp [val]⟩, by show OW _ _ _ _ _ _ _; rw [List.take_zero]; simp [val]; exact ow.out⟩
  case round =>
    clear ow
    obtain ⟨k, os, hkg, rfl, rfl, hdo, ow⟩ := hrel
    cases gk with
    | zero =>
      have hks : k = s.size := by omega
      have hki : ¬ ((k : Int) < (s.size : Int)) := by omega
      have hval : trimL os = digs (val s.data.toList / M) := by
        rw [trimL_eq hdo.out.1, hdo.out.2.2, hks, List.take_of_length_le (show s.data.toList.length ≤ s.size from Nat.le_refl _)]
      have hown := ow.out.own
      have hcb : (convert 23 9 (.slice (some ⟨w.heap.size + 1 + 1 + 1, 0, none⟩) os.length s.size)).run Tryz.prog wr = .ok (.string ⟨os.toArray⟩) wr := by
        refine run_convert_bytes_back wr 23 9 5 ⟨w.heap.size + 1 + 1 + 1, 0, none⟩ s.size os Tryz.underlying23 Tryz.underlying5 Tryz.underlying9 (fun j hj => ?_)
        rw [Addr.add_mid, Nat.zero_add, hown.cellAt j (by omega)]
        simp [Lib.byteCells, hj]
      have hkeep := ow.out.keep
      clear ow hown hdo
      replace hval := Lib.hid hval
      replace hkeep := Lib.hid hkeep
      go_wp2_with fail
      refine (Tryz.strings_TrimLeft_one _ 48 (by decide) _).mono ?_
      rintro e w2 ⟨rfl, rfl⟩
      go_wp2
      rw [Exit.noGoto_ret]
      go_ret
      exact ⟨ret_val (by rw [← hval.out]; rfl), hkeep.out.below⟩
    | succ g =>
      have hk : k < s.size := by omega
      have hki : (k : Int) < (s.size : Int) := by omega
      obtain ⟨d, hdd⟩ : ∃ d, dv (s.data.toList.getD k 0) = d := ⟨_, rfl⟩
      have hd10 : d < 10 := by rw [← hdd]; exact dv_lt (hdig.out k hk)
      have hcd : ((s.data.toList.getD k 0).toNat : Int) = 48 + (d : Int) := by
        have h1 := dg_dv (hdig.out k hk)
        rw [hdd] at h1
        rw [← h1, dg_toNat hd10]; rfl
      have hcell : wr.cell? ⟨bb, k, none⟩ = some (.int .u8 (48 + (d : Int))) := by rw [ow.out.byt k hk, hcd]
      have hol : os.length = k := hdo.out.2.1
      have hRM : val (s.data.toList.take k) % M < M := Nat.mod_lt _ hM0
      obtain ⟨hB1, hB2, hB3⟩ := grow10 hRM hM.out
      have hMB : M < B9 ^ 16 := Nat.lt_of_lt_of_le hM.out top_lt
      clear hcd
      replace hdd := Lib.hid hdd
      replace hol := Lib.hid hol
      obtain ⟨R, hR⟩ : ∃ R, val (s.data.toList.take k) % M = R := ⟨_, rfl⟩
      rw [hR] at ow hRM hB1 hB2 hB3
      replace hR := Lib.hid hR
      replace hB1 := Lib.hid hB1
      replace hB2 := Lib.hid hB2
      replace hB3 := Lib.hid hB3
      replace hMB := Lib.hid hMB
      go_wp2_with (first | (with_reducible refine wpList_load_row rfl 118 (.tmp 5) rfl (w.heap.size + 1) rfl 118 _ (0, 0) _ (Blk.eq ow.out.b5) Tryz.underlying118 rfl (by rw [wv_size]; exact Tryz.infoW) ?_) | (with_reducible refine wpList_load_row rfl 118 (.tmp 6) rfl (w.heap.size + 1 + 1) rfl 118 _ (0, 0) _ (Blk.eq ow.out.b6) Tryz.underlying118 rfl (by rw [wv_size]; exact Tryz.infoW) ?_))
      refine (times_call R 10 _ hB1.out hB2.out).mono ?_
      rintro e w2 ⟨rfl, hb2⟩
      have ow2 := ow.out.below hb2
      have b5 := ow2.b5
      have ow3 := ow2.rest ((Keep.refl [w.heap.size + 1] w2).setRow (by simp) (wv (wd (R * 10)))) (Blk.setRow b5)
      clear hb2 ow
      replace ow2 := Lib.hid ow2
      replace ow3 := Lib.hid ow3
      replace b5 := Lib.hid b5
      go_wp2_with (first | (with_reducible refine wpList_store_row rfl 118 (.tmp 5) (.tmp 24) rfl (w.heap.size + 1) _ rfl rfl 118 _ (Blk.eq b5.out) (by rw [wv_size]; exact Tryz.infoW) (by rw [wv_size, wv_size]) (wv_one _) ?_))
      rw [show ((48 : Int) + (d : Int) - 48) = (d : Int) by omega, ← wd_digit d hd10]
      refine (add_wcall (w.heap.size + 1) (R * 10) d _ ow3.out.b5).mono ?_
      rintro e w4 ⟨rfl, k4, b4⟩
      have ow4 := ow3.out.rest k4 b4
      clear k4 b4 ow3 ow2 b5
      have hX9 : R * 10 + d < 10 * M := by omega
      have hXB : R * 10 + d < B9 ^ 16 := by have := hB3.out; omega
      obtain ⟨X, hX⟩ : ∃ X, R * 10 + d = X := ⟨_, rfl⟩
      rw [hX] at ow4 hX9 hXB
      replace hX := Lib.hid hX
      replace ow4 := Lib.hid ow4
      replace hXB := Lib.hid hXB
      clear hcell hRM hB1 hB2 hB3
      go_wp2_with fail
      go_loopg [7, 10] 10 (fun g2 v7 v10 wy => ∃ q : Nat, q + g2 = 10 ∧ v10 = .int .u8 (48 + (q : Int)) ∧ v7 = .slice (some ⟨w.heap.size + 1 + 1 + 1, 0, none⟩) os.length s.size ∧ q * M ≤ X ∧ Hid (OW w bb M s (X - q * M) os wy))
      case atStart => exact ⟨0, by omega, rfl, rfl, by omega, by show OW _ _ _ _ _ _ _; rw [Nat.zero_mul]; exact ow4.out⟩
      case round =>
        clear ow4
        obtain ⟨q, hq, rfl, rfl, hqX, ow5⟩ := hrel
        have hq10 : q < 10 := by
          apply Classical.byContradiction
          intro hc
          have : q = 10 := by omega
          subst this
          omega
        have hqi : (q : Int) ≤ 9 := by omega
        obtain ⟨Y, hY⟩ : ∃ Y, X - q * M = Y := ⟨_, rfl⟩
        rw [hY] at ow5
        have hYB : Y < B9 ^ 16 := by have := hXB.out; omega
        by_cases hlt : Y < M
        · have hsg : sgn Y M = -1 := by unfold sgn; rw [if_pos hlt]
          have hcm := fun W => cmp_wcall Y M W hYB hMB.out (-1) hsg
          have hfz := hf.out
          replace hcm := Lib.hid hcm
          replace hsg := Lib.hid hsg
          replace hY := Lib.hid hY
          replace hqX := Lib.hid hqX
          replace hlt := Lib.hid hlt
          replace hYB := Lib.hid hYB
          clear hfz
          go_wp2_with (first | (with_reducible refine wpList_load_row rfl 118 (.tmp 5) rfl (w.heap.size + 1) rfl 118 _ (0, 0) _ (Blk.eq ow5.out.b5) Tryz.underlying118 rfl (by rw [wv_size]; exact Tryz.infoW) ?_) | (with_reducible refine wpList_load_row rfl 118 (.tmp 3) rfl (w.heap.size) rfl 118 _ (0, 0) _ (Blk.eq ow5.out.b3) Tryz.underlying118 rfl (by rw [wv_size]; exact Tryz.infoW) ?_))
          refine (hcm.out _).mono ?_
          rintro e w6 ⟨rfl, hb6⟩
          have ow6 := ow5.out.below hb6
          have hown6 := ow6.own
          clear hb6 ow5
          replace ow6 := Lib.hid ow6
          replace hown6 := Lib.hid hown6
          have hol6 : os.length + 1 ≤ s.size := by rw [hol.out]; omega
          go_wp2_with (at_builtin; refine wpList_append_fits _ rfl _ _ 23 rfl (w.heap.size + 1 + 1 + 1) 5 i0 1 Tryz.underlying23 hi.out hz1.out (w.heap.size + 1 + 1 + 1) os.length s.size (Lib.byteCells os) rfl (hown6.out.alloc _) ⟨w6.heap.size, 0, none⟩ 1 1 [.int .u8 (48 + (q : Int))] rfl rfl (cell_one_new _ _ _) (fun x hx => by simp at hx; subst hx; rfl) (by omega) ?_; intro w7 own7 grow7; replace own7 := Lib.hid own7; replace grow7 := Lib.hid grow7)
          go_roundg g
          case measure => omega
          case rel =>
            have hst := hdo.out.step hM0 hk d q hdd.out (by rw [hR.out, hX.out]; exact hqX.out) (by rw [hR.out, hX.out, hY.out]; exact hlt.out) hq10
            rw [hR.out, hX.out, hY.out] at hst
            have ow7 := (ow6.out.below ((Below.refl _ _).alloc (Nat.le_refl _) (.cells #[.int .u8 (48 + (q : Int))] 5))).grow (os' := os ++ [dg q]) grow7.out (by
              have := own7.out
              rw [Lib.byteCells_append, List.length_append, List.length_singleton]
              have e : Lib.byteCells [dg q] = [.int .u8 (48 + (q : Int))] := by simp [Lib.byteCells, dg_toNat hq10]
              rw [e]; exact this)
            exact ⟨k + 1, os ++ [dg q], by omega, by go_num, by simp, hst.1, by show OW _ _ _ _ _ _ _; rw [hst.2]; exact ow7⟩
        · have hsg : 0 ≤ sgn Y M := by unfold sgn; rw [if_neg hlt]; split <;> omega
          obtain ⟨r, hr⟩ : ∃ r, sgn Y M = r := ⟨_, rfl⟩
          have hr0 : 0 ≤ r := by omega
          have hcm := fun W => cmp_wcall Y M W hYB hMB.out r hr
          have hMY : M ≤ Y := by omega
          replace hcm := Lib.hid hcm
          replace hY := Lib.hid hY
          replace hqX := Lib.hid hqX
          replace hMY := Lib.hid hMY
          replace hYB := Lib.hid hYB
          clear hr hsg hlt
          go_wp2_with (first | (with_reducible refine wpList_load_row rfl 118 (.tmp 5) rfl (w.heap.size + 1) rfl 118 _ (0, 0) _ (Blk.eq ow5.out.b5) Tryz.underlying118 rfl (by rw [wv_size]; exact Tryz.infoW) ?_) | (with_reducible refine wpList_load_row rfl 118 (.tmp 3) rfl (w.heap.size) rfl 118 _ (0, 0) _ (Blk.eq ow5.out.b3) Tryz.underlying118 rfl (by rw [wv_size]; exact Tryz.infoW) ?_))
          refine (hcm.out _).mono ?_
          rintro e w6 ⟨rfl, hb6⟩
          have ow6 := ow5.out.below hb6
          clear hb6 ow5
          replace ow6 := Lib.hid ow6
          go_wp2_with (first | (with_reducible refine wpList_load_row rfl 118 (.tmp 3) rfl (w.heap.size) rfl 118 _ (0, 0) _ (Blk.eq ow6.out.b3) Tryz.underlying118 rfl (by rw [wv_size]; exact Tryz.infoW) ?_))
          refine (sub_wcall (w.heap.size + 1) Y M _ ow6.out.b5 hMY.out).mono ?_
          rintro e w7 ⟨rfl, k7, b7⟩
          have ow7 := ow6.out.rest k7 b7
          clear k7 b7 ow6
          replace ow7 := Lib.hid ow7
          go_wp2_with fail
          go_roundg (gk - 1)
          case measure => omega
          case rel =>
            have e : X - (q + 1) * M = Y - M := by rw [Nat.succ_mul]; have := hY.out; omega
            exact ⟨q + 1, by omega, by go_num, rfl, by rw [Nat.succ_mul]; have := hY.out; have := hMY.out; have := hqX.out; omega, by show OW _ _ _ _ _ _ _; rw [e]; exact ow7.out⟩
end Go.Proofs.YtjncjcellpbhcaaGreatDoor.dec

/- Contracts of decimal.Div, Neg. -/
namespace Go.Proofs.YtjncjcellpbhcaaGreatDoor.dec
open Go.ChangeShapes Go.WideShapes Go.ChangeAt Go.RowKit kit
set_option linter.unusedVariables false
set_option linter.unusedSimpArgs false
set_option maxHeartbeats 2000000 in
set_option maxRecDepth 100000 in
theorem div_no (a b : ByteArray) (w : World) (hE : Env w) (hc : (chk a.data.toList && chk b.data.toList) = false) :
    Calls Tryz.prog 62 #[.string a, .string b] w fun e w' => e = .returned (rv ([], 1)) ∧ Below w.heap.size w w' := by
  have hb := fun w hE => both_any a b w hE
  rw [hc, num_eq, num_eq] at hb
  generalize decide (zof a.data.toList < 0) = s at *
  generalize decide (zof b.data.toList < 0) = t at *
  generalize wd (zof a.data.toList).natAbs = f at *
  generalize wd (zof b.data.toList).natAbs = g at *
  replace hb := Lib.hid hb
  replace hE := Lib.hid hE
  go_enter Tryz.func62, Tryz.ntmps62
  go_wp2_with fail
  refine (hb.out _ hE.out).mono ?_
  rintro e w1 ⟨rfl, hb1⟩
  have q0 : Blk ((w1.alloc (.cells (nv false fun _ => 0) 120)).alloc (.cells (nv false fun _ => 0) 120)) w1.heap.size (nv false fun _ => 0) 120 := (Blk.new _ _ _).alloc _
  have q1 : Blk (((w1.alloc (.cells (nv false fun _ => 0) 120)).alloc (.cells (nv false fun _ => 0) 120)).setRow w1.heap.size (nv s f)) (w1.heap.size + 1) (nv false fun _ => 0) 120 := by
    have := Blk.new (w1.alloc (.cells (nv false fun _ => 0) 120)) (nv false fun _ => 0) 120
    rw [World.size_alloc] at this
    exact this.setRow_other (by omega)
  have nw := NW.made hb1 s t f g
  rw [nv_falses] at q0 q1 nw
  replace q0 := Lib.hid q0
  replace q1 := Lib.hid q1
  replace nw := Lib.hid nw
  go_wp2_with (first | (with_reducible refine wpList_store_rowTo rfl 120 (.tmp 6) (.tmp 13) rfl rfl w1.heap.size (nv s f) rfl rfl 120 _ (Blk.eq q0.out) (by rw [nv_size]; exact Tryz.infoN) (zerosTo s f) (nv_one _ _) ?_) | (with_reducible refine wpList_store_rowTo rfl 120 (.tmp 7) (.tmp 14) rfl rfl (w1.heap.size + 1) (nv t g) rfl rfl 120 _ (Blk.eq q1.out) (by rw [nv_size]; exact Tryz.infoN) (zerosTo t g) (nv_one _ _) ?_))
  go_ret2
  exact ⟨rfl, nw.out.keep.below⟩
set_option maxHeartbeats 2000000 in
set_option maxRecDepth 100000 in
theorem div_zero (a b : ByteArray) (w : World) (hE : Env w) (hc : (chk a.data.toList && chk b.data.toList) = true) (hz : zof b.data.toList = 0) :
    Calls Tryz.prog 62 #[.string a, .string b] w fun e w' => e = .returned (rv ([], 3)) ∧ Below w.heap.size w w' := by
  have hb := fun w hE => both_any a b w hE
  rw [hc, num_eq, num_eq] at hb
  have hzw : allZ (wd (zof b.data.toList).natAbs) = true := by rw [hz]; rfl
  generalize decide (zof a.data.toList < 0) = s at *
  generalize decide (zof b.data.toList < 0) = t at *
  generalize wd (zof a.data.toList).natAbs = f at *
  generalize wd (zof b.data.toList).natAbs = g at *
  have heq := eq_words g
  rw [hzw] at heq
  clear hz hzw
  replace hb := Lib.hid hb
  replace hE := Lib.hid hE
  go_enter Tryz.func62, Tryz.ntmps62
  go_wp2_with fail
  refine (hb.out _ hE.out).mono ?_
  rintro e w1 ⟨rfl, hb1⟩
  have q0 : Blk ((w1.alloc (.cells (nv false fun _ => 0) 120)).alloc (.cells (nv false fun _ => 0) 120)) w1.heap.size (nv false fun _ => 0) 120 := (Blk.new _ _ _).alloc _
  have q1 : Blk (((w1.alloc (.cells (nv false fun _ => 0) 120)).alloc (.cells (nv false fun _ => 0) 120)).setRow w1.heap.size (nv s f)) (w1.heap.size + 1) (nv false fun _ => 0) 120 := by
    have := Blk.new (w1.alloc (.cells (nv false fun _ => 0) 120)) (nv false fun _ => 0) 120
    rw [World.size_alloc] at this
    exact this.setRow_other (by omega)
  have nw := NW.made hb1 s t f g
  rw [nv_falses] at q0 q1 nw
  replace q0 := Lib.hid q0
  replace q1 := Lib.hid q1
  replace nw := Lib.hid nw
  go_upto_region 4 with (first | (with_reducible refine wpList_store_rowTo rfl 120 (.tmp 6) (.tmp 13) rfl rfl w1.heap.size (nv s f) rfl rfl 120 _ (Blk.eq q0.out) (by rw [nv_size]; exact Tryz.infoN) (zerosTo s f) (nv_one _ _) ?_) | (with_reducible refine wpList_store_rowTo rfl 120 (.tmp 7) (.tmp 14) rfl rfl (w1.heap.size + 1) (nv t g) rfl rfl 120 _ (Blk.eq q1.out) (by rw [nv_size]; exact Tryz.infoN) (zerosTo t g) (nv_one _ _) ?_))
  generalize (((w1.alloc (.cells #[.bool false, .int .u64 0, .int .u64 0, .int .u64 0, .int .u64 0, .int .u64 0, .int .u64 0, .int .u64 0, .int .u64 0, .int .u64 0, .int .u64 0, .int .u64 0, .int .u64 0, .int .u64 0, .int .u64 0, .int .u64 0, .int .u64 0] 120)).alloc (.cells #[.bool false, .int .u64 0, .int .u64 0, .int .u64 0, .int .u64 0, .int .u64 0, .int .u64 0, .int .u64 0, .int .u64 0, .int .u64 0, .int .u64 0, .int .u64 0, .int .u64 0, .int .u64 0, .int .u64 0, .int .u64 0, .int .u64 0] 120)).setRow w1.heap.size (nv s f)).setRow (w1.heap.size + 1) (nv t g) = W at *; clear q0 q1
  go_wp2_with (first | (with_reducible refine wpList_load_mid rfl 118 (.tmp 18) rfl (w1.heap.size + 1) 1 rfl _ _ (nv_range nw.out.b1) Tryz.underlying118 rfl (by rw [wv_len]; exact Tryz.infoW) ?_))
  go_ret2
  exact ⟨rfl, nw.out.keep.below⟩
/-- What over is handed, of an amount. -/
theorem twenty (N : Nat) (hN : N < top) : allD (digs N ++ List.replicate 20 48) = true ∧ val (digs N ++ List.replicate 20 48) = N * E20 ∧ (digs N ++ List.replicate 20 48).length ≤ 200 ∧ 0 < (digs N ++ List.replicate 20 48).length := by
  have hl : (digs N).length ≤ 60 := (digs_lt N 60).2 hN
  refine ⟨by rw [allD_append, digs_allD, allD_replicate]; rfl, ?_, ?_, ?_⟩
  · rw [val_append, digs_val, val_replicate, List.length_replicate, Nat.add_zero]; rfl
  · rw [List.length_append, List.length_replicate]; omega
  · rw [List.length_append, List.length_replicate]; omega
theorem over_call (s : ByteArray) (N M : Nat) (w : World) (hs : s.data.toList = digs N ++ List.replicate 20 48) (hN : N < top) (hM0 : 0 < M) (hM : M < top) :
    Calls Tryz.prog 98 #[.string s, .agg (wv (wd M))] w fun e w' => e = .returned (.string (tx (digs (N * E20 / M)))) ∧ Below w.heap.size w w' := by
  obtain ⟨h1, h2, h3, h4⟩ := twenty N hN
  rw [← hs] at h1 h2 h3 h4
  have h := over_any s M w h1 h4 h3 hM0 hM
  rw [h2] at h
  exact h
set_option maxHeartbeats 4000000 in
set_option maxRecDepth 100000 in
theorem div_yes (a b : ByteArray) (w : World) (hE : Env w) (hc : (chk a.data.toList && chk b.data.toList) = true) (hz : zof b.data.toList ≠ 0) :
    Calls Tryz.prog 62 #[.string a, .string b] w fun e w' => e = .returned (rv (txt (quo (zof a.data.toList) (zof b.data.toList)))) ∧ Below w.heap.size w w' := by
  have hb := fun w hE => both_any a b w hE
  rw [hc, num_eq, num_eq] at hb
  have hN : (zof a.data.toList).natAbs < top := zof_small _
  have hM : (zof b.data.toList).natAbs < top := zof_small _
  have hN' := small_lt (zof_small a.data.toList)
  have hM' := small_lt (zof_small b.data.toList)
  have hM0 : 0 < (zof b.data.toList).natAbs := by omega
  have hfin : toldP (decide (zof a.data.toList < 0) != decide (zof b.data.toList < 0)) ((zof a.data.toList).natAbs * E20 / (zof b.data.toList).natAbs) 20 = txt (quo (zof a.data.toList) (zof b.data.toList)) := toldP_20 _ _
  clear hz
  generalize txt (quo (zof a.data.toList) (zof b.data.toList)) = R at *
  generalize decide (zof a.data.toList < 0) = s at *
  generalize decide (zof b.data.toList < 0) = t at *
  generalize (zof a.data.toList).natAbs = N at *
  generalize (zof b.data.toList).natAbs = M at *
  obtain ⟨f, hf⟩ : ∃ f, wd N = f := ⟨_, rfl⟩
  obtain ⟨g, hg⟩ : ∃ g, wd M = g := ⟨_, rfl⟩
  rw [hf, hg] at hb
  replace hb := Lib.hid hb
  replace hE := Lib.hid hE
  replace hN := Lib.hid hN
  replace hM := Lib.hid hM
  replace hN' := Lib.hid hN'
  replace hM' := Lib.hid hM'
  replace hf := Lib.hid hf
  replace hg := Lib.hid hg
  replace hfin := Lib.hid hfin
  have hu := Tryz.underlying118
  have hi1 : (Tryz.prog.info? 118).map (·.size) = some (wv f).toList.length := by rw [wv_len]; exact Tryz.infoW
  have hi2 : (Tryz.prog.info? 118).map (·.size) = some (wv g).toList.length := by rw [wv_len]; exact Tryz.infoW
  have heq := eq_words g
  have hall : allZ g = false := by rw [← hg.out, allZ_wd M hM'.out, decide_eq_false (by omega)]
  rw [hall] at heq
  have hlen : (digs N).length ≤ 60 := (digs_lt N 60).2 hN.out
  have hsz : (tx (digs (N * E20 / M))).size ≤ 100000 := by
    have h1 := (digs_lt (N * E20 / M) 80).2 (by
      refine Nat.lt_of_le_of_lt (Nat.div_le_self _ _) ?_
      rw [show (80 : Nat) = 60 + 20 from rfl, Nat.pow_add]
      exact Nat.mul_lt_mul_of_pos_right hN.out E20_pos)
    rw [tx_size]; omega
  have hdig := fun W hE => digits_any N W hE hN'.out
  rw [hf.out] at hdig
  obtain ⟨dn, hdn⟩ : ∃ dn : ByteArray, (⟨(digs N).toArray⟩ : ByteArray) = dn := ⟨_, rfl⟩
  have hdnl : dn.data.toList = digs N := by rw [← hdn]
  rw [hdn] at hdig
  obtain ⟨rp, hrp⟩ : ∃ rp : ByteArray, (⟨(Lib.repeatL (ByteArray.mk #[48]).data.toList 20).toArray⟩ : ByteArray) = rp := ⟨_, rfl⟩
  have hrpl : rp.data.toList = List.replicate 20 48 := by rw [← hrp]; exact repeatL_48 20
  have hrep := fun W => Tryz.strings_Repeat ⟨#[48]⟩ 20 W (by decide) (by decide)
  rw [hrp] at hrep
  have htb : (dn ++ rp).data.toList = digs N ++ List.replicate 20 48 := by rw [← hdnl, ← hrpl]; simp
  have hsum : (dn.size : Int) + (rp.size : Int) ≤ 9223372036854775807 := by
    have h1 : dn.size = dn.data.toList.length := rfl
    have h2 : rp.size = rp.data.toList.length := rfl
    rw [h1, h2, hdnl, hrpl, List.length_replicate]; omega
  clear hall hdn hdnl hrp hrpl hlen
  replace hdig := Lib.hid hdig
  have hov := fun W => over_call (dn ++ rp) N M W htb hN.out hM0 hM.out
  rw [hg.out] at hov
  clear htb
  replace hov := Lib.hid hov
  replace hsum := Lib.hid hsum
  replace hrep := Lib.hid hrep
  replace hsz := Lib.hid hsz
  go_enter Tryz.func62, Tryz.ntmps62
  go_wp2_with fail
  refine (hb.out _ hE.out).mono ?_
  rintro e w1 ⟨rfl, hb1⟩
  have q0 : Blk ((w1.alloc (.cells (nv false fun _ => 0) 120)).alloc (.cells (nv false fun _ => 0) 120)) w1.heap.size (nv false fun _ => 0) 120 := (Blk.new _ _ _).alloc _
  have q1 : Blk (((w1.alloc (.cells (nv false fun _ => 0) 120)).alloc (.cells (nv false fun _ => 0) 120)).setRow w1.heap.size (nv s f)) (w1.heap.size + 1) (nv false fun _ => 0) 120 := by
    have := Blk.new (w1.alloc (.cells (nv false fun _ => 0) 120)) (nv false fun _ => 0) 120
    rw [World.size_alloc] at this
    exact this.setRow_other (by omega)
  have nw := NW.made hb1 s t f g
  rw [nv_falses] at q0 q1 nw
  replace q0 := Lib.hid q0
  replace q1 := Lib.hid q1
  replace nw := Lib.hid nw
  go_upto_region 4 with (first | (with_reducible refine wpList_store_rowTo rfl 120 (.tmp 6) (.tmp 13) rfl rfl w1.heap.size (nv s f) rfl rfl 120 _ (Blk.eq q0.out) (by rw [nv_size]; exact Tryz.infoN) (zerosTo s f) (nv_one _ _) ?_) | (with_reducible refine wpList_store_rowTo rfl 120 (.tmp 7) (.tmp 14) rfl rfl (w1.heap.size + 1) (nv t g) rfl rfl 120 _ (Blk.eq q1.out) (by rw [nv_size]; exact Tryz.infoN) (zerosTo t g) (nv_one _ _) ?_))
  generalize (((w1.alloc (.cells #[.bool false, .int .u64 0, .int .u64 0, .int .u64 0, .int .u64 0, .int .u64 0, .int .u64 0, .int .u64 0, .int .u64 0, .int .u64 0, .int .u64 0, .int .u64 0, .int .u64 0, .int .u64 0, .int .u64 0, .int .u64 0, .int .u64 0] 120)).alloc (.cells #[.bool false, .int .u64 0, .int .u64 0, .int .u64 0, .int .u64 0, .int .u64 0, .int .u64 0, .int .u64 0, .int .u64 0, .int .u64 0, .int .u64 0, .int .u64 0, .int .u64 0, .int .u64 0, .int .u64 0, .int .u64 0, .int .u64 0] 120)).setRow w1.heap.size (nv s f)).setRow (w1.heap.size + 1) (nv t g) = W at *; clear q0 q1
  go_upto_region 6 with (first | (with_reducible refine wpList_load_mid rfl 118 (.tmp 18) rfl (w1.heap.size + 1) 1 rfl _ _ (nv_range nw.out.b1) Tryz.underlying118 rfl (by rw [wv_len]; exact Tryz.infoW) ?_))
  obtain ⟨c0, c1, r0, r1⟩ := nw.out.held
  have hE1 := hE.out.below nw.out.keep.below
  have nd := nw.out.drew
  generalize w1.heap.size = B at *
  clear heq
  replace hE1 := Lib.hid hE1
  replace nd := Lib.hid nd
  refine wp_region_held_drew (S := Held B s t f g) (by kernel_rfl) nd.out.held (fun hS => ?_)
  refine wpAnyH_take (i := 0) (v := .pointer (some ⟨B, 0, none⟩)) rfl (by kernel_rfl) (by kernel_rfl) (by kernel_rfl) (fun _ _ _ h => h) (.inl ⟨by kernel_rfl, fun _ _ => by kernel_rfl⟩) hS ?_; simp only [List.getElem_toArray, List.getElem_cons_succ, List.getElem_cons_zero, Act.put, List.setIfInBounds_toArray, List.set_cons_zero, List.set_cons_succ]
  refine wpAnyH_take (i := 1) (v := .bool s) rfl (by kernel_rfl) (by kernel_rfl) (by kernel_rfl) (fun _ _ _ h => h) (yields_bool (by kernel_rfl) 4 (.tmp 22) rfl ⟨B, 0, none⟩ s rfl (fun _ h => h.1) Tryz.underlying4) hS ?_; simp only [List.getElem_toArray, List.getElem_cons_succ, List.getElem_cons_zero, Act.put, List.setIfInBounds_toArray, List.set_cons_zero, List.set_cons_succ]
  refine wpAnyH_take (i := 2) (v := .pointer (some ⟨B + 1, 0, none⟩)) rfl (by kernel_rfl) (by kernel_rfl) (by kernel_rfl) (fun _ _ _ h => h) (.inl ⟨by kernel_rfl, fun _ _ => by kernel_rfl⟩) hS ?_; simp only [List.getElem_toArray, List.getElem_cons_succ, List.getElem_cons_zero, Act.put, List.setIfInBounds_toArray, List.set_cons_zero, List.set_cons_succ]
  refine wpAnyH_take (i := 3) (v := .bool t) rfl (by kernel_rfl) (by kernel_rfl) (by kernel_rfl) (fun _ _ _ h => h) (yields_bool (by kernel_rfl) 4 (.tmp 24) rfl ⟨B + 1, 0, none⟩ t rfl (fun _ h => h.2.1) Tryz.underlying4) hS ?_; simp only [List.getElem_toArray, List.getElem_cons_succ, List.getElem_cons_zero, Act.put, List.setIfInBounds_toArray, List.set_cons_zero, List.set_cons_succ]
  refine wpAnyH_take (i := 4) (v := .bool (s != t)) rfl (by kernel_rfl) (by kernel_rfl) (by kernel_rfl) (fun _ _ _ h => h) (.inl ⟨by kernel_rfl, fun _ _ => by kernel_rfl⟩) hS ?_; simp only [List.getElem_toArray, List.getElem_cons_succ, List.getElem_cons_zero, Act.put, List.setIfInBounds_toArray, List.set_cons_zero, List.set_cons_succ]
  refine wpAnyH_take (i := 5) (v := .pointer (some ⟨B, 1, none⟩)) rfl (by kernel_rfl) (by kernel_rfl) (by kernel_rfl) (fun _ _ _ h => h) (.inl ⟨by kernel_rfl, fun _ _ => by kernel_rfl⟩) hS ?_; simp only [List.getElem_toArray, List.getElem_cons_succ, List.getElem_cons_zero, Act.put, List.setIfInBounds_toArray, List.set_cons_zero, List.set_cons_succ]
  refine wpAnyH_take (i := 6) (v := .agg (wv f)) rfl (by kernel_rfl) (by kernel_rfl) (by kernel_rfl) (fun _ _ _ h => h) (yieldsIf_load_mid (by kernel_rfl) 118 (.tmp 27) rfl B 1 rfl (wv f).toList _ (fun _ h => h.2.2.1) hu rfl hi1) hS ?_; simp only [List.getElem_toArray, List.getElem_cons_succ, List.getElem_cons_zero, Act.put, List.setIfInBounds_toArray, List.set_cons_zero, List.set_cons_succ]
  refine wpAnyH_take (i := 10) (v := .pointer (some ⟨B + 1, 1, none⟩)) rfl (by kernel_rfl) (by kernel_rfl) (by kernel_rfl) (fun _ _ _ h => h) (.inl ⟨by kernel_rfl, fun _ _ => by kernel_rfl⟩) hS ?_; simp only [List.getElem_toArray, List.getElem_cons_succ, List.getElem_cons_zero, Act.put, List.setIfInBounds_toArray, List.set_cons_zero, List.set_cons_succ]
  refine wpAnyH_take (i := 11) (v := .agg (wv g)) rfl (by kernel_rfl) (by kernel_rfl) (by kernel_rfl) (fun _ _ _ h => h) (yieldsIf_load_mid (by kernel_rfl) 118 (.tmp 32) rfl (B + 1) 1 rfl (wv g).toList _ (fun _ h => h.2.2.2) hu rfl hi2) hS ?_; simp only [List.getElem_toArray, List.getElem_cons_succ, List.getElem_cons_zero, Act.put, List.setIfInBounds_toArray, List.set_cons_zero, List.set_cons_succ]
  refine wpAnyH_ready (rs := [7]) (by kernel_rfl) (by simp) ?_
  refine AllReadyH.cons rfl (fun K hK => ?_) AllReadyH.nil
  clear hS
  go_simp
  refine (hdig.out _ hE1.out.drew).mono ?_
  rintro e w2 ⟨rfl, hb2⟩
  go_wp2_with fail
  refine hK.out _ _ ((nd.out.below hb2).held) (fun hS => ?_)
  clear hK K
  try simp only [List.getElem_toArray, List.getElem_cons_succ, List.getElem_cons_zero, Act.put, List.setIfInBounds_toArray, List.set_cons_zero, List.set_cons_succ]
  refine wpAnyH_ready (rs := [8]) (by kernel_rfl) (by simp) ?_
  refine AllReadyH.cons rfl (fun K hK => ?_) AllReadyH.nil
  clear hS
  go_simp
  refine (hrep.out _).mono ?_
  rintro e w3 ⟨rfl, hb3⟩
  go_wp2_with fail
  refine hK.out _ _ (((nd.out.below hb2).below hb3).held) (fun hS => ?_)
  clear hK K
  try simp only [List.getElem_toArray, List.getElem_cons_succ, List.getElem_cons_zero, Act.put, List.setIfInBounds_toArray, List.set_cons_zero, List.set_cons_succ]
  refine wpAnyH_take (i := 9) (v := .string (dn ++ rp)) rfl (by kernel_rfl) (by kernel_rfl) (by kernel_rfl) (fun _ _ _ h => h) (.inl ⟨by kernel_rfl, fun w _ => by go_simp; have := hsum.out; omega⟩) hS ?_; simp only [List.getElem_toArray, List.getElem_cons_succ, List.getElem_cons_zero, Act.put, List.setIfInBounds_toArray, List.set_cons_zero, List.set_cons_succ]
  refine wpAnyH_ready (rs := [12]) (by kernel_rfl) (by simp) ?_
  refine AllReadyH.cons rfl (fun K hK => ?_) AllReadyH.nil
  clear hS
  go_simp
  refine (hov.out _).mono ?_
  rintro e w4 ⟨rfl, hb4⟩
  go_wp2_with fail
  refine hK.out _ _ ((((nd.out.below hb2).below hb3).below hb4).held) (fun hS => ?_)
  clear hK K
  try simp only [List.getElem_toArray, List.getElem_cons_succ, List.getElem_cons_zero, Act.put, List.setIfInBounds_toArray, List.set_cons_zero, List.set_cons_succ]
  refine wpAnyH_ready (rs := [13]) (by kernel_rfl) (by simp) ?_
  refine AllReadyH.cons rfl (fun K hK => ?_) AllReadyH.nil
  clear hS
  go_simp
  refine (told_at (s != t) (tx (digs (N * E20 / M))) (N * E20 / M) 20 _ rfl _ (digs_val _) (digs_allD _) hsz.out (by decide)).mono ?_
  rintro e w5 ⟨rfl, hb5⟩
  go_wp2_with fail
  refine hK.out _ _ (((((nd.out.below hb2).below hb3).below hb4).below hb5).held) (fun hS => ?_)
  clear hK K
  try simp only [List.getElem_toArray, List.getElem_cons_succ, List.getElem_cons_zero, Act.put, List.setIfInBounds_toArray, List.set_cons_zero, List.set_cons_succ]
  generalize toldP (s != t) (N * E20 / M) 20 = r at *
  refine wpAnyH_take (i := 14) (v := .string (tx r.1)) rfl (by kernel_rfl) (by kernel_rfl) (by kernel_rfl) (fun _ _ _ h => h) (.inl ⟨by kernel_rfl, fun _ _ => by kernel_rfl⟩) hS ?_; simp only [List.getElem_toArray, List.getElem_cons_succ, List.getElem_cons_zero, Act.put, List.setIfInBounds_toArray, List.set_cons_zero, List.set_cons_succ]
  refine wpAnyH_take (i := 15) (v := .int .i64 r.2) rfl (by kernel_rfl) (by kernel_rfl) (by kernel_rfl) (fun _ _ _ h => h) (.inl ⟨by kernel_rfl, fun _ _ => by kernel_rfl⟩) hS ?_; simp only [List.getElem_toArray, List.getElem_cons_succ, List.getElem_cons_zero, Act.put, List.setIfInBounds_toArray, List.set_cons_zero, List.set_cons_succ]
  refine wpAnyH_take (i := 16) (v := .string (tx r.1)) rfl (by kernel_rfl) (by kernel_rfl) (by kernel_rfl) (fun _ _ _ h => h) (.inl ⟨by kernel_rfl, fun _ _ => by kernel_rfl⟩) hS ?_; simp only [List.getElem_toArray, List.getElem_cons_succ, List.getElem_cons_zero, Act.put, List.setIfInBounds_toArray, List.set_cons_zero, List.set_cons_succ]
  refine wpAnyH_take (i := 17) (v := .int .i64 r.2) rfl (by kernel_rfl) (by kernel_rfl) (by kernel_rfl) (fun _ _ _ h => h) (.inl ⟨by kernel_rfl, fun _ _ => by kernel_rfl⟩) hS ?_; simp only [List.getElem_toArray, List.getElem_cons_succ, List.getElem_cons_zero, Act.put, List.setIfInBounds_toArray, List.set_cons_zero, List.set_cons_succ]
  refine wpAnyH_done (by kernel_rfl) ?_ _
  go_wp2_with fail
  go_ret2
  exact ⟨by rw [← hfin.out]; rfl, ((((nd.out.below hb2).below hb3).below hb4).below hb5).keep.below⟩
def divT (a b : List UInt8) : List UInt8 × Int := if chk a && chk b then (if zof b = 0 then ([], 3) else txt (quo (zof a) (zof b))) else ([], 1)
theorem div_call (a b : ByteArray) (w : World) (hE : Env w) : Calls Tryz.prog 62 #[.string a, .string b] w fun e w' => e = .returned (rv (divT a.data.toList b.data.toList)) ∧ Below w.heap.size w w' := by
  unfold divT
  cases hc : (chk a.data.toList && chk b.data.toList)
  · exact div_no a b w hE hc
  · rw [if_pos rfl]
    by_cases hz : zof b.data.toList = 0
    · rw [if_pos hz]; exact div_zero a b w hE hc hz
    · rw [if_neg hz]; exact div_yes a b w hE hc hz
end Go.Proofs.YtjncjcellpbhcaaGreatDoor.dec
