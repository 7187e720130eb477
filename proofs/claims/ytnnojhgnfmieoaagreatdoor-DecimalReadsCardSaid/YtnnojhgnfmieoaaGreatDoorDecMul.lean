/- Contract of decimal.Mul. -/
import Derived.Test.YtnnojhgnfmieoaaGreatDoorDecAdd
import Derived.Deep.RegionHeld3
namespace Go.Proofs.YtnnojhgnfmieoaaGreatDoor.dec
open Go.ChangeShapes Go.WideShapes Go.ChangeAt Go.RowKit kit
set_option linter.unusedVariables false
set_option linter.unusedSimpArgs false
theorem NW.drew {w W : World} {B : Nat} {s t : Bool} {f g : Nat → Nat} (h : NW w W B s t f g) : NW w W.drew B s t f g := ⟨h.keep.drewN 1, h.le, h.b0, h.b1⟩
/-- What the walk reads of the two numbers. -/
def Held (B : Nat) (s t : Bool) (f g : Nat → Nat) (W : World) : Prop := W.cell? ⟨B, 0, none⟩ = some (.bool s) ∧ W.cell? ⟨B + 1, 0, none⟩ = some (.bool t) ∧ W.rangeAt B 1 (wv f).toList ∧ W.rangeAt (B + 1) 1 (wv g).toList
theorem NW.held {w W : World} {B : Nat} {s t : Bool} {f g : Nat → Nat} (h : NW w W B s t f g) : W.cell? ⟨B, 0, none⟩ = some (.bool s) ∧ W.cell? ⟨B + 1, 0, none⟩ = some (.bool t) ∧ W.rangeAt B 1 (wv f).toList ∧ W.rangeAt (B + 1) 1 (wv g).toList :=
  ⟨h.cells.1, h.cells.2.1, nv_range h.b0, nv_range h.b1⟩
theorem yields_bool {P : Program} {ops : Array Oper} {S : World → Prop} {op : Oper} {a : Act} (hw : Region.wanted op (yielded ops a.tmps) = true) (ty : TypeId) (x : Operand) (ho : op.op = .load ty x)
    (p : Addr) (b : Bool) (hx : a.eval x = .pointer (some p)) (hS : ∀ w, S w → w.cell? p = some (.bool b)) (hu : P.underlying ty = some .bool) : YieldsIf P ops S op (.bool b) a :=
  .inl ⟨hw, fun w hw' => by
    have hc := hS w hw'
    unfold execOp
    simp only [ho, hx, Instr.loadAt, Instr.sureAddr, Sem.run_bind, Sem.run_pure, Result.andThen_ok]
    simp [loadVar, isAgg, run_underlying hu, hc, go_sem]⟩
theorem times_call (N M : Nat) (w : World) (hN : N < B9 ^ 16) (hNM : N * M < B9 ^ 16) :
    Calls Tryz.prog 40 #[.agg (wv (wd N)), .agg (wv (wd M))] w fun e w' => e = .returned (.agg (wv (wd (N * M)))) ∧ Below w.heap.size w w' := by
  have h := times_any (wd N) (wd M) w (wd_lt N) (wd_lt M)
  rw [wv_congr _ _ fun i hi => times_wd N M hN hNM i hi] at h
  exact h
theorem top_sq : top * top ≤ B9 ^ 16 := by unfold top B9; decide
theorem mul_lt {N M : Nat} (hN : N < top) (hM : M < top) : N * M < B9 ^ 16 := Nat.lt_of_lt_of_le (Nat.mul_lt_mul'' hN hM) top_sq
set_option maxHeartbeats 2000000 in
set_option maxRecDepth 100000 in
theorem mul_no (a b : ByteArray) (w : World) (hE : Env w) (hc : (chk a.data.toList && chk b.data.toList) = false) :
    Calls Tryz.prog 16 #[.string a, .string b] w fun e w' => e = .returned (rv ([], 1)) ∧ Below w.heap.size w w' := by
  have hb := fun w hE => both_any a b w hE
  rw [hc, num_eq, num_eq] at hb
  generalize decide (zof a.data.toList < 0) = s at *
  generalize decide (zof b.data.toList < 0) = t at *
  generalize wd (zof a.data.toList).natAbs = f at *
  generalize wd (zof b.data.toList).natAbs = g at *
  replace hb := Lib.hid hb
  replace hE := Lib.hid hE
  go_enter Tryz.func16, Tryz.ntmps16
  go_wp2_with fail
  refine (hb.out _ hE.out).mono ?_
  rintro e w1 ⟨rfl, hb1⟩
  have q0 : Blk ((w1.alloc (.cells (nv false fun _ => 0) 42)).alloc (.cells (nv false fun _ => 0) 42)) w1.heap.size (nv false fun _ => 0) 42 := (Blk.new _ _ _).alloc _
  have q1 : Blk (((w1.alloc (.cells (nv false fun _ => 0) 42)).alloc (.cells (nv false fun _ => 0) 42)).setRow w1.heap.size (nv s f)) (w1.heap.size + 1) (nv false fun _ => 0) 42 := by
    have := Blk.new (w1.alloc (.cells (nv false fun _ => 0) 42)) (nv false fun _ => 0) 42
    rw [World.size_alloc] at this
    exact this.setRow_other (by omega)
  have nw := NW.made hb1 s t f g
  rw [nv_falses] at q0 q1 nw
  replace q0 := Lib.hid q0
  replace q1 := Lib.hid q1
  replace nw := Lib.hid nw
  go_wp2_with (first | (with_reducible refine wpList_store_rowTo rfl 42 (.tmp 6) (.tmp 13) rfl rfl w1.heap.size (nv s f) rfl rfl 42 _ (Blk.eq q0.out) (by rw [nv_size]; exact Tryz.infoN) (zerosTo s f) (nv_one _ _) ?_) | (with_reducible refine wpList_store_rowTo rfl 42 (.tmp 7) (.tmp 14) rfl rfl (w1.heap.size + 1) (nv t g) rfl rfl 42 _ (Blk.eq q1.out) (by rw [nv_size]; exact Tryz.infoN) (zerosTo t g) (nv_one _ _) ?_))
  go_ret2
  exact ⟨rfl, nw.out.keep.below⟩
set_option maxHeartbeats 2000000 in
set_option maxRecDepth 100000 in
theorem mul_yes (a b : ByteArray) (w : World) (hE : Env w) (hc : (chk a.data.toList && chk b.data.toList) = true) :
    Calls Tryz.prog 16 #[.string a, .string b] w fun e w' => e = .returned (rv (mulR (zof a.data.toList) (zof b.data.toList))) ∧ Below w.heap.size w w' := by
  have hb := fun w hE => both_any a b w hE
  rw [hc, num_eq, num_eq] at hb
  have hN : (zof a.data.toList).natAbs < top := zof_small _
  have hM : (zof b.data.toList).natAbs < top := zof_small _
  have hN' := small_lt (zof_small a.data.toList)
  have hM' := small_lt (zof_small b.data.toList)
  have hfin : mulR (zof a.data.toList) (zof b.data.toList) = toldP (decide (zof a.data.toList < 0) != decide (zof b.data.toList < 0)) ((zof a.data.toList).natAbs * (zof b.data.toList).natAbs) 40 := rfl
  generalize mulR (zof a.data.toList) (zof b.data.toList) = R at *
  generalize decide (zof a.data.toList < 0) = s at *
  generalize decide (zof b.data.toList < 0) = t at *
  generalize (zof a.data.toList).natAbs = N at *
  generalize (zof b.data.toList).natAbs = M at *
  obtain ⟨f, hf⟩ : ∃ f, wd N = f := ⟨_, rfl⟩
  obtain ⟨g, hg⟩ : ∃ g, wd M = g := ⟨_, rfl⟩
  rw [hf, hg] at hb
  replace hb := Lib.hid hb
  replace hE := Lib.hid hE
  replace hN := Lib.hid hN
  replace hM := Lib.hid hM
  replace hN' := Lib.hid hN'
  replace hM' := Lib.hid hM'
  replace hf := Lib.hid hf
  replace hg := Lib.hid hg
  replace hfin := Lib.hid hfin
  have hu := Tryz.underlying40
  have hi1 : (Tryz.prog.info? 40).map (·.size) = some (wv f).toList.length := by rw [wv_len]; exact Tryz.infoW
  have hi2 : (Tryz.prog.info? 40).map (·.size) = some (wv g).toList.length := by rw [wv_len]; exact Tryz.infoW
  have hNM := mul_lt hN.out hM.out
  have htim := fun W => times_call N M W hN'.out hNM
  rw [hf.out, hg.out] at htim
  have hsz : (tx (digs (N * M))).size ≤ 100000 := by
    have h1 := (digs_lt (N * M) 144).2 (by rw [show (144 : Nat) = 9 * 16 from rfl, ← pow9]; exact hNM)
    rw [tx_size]; omega
  replace htim := Lib.hid htim
  replace hNM := Lib.hid hNM
  generalize hP : N * M = P at *
  replace hP := Lib.hid hP
  go_enter Tryz.func16, Tryz.ntmps16
  go_wp2_with fail
  refine (hb.out _ hE.out).mono ?_
  rintro e w1 ⟨rfl, hb1⟩
  have q0 : Blk ((w1.alloc (.cells (nv false fun _ => 0) 42)).alloc (.cells (nv false fun _ => 0) 42)) w1.heap.size (nv false fun _ => 0) 42 := (Blk.new _ _ _).alloc _
  have q1 : Blk (((w1.alloc (.cells (nv false fun _ => 0) 42)).alloc (.cells (nv false fun _ => 0) 42)).setRow w1.heap.size (nv s f)) (w1.heap.size + 1) (nv false fun _ => 0) 42 := by
    have := Blk.new (w1.alloc (.cells (nv false fun _ => 0) 42)) (nv false fun _ => 0) 42
    rw [World.size_alloc] at this
    exact this.setRow_other (by omega)
  have nw := NW.made hb1 s t f g
  rw [nv_falses] at q0 q1 nw
  replace q0 := Lib.hid q0
  replace q1 := Lib.hid q1
  replace nw := Lib.hid nw
  go_upto_region 4 with (first | (with_reducible refine wpList_store_rowTo rfl 42 (.tmp 6) (.tmp 13) rfl rfl w1.heap.size (nv s f) rfl rfl 42 _ (Blk.eq q0.out) (by rw [nv_size]; exact Tryz.infoN) (zerosTo s f) (nv_one _ _) ?_) | (with_reducible refine wpList_store_rowTo rfl 42 (.tmp 7) (.tmp 14) rfl rfl (w1.heap.size + 1) (nv t g) rfl rfl 42 _ (Blk.eq q1.out) (by rw [nv_size]; exact Tryz.infoN) (zerosTo t g) (nv_one _ _) ?_))
  generalize (((w1.alloc (.cells #[.bool false, .int .u64 0, .int .u64 0, .int .u64 0, .int .u64 0, .int .u64 0, .int .u64 0, .int .u64 0, .int .u64 0, .int .u64 0, .int .u64 0, .int .u64 0, .int .u64 0, .int .u64 0, .int .u64 0, .int .u64 0, .int .u64 0] 42)).alloc (.cells #[.bool false, .int .u64 0, .int .u64 0, .int .u64 0, .int .u64 0, .int .u64 0, .int .u64 0, .int .u64 0, .int .u64 0, .int .u64 0, .int .u64 0, .int .u64 0, .int .u64 0, .int .u64 0, .int .u64 0, .int .u64 0, .int .u64 0] 42)).setRow w1.heap.size (nv s f)).setRow (w1.heap.size + 1) (nv t g) = W at *; clear q0 q1
  obtain ⟨c0, c1, r0, r1⟩ := nw.out.held
  have hE1 := hE.out.below nw.out.keep.below
  have nd := nw.out.drew
  generalize w1.heap.size = B at *
  replace hE1 := Lib.hid hE1
  replace nd := Lib.hid nd
  refine wp_region_held_drew (S := Held B s t f g) (by kernel_rfl) nd.out.held (fun hS => ?_)
  refine wpAnyH_take (i := 0) (v := .pointer (some ⟨B, 0, none⟩)) rfl (by kernel_rfl) (by kernel_rfl) (by kernel_rfl) (fun _ _ _ h => h) (.inl ⟨by kernel_rfl, fun _ _ => by kernel_rfl⟩) hS ?_; simp only [List.getElem_toArray, List.getElem_cons_succ, List.getElem_cons_zero, Act.put, List.setIfInBounds_toArray, List.set_cons_zero, List.set_cons_succ]
  refine wpAnyH_take (i := 1) (v := .bool s) rfl (by kernel_rfl) (by kernel_rfl) (by kernel_rfl) (fun _ _ _ h => h) (yields_bool (by kernel_rfl) 4 (.tmp 18) rfl ⟨B, 0, none⟩ s rfl (fun _ h => h.1) Tryz.underlying4) hS ?_; simp only [List.getElem_toArray, List.getElem_cons_succ, List.getElem_cons_zero, Act.put, List.setIfInBounds_toArray, List.set_cons_zero, List.set_cons_succ]
  refine wpAnyH_take (i := 2) (v := .pointer (some ⟨B + 1, 0, none⟩)) rfl (by kernel_rfl) (by kernel_rfl) (by kernel_rfl) (fun _ _ _ h => h) (.inl ⟨by kernel_rfl, fun _ _ => by kernel_rfl⟩) hS ?_; simp only [List.getElem_toArray, List.getElem_cons_succ, List.getElem_cons_zero, Act.put, List.setIfInBounds_toArray, List.set_cons_zero, List.set_cons_succ]
  refine wpAnyH_take (i := 3) (v := .bool t) rfl (by kernel_rfl) (by kernel_rfl) (by kernel_rfl) (fun _ _ _ h => h) (yields_bool (by kernel_rfl) 4 (.tmp 20) rfl ⟨B + 1, 0, none⟩ t rfl (fun _ h => h.2.1) Tryz.underlying4) hS ?_; simp only [List.getElem_toArray, List.getElem_cons_succ, List.getElem_cons_zero, Act.put, List.setIfInBounds_toArray, List.set_cons_zero, List.set_cons_succ]
  refine wpAnyH_take (i := 4) (v := .bool (s != t)) rfl (by kernel_rfl) (by kernel_rfl) (by kernel_rfl) (fun _ _ _ h => h) (.inl ⟨by kernel_rfl, fun _ _ => by kernel_rfl⟩) hS ?_; simp only [List.getElem_toArray, List.getElem_cons_succ, List.getElem_cons_zero, Act.put, List.setIfInBounds_toArray, List.set_cons_zero, List.set_cons_succ]
  refine wpAnyH_take (i := 5) (v := .pointer (some ⟨B, 1, none⟩)) rfl (by kernel_rfl) (by kernel_rfl) (by kernel_rfl) (fun _ _ _ h => h) (.inl ⟨by kernel_rfl, fun _ _ => by kernel_rfl⟩) hS ?_; simp only [List.getElem_toArray, List.getElem_cons_succ, List.getElem_cons_zero, Act.put, List.setIfInBounds_toArray, List.set_cons_zero, List.set_cons_succ]
  refine wpAnyH_take (i := 6) (v := .agg (wv f)) rfl (by kernel_rfl) (by kernel_rfl) (by kernel_rfl) (fun _ _ _ h => h) (yieldsIf_load_mid (by kernel_rfl) 40 (.tmp 23) rfl B 1 rfl (wv f).toList _ (fun _ h => h.2.2.1) hu rfl hi1) hS ?_; simp only [List.getElem_toArray, List.getElem_cons_succ, List.getElem_cons_zero, Act.put, List.setIfInBounds_toArray, List.set_cons_zero, List.set_cons_succ]
  refine wpAnyH_take (i := 7) (v := .pointer (some ⟨B + 1, 1, none⟩)) rfl (by kernel_rfl) (by kernel_rfl) (by kernel_rfl) (fun _ _ _ h => h) (.inl ⟨by kernel_rfl, fun _ _ => by kernel_rfl⟩) hS ?_; simp only [List.getElem_toArray, List.getElem_cons_succ, List.getElem_cons_zero, Act.put, List.setIfInBounds_toArray, List.set_cons_zero, List.set_cons_succ]
  refine wpAnyH_take (i := 8) (v := .agg (wv g)) rfl (by kernel_rfl) (by kernel_rfl) (by kernel_rfl) (fun _ _ _ h => h) (yieldsIf_load_mid (by kernel_rfl) 40 (.tmp 25) rfl (B + 1) 1 rfl (wv g).toList _ (fun _ h => h.2.2.2) hu rfl hi2) hS ?_; simp only [List.getElem_toArray, List.getElem_cons_succ, List.getElem_cons_zero, Act.put, List.setIfInBounds_toArray, List.set_cons_zero, List.set_cons_succ]
  refine wpAnyH_ready (rs := [9]) (by kernel_rfl) (by simp) ?_
  refine AllReadyH.cons rfl (fun K hK => ?_) AllReadyH.nil
  clear hS
  go_simp
  refine (htim.out _).mono ?_
  rintro e w2 ⟨rfl, hb2⟩
  go_wp2_with fail
  refine hK.out _ _ ((nd.out.below hb2).held) (fun hS => ?_)
  clear hK K
  try simp only [List.getElem_toArray, List.getElem_cons_succ, List.getElem_cons_zero, Act.put, List.setIfInBounds_toArray, List.set_cons_zero, List.set_cons_succ]
  refine wpAnyH_ready (rs := [10]) (by kernel_rfl) (by simp) ?_
  refine AllReadyH.cons rfl (fun K hK => ?_) AllReadyH.nil
  clear hS
  go_simp
  refine (digits_any P _ (hE1.out.drew.below hb2) hNM.out).mono ?_
  rintro e w3 ⟨rfl, hb3⟩
  go_wp2_with fail
  refine hK.out _ _ (((nd.out.below hb2).below hb3).held) (fun hS => ?_)
  clear hK K
  try simp only [List.getElem_toArray, List.getElem_cons_succ, List.getElem_cons_zero, Act.put, List.setIfInBounds_toArray, List.set_cons_zero, List.set_cons_succ]
  refine wpAnyH_ready (rs := [11]) (by kernel_rfl) (by simp) ?_
  refine AllReadyH.cons rfl (fun K hK => ?_) AllReadyH.nil
  clear hS
  go_simp
  refine (told_at (s != t) (tx (digs P)) P 40 _ rfl _ (digs_val P) (digs_allD P) hsz (by decide)).mono ?_
  rintro e w4 ⟨rfl, hb4⟩
  go_wp2_with fail
  refine hK.out _ _ ((((nd.out.below hb2).below hb3).below hb4).held) (fun hS => ?_)
  clear hK K
  try simp only [List.getElem_toArray, List.getElem_cons_succ, List.getElem_cons_zero, Act.put, List.setIfInBounds_toArray, List.set_cons_zero, List.set_cons_succ]
  refine wpAnyH_take (i := 12) (v := .string (tx (toldP (s != t) P 40).1)) rfl (by kernel_rfl) (by kernel_rfl) (by kernel_rfl) (fun _ _ _ h => h) (.inl ⟨by kernel_rfl, fun _ _ => by kernel_rfl⟩) hS ?_; simp only [List.getElem_toArray, List.getElem_cons_succ, List.getElem_cons_zero, Act.put, List.setIfInBounds_toArray, List.set_cons_zero, List.set_cons_succ]
  refine wpAnyH_take (i := 13) (v := .int .i64 (toldP (s != t) P 40).2) rfl (by kernel_rfl) (by kernel_rfl) (by kernel_rfl) (fun _ _ _ h => h) (.inl ⟨by kernel_rfl, fun _ _ => by kernel_rfl⟩) hS ?_; simp only [List.getElem_toArray, List.getElem_cons_succ, List.getElem_cons_zero, Act.put, List.setIfInBounds_toArray, List.set_cons_zero, List.set_cons_succ]
  refine wpAnyH_take (i := 14) (v := .string (tx (toldP (s != t) P 40).1)) rfl (by kernel_rfl) (by kernel_rfl) (by kernel_rfl) (fun _ _ _ h => h) (.inl ⟨by kernel_rfl, fun _ _ => by kernel_rfl⟩) hS ?_; simp only [List.getElem_toArray, List.getElem_cons_succ, List.getElem_cons_zero, Act.put, List.setIfInBounds_toArray, List.set_cons_zero, List.set_cons_succ]
  refine wpAnyH_take (i := 15) (v := .int .i64 (toldP (s != t) P 40).2) rfl (by kernel_rfl) (by kernel_rfl) (by kernel_rfl) (fun _ _ _ h => h) (.inl ⟨by kernel_rfl, fun _ _ => by kernel_rfl⟩) hS ?_; simp only [List.getElem_toArray, List.getElem_cons_succ, List.getElem_cons_zero, Act.put, List.setIfInBounds_toArray, List.set_cons_zero, List.set_cons_succ]
  refine wpAnyH_done (by kernel_rfl) ?_ _
  go_wp2_with fail
  go_ret2
  exact ⟨by rw [hfin.out]; rfl, (((nd.out.below hb2).below hb3).below hb4).keep.below⟩
def mulT (a b : List UInt8) : List UInt8 × Int := if chk a && chk b then mulR (zof a) (zof b) else ([], 1)
theorem mul_call (a b : ByteArray) (w : World) (hE : Env w) : Calls Tryz.prog 16 #[.string a, .string b] w fun e w' => e = .returned (rv (mulT a.data.toList b.data.toList)) ∧ Below w.heap.size w w' := by
  unfold mulT
  cases hc : (chk a.data.toList && chk b.data.toList)
  · exact mul_no a b w hE hc
  · exact mul_yes a b w hE hc
end Go.Proofs.YtnnojhgnfmieoaaGreatDoor.dec
