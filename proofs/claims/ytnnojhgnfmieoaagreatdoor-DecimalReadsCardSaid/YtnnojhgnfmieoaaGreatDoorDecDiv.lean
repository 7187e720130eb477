/- Contracts of decimal.Div, Neg. -/
import Derived.Test.YtnnojhgnfmieoaaGreatDoorDecOver
import Derived.Test.YtnnojhgnfmieoaaGreatDoorDecCmp
namespace Go.Proofs.YtnnojhgnfmieoaaGreatDoor.dec
open Go.ChangeShapes Go.WideShapes Go.ChangeAt Go.RowKit kit
set_option linter.unusedVariables false
set_option linter.unusedSimpArgs false
set_option maxHeartbeats 2000000 in
set_option maxRecDepth 100000 in
theorem div_no (a b : ByteArray) (w : World) (hE : Env w) (hc : (chk a.data.toList && chk b.data.toList) = false) :
    Calls Tryz.prog 18 #[.string a, .string b] w fun e w' => e = .returned (rv ([], 1)) ∧ Below w.heap.size w w' := by
  have hb := fun w hE => both_any a b w hE
  rw [hc, num_eq, num_eq] at hb
  generalize decide (zof a.data.toList < 0) = s at *
  generalize decide (zof b.data.toList < 0) = t at *
  generalize wd (zof a.data.toList).natAbs = f at *
  generalize wd (zof b.data.toList).natAbs = g at *
  replace hb := Lib.hid hb
  replace hE := Lib.hid hE
  go_enter Tryz.func18, Tryz.ntmps18
  go_wp2_with fail
  refine (hb.out _ hE.out).mono ?_
  rintro e w1 ⟨rfl, hb1⟩
  have q0 : Blk ((w1.alloc (.cells (nv false fun _ => 0) 42)).alloc (.cells (nv false fun _ => 0) 42)) w1.heap.size (nv false fun _ => 0) 42 := (Blk.new _ _ _).alloc _
  have q1 : Blk (((w1.alloc (.cells (nv false fun _ => 0) 42)).alloc (.cells (nv false fun _ => 0) 42)).setRow w1.heap.size (nv s f)) (w1.heap.size + 1) (nv false fun _ => 0) 42 := by
    have := Blk.new (w1.alloc (.cells (nv false fun _ => 0) 42)) (nv false fun _ => 0) 42
    rw [World.size_alloc] at this
    exact this.setRow_other (by omega)
  have nw := NW.made hb1 s t f g
  rw [nv_falses] at q0 q1 nw
  replace q0 := Lib.hid q0
  replace q1 := Lib.hid q1
  replace nw := Lib.hid nw
  go_wp2_with (first | (with_reducible refine wpList_store_rowTo rfl 42 (.tmp 6) (.tmp 13) rfl rfl w1.heap.size (nv s f) rfl rfl 42 _ (Blk.eq q0.out) (by rw [nv_size]; exact Tryz.infoN) (zerosTo s f) (nv_one _ _) ?_) | (with_reducible refine wpList_store_rowTo rfl 42 (.tmp 7) (.tmp 14) rfl rfl (w1.heap.size + 1) (nv t g) rfl rfl 42 _ (Blk.eq q1.out) (by rw [nv_size]; exact Tryz.infoN) (zerosTo t g) (nv_one _ _) ?_))
  go_ret2
  exact ⟨rfl, nw.out.keep.below⟩
set_option maxHeartbeats 2000000 in
set_option maxRecDepth 100000 in
theorem div_zero (a b : ByteArray) (w : World) (hE : Env w) (hc : (chk a.data.toList && chk b.data.toList) = true) (hz : zof b.data.toList = 0) :
    Calls Tryz.prog 18 #[.string a, .string b] w fun e w' => e = .returned (rv ([], 3)) ∧ Below w.heap.size w w' := by
  have hb := fun w hE => both_any a b w hE
  rw [hc, num_eq, num_eq] at hb
  have hzw : allZ (wd (zof b.data.toList).natAbs) = true := by rw [hz]; rfl
  generalize decide (zof a.data.toList < 0) = s at *
  generalize decide (zof b.data.toList < 0) = t at *
  generalize wd (zof a.data.toList).natAbs = f at *
  generalize wd (zof b.data.toList).natAbs = g at *
  have heq := eq_words g
  rw [hzw] at heq
  clear hz hzw
  replace hb := Lib.hid hb
  replace hE := Lib.hid hE
  go_enter Tryz.func18, Tryz.ntmps18
  go_wp2_with fail
  refine (hb.out _ hE.out).mono ?_
  rintro e w1 ⟨rfl, hb1⟩
  have q0 : Blk ((w1.alloc (.cells (nv false fun _ => 0) 42)).alloc (.cells (nv false fun _ => 0) 42)) w1.heap.size (nv false fun _ => 0) 42 := (Blk.new _ _ _).alloc _
  have q1 : Blk (((w1.alloc (.cells (nv false fun _ => 0) 42)).alloc (.cells (nv false fun _ => 0) 42)).setRow w1.heap.size (nv s f)) (w1.heap.size + 1) (nv false fun _ => 0) 42 := by
    have := Blk.new (w1.alloc (.cells (nv false fun _ => 0) 42)) (nv false fun _ => 0) 42
    rw [World.size_alloc] at this
    exact this.setRow_other (by omega)
  have nw := NW.made hb1 s t f g
  rw [nv_falses] at q0 q1 nw
  replace q0 := Lib.hid q0
  replace q1 := Lib.hid q1
  replace nw := Lib.hid nw
  go_upto_region 4 with (first | (with_reducible refine wpList_store_rowTo rfl 42 (.tmp 6) (.tmp 13) rfl rfl w1.heap.size (nv s f) rfl rfl 42 _ (Blk.eq q0.out) (by rw [nv_size]; exact Tryz.infoN) (zerosTo s f) (nv_one _ _) ?_) | (with_reducible refine wpList_store_rowTo rfl 42 (.tmp 7) (.tmp 14) rfl rfl (w1.heap.size + 1) (nv t g) rfl rfl 42 _ (Blk.eq q1.out) (by rw [nv_size]; exact Tryz.infoN) (zerosTo t g) (nv_one _ _) ?_))
  generalize (((w1.alloc (.cells #[.bool false, .int .u64 0, .int .u64 0, .int .u64 0, .int .u64 0, .int .u64 0, .int .u64 0, .int .u64 0, .int .u64 0, .int .u64 0, .int .u64 0, .int .u64 0, .int .u64 0, .int .u64 0, .int .u64 0, .int .u64 0, .int .u64 0] 42)).alloc (.cells #[.bool false, .int .u64 0, .int .u64 0, .int .u64 0, .int .u64 0, .int .u64 0, .int .u64 0, .int .u64 0, .int .u64 0, .int .u64 0, .int .u64 0, .int .u64 0, .int .u64 0, .int .u64 0, .int .u64 0, .int .u64 0, .int .u64 0] 42)).setRow w1.heap.size (nv s f)).setRow (w1.heap.size + 1) (nv t g) = W at *; clear q0 q1
  go_wp2_with (first | (with_reducible refine wpList_load_mid rfl 40 (.tmp 18) rfl (w1.heap.size + 1) 1 rfl _ _ (nv_range nw.out.b1) Tryz.underlying40 rfl (by rw [wv_len]; exact Tryz.infoW) ?_))
  go_ret2
  exact ⟨rfl, nw.out.keep.below⟩
/-- What over is handed, of an amount. -/
theorem twenty (N : Nat) (hN : N < top) : allD (digs N ++ List.replicate 20 48) = true ∧ val (digs N ++ List.replicate 20 48) = N * E20 ∧ (digs N ++ List.replicate 20 48).length ≤ 200 ∧ 0 < (digs N ++ List.replicate 20 48).length := by
  have hl : (digs N).length ≤ 60 := (digs_lt N 60).2 hN
  refine ⟨by rw [allD_append, digs_allD, allD_replicate]; rfl, ?_, ?_, ?_⟩
  · rw [val_append, digs_val, val_replicate, List.length_replicate, Nat.add_zero]; rfl
  · rw [List.length_append, List.length_replicate]; omega
  · rw [List.length_append, List.length_replicate]; omega
theorem over_call (s : ByteArray) (N M : Nat) (w : World) (hs : s.data.toList = digs N ++ List.replicate 20 48) (hN : N < top) (hM0 : 0 < M) (hM : M < top) :
    Calls Tryz.prog 43 #[.string s, .agg (wv (wd M))] w fun e w' => e = .returned (.string (tx (digs (N * E20 / M)))) ∧ Below w.heap.size w w' := by
  obtain ⟨h1, h2, h3, h4⟩ := twenty N hN
  rw [← hs] at h1 h2 h3 h4
  have h := over_any s M w h1 h4 h3 hM0 hM
  rw [h2] at h
  exact h
set_option maxHeartbeats 4000000 in
set_option maxRecDepth 100000 in
theorem div_yes (a b : ByteArray) (w : World) (hE : Env w) (hc : (chk a.data.toList && chk b.data.toList) = true) (hz : zof b.data.toList ≠ 0) :
    Calls Tryz.prog 18 #[.string a, .string b] w fun e w' => e = .returned (rv (txt (quo (zof a.data.toList) (zof b.data.toList)))) ∧ Below w.heap.size w w' := by
  have hb := fun w hE => both_any a b w hE
  rw [hc, num_eq, num_eq] at hb
  have hN : (zof a.data.toList).natAbs < top := zof_small _
  have hM : (zof b.data.toList).natAbs < top := zof_small _
  have hN' := small_lt (zof_small a.data.toList)
  have hM' := small_lt (zof_small b.data.toList)
  have hM0 : 0 < (zof b.data.toList).natAbs := by omega
  have hfin : toldP (decide (zof a.data.toList < 0) != decide (zof b.data.toList < 0)) ((zof a.data.toList).natAbs * E20 / (zof b.data.toList).natAbs) 20 = txt (quo (zof a.data.toList) (zof b.data.toList)) := toldP_20 _ _
  clear hz
  generalize txt (quo (zof a.data.toList) (zof b.data.toList)) = R at *
  generalize decide (zof a.data.toList < 0) = s at *
  generalize decide (zof b.data.toList < 0) = t at *
  generalize (zof a.data.toList).natAbs = N at *
  generalize (zof b.data.toList).natAbs = M at *
  obtain ⟨f, hf⟩ : ∃ f, wd N = f := ⟨_, rfl⟩
  obtain ⟨g, hg⟩ : ∃ g, wd M = g := ⟨_, rfl⟩
  rw [hf, hg] at hb
  replace hb := Lib.hid hb
  replace hE := Lib.hid hE
  replace hN := Lib.hid hN
  replace hM := Lib.hid hM
  replace hN' := Lib.hid hN'
  replace hM' := Lib.hid hM'
  replace hf := Lib.hid hf
  replace hg := Lib.hid hg
  replace hfin := Lib.hid hfin
  have hu := Tryz.underlying40
  have hi1 : (Tryz.prog.info? 40).map (·.size) = some (wv f).toList.length := by rw [wv_len]; exact Tryz.infoW
  have hi2 : (Tryz.prog.info? 40).map (·.size) = some (wv g).toList.length := by rw [wv_len]; exact Tryz.infoW
  have heq := eq_words g
  have hall : allZ g = false := by rw [← hg.out, allZ_wd M hM'.out, decide_eq_false (by omega)]
  rw [hall] at heq
  have hlen : (digs N).length ≤ 60 := (digs_lt N 60).2 hN.out
  have hsz : (tx (digs (N * E20 / M))).size ≤ 100000 := by
    have h1 := (digs_lt (N * E20 / M) 80).2 (by
      refine Nat.lt_of_le_of_lt (Nat.div_le_self _ _) ?_
      rw [show (80 : Nat) = 60 + 20 from rfl, Nat.pow_add]
      exact Nat.mul_lt_mul_of_pos_right hN.out E20_pos)
    rw [tx_size]; omega
  have hdig := fun W hE => digits_any N W hE hN'.out
  rw [hf.out] at hdig
  obtain ⟨dn, hdn⟩ : ∃ dn : ByteArray, (⟨(digs N).toArray⟩ : ByteArray) = dn := ⟨_, rfl⟩
  have hdnl : dn.data.toList = digs N := by rw [← hdn]
  rw [hdn] at hdig
  obtain ⟨rp, hrp⟩ : ∃ rp : ByteArray, (⟨(Lib.repeatL (ByteArray.mk #[48]).data.toList 20).toArray⟩ : ByteArray) = rp := ⟨_, rfl⟩
  have hrpl : rp.data.toList = List.replicate 20 48 := by rw [← hrp]; exact repeatL_48 20
  have hrep := fun W => Tryz.strings_Repeat ⟨#[48]⟩ 20 W (by decide) (by decide)
  rw [hrp] at hrep
  have htb : (dn ++ rp).data.toList = digs N ++ List.replicate 20 48 := by rw [← hdnl, ← hrpl]; simp
  have hsum : (dn.size : Int) + (rp.size : Int) ≤ 9223372036854775807 := by
    have h1 : dn.size = dn.data.toList.length := rfl
    have h2 : rp.size = rp.data.toList.length := rfl
    rw [h1, h2, hdnl, hrpl, List.length_replicate]; omega
  clear hall hdn hdnl hrp hrpl hlen
  replace hdig := Lib.hid hdig
  have hov := fun W => over_call (dn ++ rp) N M W htb hN.out hM0 hM.out
  rw [hg.out] at hov
  clear htb
  replace hov := Lib.hid hov
  replace hsum := Lib.hid hsum
  replace hrep := Lib.hid hrep
  replace hsz := Lib.hid hsz
  go_enter Tryz.func18, Tryz.ntmps18
  go_wp2_with fail
  refine (hb.out _ hE.out).mono ?_
  rintro e w1 ⟨rfl, hb1⟩
  have q0 : Blk ((w1.alloc (.cells (nv false fun _ => 0) 42)).alloc (.cells (nv false fun _ => 0) 42)) w1.heap.size (nv false fun _ => 0) 42 := (Blk.new _ _ _).alloc _
  have q1 : Blk (((w1.alloc (.cells (nv false fun _ => 0) 42)).alloc (.cells (nv false fun _ => 0) 42)).setRow w1.heap.size (nv s f)) (w1.heap.size + 1) (nv false fun _ => 0) 42 := by
    have := Blk.new (w1.alloc (.cells (nv false fun _ => 0) 42)) (nv false fun _ => 0) 42
    rw [World.size_alloc] at this
    exact this.setRow_other (by omega)
  have nw := NW.made hb1 s t f g
  rw [nv_falses] at q0 q1 nw
  replace q0 := Lib.hid q0
  replace q1 := Lib.hid q1
  replace nw := Lib.hid nw
  go_upto_region 4 with (first | (with_reducible refine wpList_store_rowTo rfl 42 (.tmp 6) (.tmp 13) rfl rfl w1.heap.size (nv s f) rfl rfl 42 _ (Blk.eq q0.out) (by rw [nv_size]; exact Tryz.infoN) (zerosTo s f) (nv_one _ _) ?_) | (with_reducible refine wpList_store_rowTo rfl 42 (.tmp 7) (.tmp 14) rfl rfl (w1.heap.size + 1) (nv t g) rfl rfl 42 _ (Blk.eq q1.out) (by rw [nv_size]; exact Tryz.infoN) (zerosTo t g) (nv_one _ _) ?_))
  generalize (((w1.alloc (.cells #[.bool false, .int .u64 0, .int .u64 0, .int .u64 0, .int .u64 0, .int .u64 0, .int .u64 0, .int .u64 0, .int .u64 0, .int .u64 0, .int .u64 0, .int .u64 0, .int .u64 0, .int .u64 0, .int .u64 0, .int .u64 0, .int .u64 0] 42)).alloc (.cells #[.bool false, .int .u64 0, .int .u64 0, .int .u64 0, .int .u64 0, .int .u64 0, .int .u64 0, .int .u64 0, .int .u64 0, .int .u64 0, .int .u64 0, .int .u64 0, .int .u64 0, .int .u64 0, .int .u64 0, .int .u64 0, .int .u64 0] 42)).setRow w1.heap.size (nv s f)).setRow (w1.heap.size + 1) (nv t g) = W at *; clear q0 q1
  go_upto_region 6 with (first | (with_reducible refine wpList_load_mid rfl 40 (.tmp 18) rfl (w1.heap.size + 1) 1 rfl _ _ (nv_range nw.out.b1) Tryz.underlying40 rfl (by rw [wv_len]; exact Tryz.infoW) ?_))
  obtain ⟨c0, c1, r0, r1⟩ := nw.out.held
  have hE1 := hE.out.below nw.out.keep.below
  have nd := nw.out.drew
  generalize w1.heap.size = B at *
  clear heq
  replace hE1 := Lib.hid hE1
  replace nd := Lib.hid nd
  refine wp_region_held_drew (S := Held B s t f g) (by kernel_rfl) nd.out.held (fun hS => ?_)
  refine wpAnyH_take (i := 0) (v := .pointer (some ⟨B, 0, none⟩)) rfl (by kernel_rfl) (by kernel_rfl) (by kernel_rfl) (fun _ _ _ h => h) (.inl ⟨by kernel_rfl, fun _ _ => by kernel_rfl⟩) hS ?_; simp only [List.getElem_toArray, List.getElem_cons_succ, List.getElem_cons_zero, Act.put, List.setIfInBounds_toArray, List.set_cons_zero, List.set_cons_succ]
  refine wpAnyH_take (i := 1) (v := .bool s) rfl (by kernel_rfl) (by kernel_rfl) (by kernel_rfl) (fun _ _ _ h => h) (yields_bool (by kernel_rfl) 4 (.tmp 22) rfl ⟨B, 0, none⟩ s rfl (fun _ h => h.1) Tryz.underlying4) hS ?_; simp only [List.getElem_toArray, List.getElem_cons_succ, List.getElem_cons_zero, Act.put, List.setIfInBounds_toArray, List.set_cons_zero, List.set_cons_succ]
  refine wpAnyH_take (i := 2) (v := .pointer (some ⟨B + 1, 0, none⟩)) rfl (by kernel_rfl) (by kernel_rfl) (by kernel_rfl) (fun _ _ _ h => h) (.inl ⟨by kernel_rfl, fun _ _ => by kernel_rfl⟩) hS ?_; simp only [List.getElem_toArray, List.getElem_cons_succ, List.getElem_cons_zero, Act.put, List.setIfInBounds_toArray, List.set_cons_zero, List.set_cons_succ]
  refine wpAnyH_take (i := 3) (v := .bool t) rfl (by kernel_rfl) (by kernel_rfl) (by kernel_rfl) (fun _ _ _ h => h) (yields_bool (by kernel_rfl) 4 (.tmp 24) rfl ⟨B + 1, 0, none⟩ t rfl (fun _ h => h.2.1) Tryz.underlying4) hS ?_; simp only [List.getElem_toArray, List.getElem_cons_succ, List.getElem_cons_zero, Act.put, List.setIfInBounds_toArray, List.set_cons_zero, List.set_cons_succ]
  refine wpAnyH_take (i := 4) (v := .bool (s != t)) rfl (by kernel_rfl) (by kernel_rfl) (by kernel_rfl) (fun _ _ _ h => h) (.inl ⟨by kernel_rfl, fun _ _ => by kernel_rfl⟩) hS ?_; simp only [List.getElem_toArray, List.getElem_cons_succ, List.getElem_cons_zero, Act.put, List.setIfInBounds_toArray, List.set_cons_zero, List.set_cons_succ]
  refine wpAnyH_take (i := 5) (v := .pointer (some ⟨B, 1, none⟩)) rfl (by kernel_rfl) (by kernel_rfl) (by kernel_rfl) (fun _ _ _ h => h) (.inl ⟨by kernel_rfl, fun _ _ => by kernel_rfl⟩) hS ?_; simp only [List.getElem_toArray, List.getElem_cons_succ, List.getElem_cons_zero, Act.put, List.setIfInBounds_toArray, List.set_cons_zero, List.set_cons_succ]
  refine wpAnyH_take (i := 6) (v := .agg (wv f)) rfl (by kernel_rfl) (by kernel_rfl) (by kernel_rfl) (fun _ _ _ h => h) (yieldsIf_load_mid (by kernel_rfl) 40 (.tmp 27) rfl B 1 rfl (wv f).toList _ (fun _ h => h.2.2.1) hu rfl hi1) hS ?_; simp only [List.getElem_toArray, List.getElem_cons_succ, List.getElem_cons_zero, Act.put, List.setIfInBounds_toArray, List.set_cons_zero, List.set_cons_succ]
  refine wpAnyH_take (i := 10) (v := .pointer (some ⟨B + 1, 1, none⟩)) rfl (by kernel_rfl) (by kernel_rfl) (by kernel_rfl) (fun _ _ _ h => h) (.inl ⟨by kernel_rfl, fun _ _ => by kernel_rfl⟩) hS ?_; simp only [List.getElem_toArray, List.getElem_cons_succ, List.getElem_cons_zero, Act.put, List.setIfInBounds_toArray, List.set_cons_zero, List.set_cons_succ]
  refine wpAnyH_take (i := 11) (v := .agg (wv g)) rfl (by kernel_rfl) (by kernel_rfl) (by kernel_rfl) (fun _ _ _ h => h) (yieldsIf_load_mid (by kernel_rfl) 40 (.tmp 32) rfl (B + 1) 1 rfl (wv g).toList _ (fun _ h => h.2.2.2) hu rfl hi2) hS ?_; simp only [List.getElem_toArray, List.getElem_cons_succ, List.getElem_cons_zero, Act.put, List.setIfInBounds_toArray, List.set_cons_zero, List.set_cons_succ]
  refine wpAnyH_ready (rs := [7]) (by kernel_rfl) (by simp) ?_
  refine AllReadyH.cons rfl (fun K hK => ?_) AllReadyH.nil
  clear hS
  go_simp
  refine (hdig.out _ hE1.out.drew).mono ?_
  rintro e w2 ⟨rfl, hb2⟩
  go_wp2_with fail
  refine hK.out _ _ ((nd.out.below hb2).held) (fun hS => ?_)
  clear hK K
  try simp only [List.getElem_toArray, List.getElem_cons_succ, List.getElem_cons_zero, Act.put, List.setIfInBounds_toArray, List.set_cons_zero, List.set_cons_succ]
  refine wpAnyH_ready (rs := [8]) (by kernel_rfl) (by simp) ?_
  refine AllReadyH.cons rfl (fun K hK => ?_) AllReadyH.nil
  clear hS
  go_simp
  refine (hrep.out _).mono ?_
  rintro e w3 ⟨rfl, hb3⟩
  go_wp2_with fail
  refine hK.out _ _ (((nd.out.below hb2).below hb3).held) (fun hS => ?_)
  clear hK K
  try simp only [List.getElem_toArray, List.getElem_cons_succ, List.getElem_cons_zero, Act.put, List.setIfInBounds_toArray, List.set_cons_zero, List.set_cons_succ]
  refine wpAnyH_take (i := 9) (v := .string (dn ++ rp)) rfl (by kernel_rfl) (by kernel_rfl) (by kernel_rfl) (fun _ _ _ h => h) (.inl ⟨by kernel_rfl, fun w _ => by go_simp; have := hsum.out; omega⟩) hS ?_; simp only [List.getElem_toArray, List.getElem_cons_succ, List.getElem_cons_zero, Act.put, List.setIfInBounds_toArray, List.set_cons_zero, List.set_cons_succ]
  refine wpAnyH_ready (rs := [12]) (by kernel_rfl) (by simp) ?_
  refine AllReadyH.cons rfl (fun K hK => ?_) AllReadyH.nil
  clear hS
  go_simp
  refine (hov.out _).mono ?_
  rintro e w4 ⟨rfl, hb4⟩
  go_wp2_with fail
  refine hK.out _ _ ((((nd.out.below hb2).below hb3).below hb4).held) (fun hS => ?_)
  clear hK K
  try simp only [List.getElem_toArray, List.getElem_cons_succ, List.getElem_cons_zero, Act.put, List.setIfInBounds_toArray, List.set_cons_zero, List.set_cons_succ]
  refine wpAnyH_ready (rs := [13]) (by kernel_rfl) (by simp) ?_
  refine AllReadyH.cons rfl (fun K hK => ?_) AllReadyH.nil
  clear hS
  go_simp
  refine (told_at (s != t) (tx (digs (N * E20 / M))) (N * E20 / M) 20 _ rfl _ (digs_val _) (digs_allD _) hsz.out (by decide)).mono ?_
  rintro e w5 ⟨rfl, hb5⟩
  go_wp2_with fail
  refine hK.out _ _ (((((nd.out.below hb2).below hb3).below hb4).below hb5).held) (fun hS => ?_)
  clear hK K
  try simp only [List.getElem_toArray, List.getElem_cons_succ, List.getElem_cons_zero, Act.put, List.setIfInBounds_toArray, List.set_cons_zero, List.set_cons_succ]
  generalize toldP (s != t) (N * E20 / M) 20 = r at *
  refine wpAnyH_take (i := 14) (v := .string (tx r.1)) rfl (by kernel_rfl) (by kernel_rfl) (by kernel_rfl) (fun _ _ _ h => h) (.inl ⟨by kernel_rfl, fun _ _ => by kernel_rfl⟩) hS ?_; simp only [List.getElem_toArray, List.getElem_cons_succ, List.getElem_cons_zero, Act.put, List.setIfInBounds_toArray, List.set_cons_zero, List.set_cons_succ]
  refine wpAnyH_take (i := 15) (v := .int .i64 r.2) rfl (by kernel_rfl) (by kernel_rfl) (by kernel_rfl) (fun _ _ _ h => h) (.inl ⟨by kernel_rfl, fun _ _ => by kernel_rfl⟩) hS ?_; simp only [List.getElem_toArray, List.getElem_cons_succ, List.getElem_cons_zero, Act.put, List.setIfInBounds_toArray, List.set_cons_zero, List.set_cons_succ]
  refine wpAnyH_take (i := 16) (v := .string (tx r.1)) rfl (by kernel_rfl) (by kernel_rfl) (by kernel_rfl) (fun _ _ _ h => h) (.inl ⟨by kernel_rfl, fun _ _ => by kernel_rfl⟩) hS ?_; simp only [List.getElem_toArray, List.getElem_cons_succ, List.getElem_cons_zero, Act.put, List.setIfInBounds_toArray, List.set_cons_zero, List.set_cons_succ]
  refine wpAnyH_take (i := 17) (v := .int .i64 r.2) rfl (by kernel_rfl) (by kernel_rfl) (by kernel_rfl) (fun _ _ _ h => h) (.inl ⟨by kernel_rfl, fun _ _ => by kernel_rfl⟩) hS ?_; simp only [List.getElem_toArray, List.getElem_cons_succ, List.getElem_cons_zero, Act.put, List.setIfInBounds_toArray, List.set_cons_zero, List.set_cons_succ]
  refine wpAnyH_done (by kernel_rfl) ?_ _
  go_wp2_with fail
  go_ret2
  exact ⟨by rw [← hfin.out]; rfl, ((((nd.out.below hb2).below hb3).below hb4).below hb5).keep.below⟩
def divT (a b : List UInt8) : List UInt8 × Int := if chk a && chk b then (if zof b = 0 then ([], 3) else txt (quo (zof a) (zof b))) else ([], 1)
theorem div_call (a b : ByteArray) (w : World) (hE : Env w) : Calls Tryz.prog 18 #[.string a, .string b] w fun e w' => e = .returned (rv (divT a.data.toList b.data.toList)) ∧ Below w.heap.size w w' := by
  unfold divT
  cases hc : (chk a.data.toList && chk b.data.toList)
  · exact div_no a b w hE hc
  · rw [if_pos rfl]
    by_cases hz : zof b.data.toList = 0
    · rw [if_pos hz]; exact div_zero a b w hE hc hz
    · rw [if_neg hz]; exact div_yes a b w hE hc hz
end Go.Proofs.YtnnojhgnfmieoaaGreatDoor.dec
