/- Contract of decimal's number: plus. -/
import Derived.Test.YthecgifgjagmaaaGreatDoorDecWordsOf
import Derived.Deep.MidRow
import Derived.Deep.DeepCutAuto
namespace Go.Proofs.YthecgifgjagmaaaGreatDoor.dec
open Go.ChangeShapes Go.WideShapes Go.ChangeAt Go.RowKit kit
set_option linter.unusedVariables false
/-- A number's cells. -/
def nv (neg : Bool) (f : Nat → Nat) : Array Value := (Value.bool neg :: (wv f).toList).toArray
theorem nv_size (neg : Bool) (f : Nat → Nat) : (nv neg f).size = 17 := by
  have := wv_size f
  simp [nv]; omega
theorem nv_zero (neg : Bool) (f : Nat → Nat) : (nv neg f)[0]? = some (.bool neg) := by simp [nv]
theorem nv_get (neg : Bool) (f : Nat → Nat) (i : Nat) (h : i < 16) : (nv neg f)[1 + i]? = some (.int .u64 (f i : Nat)) := by
  have := wv_get f i h
  rw [Nat.add_comm]
  simpa [nv] using this
theorem nv_one (neg : Bool) (f : Nat → Nat) : (nv neg f).all (·.oneCell') = true := by
  have := wv_one f
  simp only [nv, List.all_toArray, List.all_cons]
  rw [Bool.and_eq_true]
  exact ⟨rfl, by rw [← Array.all_toList] at this; exact this⟩
theorem nv_put (neg : Bool) (f h : Nat → Nat) : putW (nv neg f) 1 h 16 = nv neg h := by
  apply Array.ext_getElem?
  intro j
  rw [putW_get, nv_size]
  by_cases h0 : j = 0
  · subst h0; rw [if_neg (by omega), nv_zero, nv_zero]
  · by_cases hj : j < 17
    · obtain ⟨i, rfl⟩ : ∃ i, j = 1 + i := ⟨j - 1, by omega⟩
      rw [if_pos (by omega), nv_get _ _ _ (by omega), show 1 + i - 1 = i by omega]
    · rw [if_neg (by omega), Array.getElem?_eq_none (by rw [nv_size]; omega), Array.getElem?_eq_none (by rw [nv_size]; omega)]
theorem nv_range {w : World} {b : Nat} {neg : Bool} {f : Nat → Nat} {t : TypeId} (h : Blk w b (nv neg f) t) : w.rangeAt b 1 (wv f).toList := by
  intro j v hv
  have hj : j < 16 := by
    have := (List.getElem?_eq_some_iff.1 hv).1
    rw [Array.length_toList, wv_size] at this; exact this
  have h2 := wv_get f j hj
  rw [Array.getElem?_toList, h2] at hv
  cases hv
  exact h.cell _ (nv_get _ _ _ hj)
theorem wv_len (f : Nat → Nat) : (wv f).toList.length = 16 := by rw [Array.length_toList, wv_size]
theorem nv_falses : nv false (fun _ => 0) = #[.bool false, .int .u64 0, .int .u64 0, .int .u64 0, .int .u64 0, .int .u64 0, .int .u64 0, .int .u64 0, .int .u64 0, .int .u64 0, .int .u64 0, .int .u64 0, .int .u64 0, .int .u64 0, .int .u64 0, .int .u64 0, .int .u64 0] := rfl
theorem Tryz.infoN : (Tryz.prog.info? 92).map (·.size) = some 17 := by kernel_rfl

/-- The world behind plus's boxes: the two numbers, the result's place. -/
structure PW (w W : World) (s t : Bool) (f g : Nat → Nat) : Prop where
  keep : Keep [] w W
  b0 : Blk W w.heap.size (nv s f) 92
  b1 : Blk W (w.heap.size + 1) (nv t g) 92
  b2 : Blk W (w.heap.size + 1 + 1) (nv false fun _ => 0) 92
theorem PW.made (w : World) (s t : Bool) (f g : Nat → Nat) : PW w (((w.alloc (.cells (nv s f) 92)).alloc (.cells (nv t g) 92)).alloc (.cells (nv false fun _ => 0) 92)) s t f g := by
  refine ⟨(((Keep.refl _ _).alloc _).alloc _).alloc _, ((Blk.new _ _ _).alloc _).alloc _, ?_, ?_⟩
  · have := (Blk.new (w.alloc (.cells (nv s f) 92)) (nv t g) 92).alloc (.cells (nv false fun _ => 0) 92)
    rwa [World.size_alloc] at this
  · have := Blk.new ((w.alloc (.cells (nv s f) 92)).alloc (.cells (nv t g) 92)) (nv false fun _ => 0) 92
    rwa [World.size_alloc, World.size_alloc] at this

set_option maxHeartbeats 2000000 in
set_option maxRecDepth 100000 in
theorem plus_same (s : Bool) (f g : Nat → Nat) (w : World) (hf : ∀ i, f i < 1000000000) (hg : ∀ i, g i < 1000000000) :
    Calls Tryz.prog 79 #[.agg (nv s f), .agg (nv s g)] w fun e w' => e = .returned (.agg (nv s (sumW f g))) ∧ Below w.heap.size w w' := by
  replace hf := Lib.hid hf
  replace hg := Lib.hid hg
  have hsm : (s == s) = true := by cases s <;> rfl
  go_enter Tryz.func79, Tryz.ntmps79
  go_upto_region 1 with (fail)
  have hz := nv_falses
  rw [← hz]; clear hz
  have pw := PW.made w s s f g
  generalize (((w.alloc (.cells (nv s f) 92)).alloc (.cells (nv s g) 92)).alloc (.cells (nv false fun _ => 0) 92)) = W at *
  have c0 : W.cell? ⟨w.heap.size, 0, none⟩ = some (.bool s) := pw.b0.cell _ (nv_zero _ _)
  have c1 : W.cell? ⟨w.heap.size + 1, 0, none⟩ = some (.bool s) := pw.b1.cell _ (nv_zero _ _)
  replace pw := Lib.hid pw
  go_wp2_with (first | (with_reducible refine wpList_load_mid rfl 90 (.tmp 11) rfl (w.heap.size + 1) 1 rfl _ _ (nv_range pw.out.b1) Tryz.underlying90 rfl (by rw [wv_len]; exact Tryz.infoW) ?_))
  refine (add_any w.heap.size 1 (nv s f) 92 f g W pw.out.b0 (fun i hi => nv_get s f i hi) hf.out hg.out).mono ?_
  rintro e w1 ⟨rfl, k1, b1⟩
  rw [nv_put] at b1
  have k1' : Keep [] w w1 := pw.out.keep.trans k1 (by simp)
  have b2 : Blk w1 (w.heap.size + 1 + 1) (nv false fun _ => 0) 92 := pw.out.b2.keep k1 (by simp only [List.mem_singleton]; omega)
  replace k1 := Lib.hid k1
  replace b1 := Lib.hid b1
  go_wp2_with (first | (with_reducible refine wpList_load_row rfl 92 (.tmp 2) rfl (w.heap.size) rfl 92 _ (0, 0) _ (Blk.eq b1.out) Tryz.underlying92 rfl (by rw [nv_size]; exact Tryz.infoN) ?_) | (with_reducible refine wpList_store_row rfl 92 (.tmp 4) (.tmp 14) rfl (w.heap.size + 1 + 1) _ rfl rfl 92 _ (Blk.eq b2) (by rw [nv_size]; exact Tryz.infoN) (by rw [nv_size, nv_size]) (nv_one _ _) ?_))
  exact bodyPost_ret (v := .agg (nv s (sumW f g))) (results_cell_row rfl _ _ (w.heap.size + 1 + 1) 92 _ (0, 0) _ rfl (Blk.setRow b2).eq Tryz.underlying92 rfl (by rw [nv_size]; exact Tryz.infoN)) rfl
    ⟨rfl, (Keep.setRow k1' (by omega) _).below⟩
set_option maxHeartbeats 2000000 in
set_option maxRecDepth 100000 in
theorem plus_diff (s t : Bool) (f g : Nat → Nat) (w : World) (hf : ∀ i, f i < 1000000000) (hg : ∀ i, g i < 1000000000) (hst : (s == t) = false) (hc : ¬ cmpW f g 16 < 0) :
    Calls Tryz.prog 79 #[.agg (nv s f), .agg (nv t g)] w fun e w' => e = .returned (.agg (nv s (subW f g))) ∧ Below w.heap.size w w' := by
  replace hf := Lib.hid hf
  replace hg := Lib.hid hg
  go_enter Tryz.func79, Tryz.ntmps79
  go_upto_region 1 with (fail)
  have hz := nv_falses
  rw [← hz]; clear hz
  have pw := PW.made w s t f g
  generalize (((w.alloc (.cells (nv s f) 92)).alloc (.cells (nv t g) 92)).alloc (.cells (nv false fun _ => 0) 92)) = W at *
  have c0 : W.cell? ⟨w.heap.size, 0, none⟩ = some (.bool s) := pw.b0.cell _ (nv_zero _ _)
  have c1 : W.cell? ⟨w.heap.size + 1, 0, none⟩ = some (.bool t) := pw.b1.cell _ (nv_zero _ _)
  replace pw := Lib.hid pw
  go_wp2_with (first | (with_reducible refine wpList_load_mid rfl 90 (.tmp 15) rfl (w.heap.size) 1 rfl _ _ (nv_range pw.out.b0) Tryz.underlying90 rfl (by rw [wv_len]; exact Tryz.infoW) ?_) | (with_reducible refine wpList_load_mid rfl 90 (.tmp 17) rfl (w.heap.size + 1) 1 rfl _ _ (nv_range pw.out.b1) Tryz.underlying90 rfl (by rw [wv_len]; exact Tryz.infoW) ?_))
  refine (compare_any f g W).mono ?_
  rintro e w1 ⟨rfl, hb1⟩
  have k1 : Keep [] w w1 := pw.out.keep.trans (Keep.ofBelow hb1) (by simp)
  have b0 : Blk w1 w.heap.size (nv s f) 92 := pw.out.b0.keep (Keep.ofBelow hb1) (by simp)
  have b1 : Blk w1 (w.heap.size + 1) (nv t g) 92 := pw.out.b1.keep (Keep.ofBelow hb1) (by simp)
  have b2 : Blk w1 (w.heap.size + 1 + 1) (nv false fun _ => 0) 92 := pw.out.b2.keep (Keep.ofBelow hb1) (by simp)
  clear c0 c1 hb1
  replace k1 := Lib.hid k1
  replace b0 := Lib.hid b0
  replace b1 := Lib.hid b1
  replace b2 := Lib.hid b2
  go_wp2_with (first | (with_reducible refine wpList_load_mid rfl 90 (.tmp 24) rfl (w.heap.size + 1) 1 rfl _ _ (nv_range b1.out) Tryz.underlying90 rfl (by rw [wv_len]; exact Tryz.infoW) ?_))
  refine (sub_any w.heap.size 1 (nv s f) 92 f g _ (b0.out) (fun i hi => nv_get s f i hi) hf.out hg.out).mono ?_
  rintro e w2 ⟨rfl, k2, d0⟩
  rw [nv_put] at d0
  have k2' : Keep [] w w2 := (Keep.trans k1.out k2 (by simp))
  have d2 : Blk w2 (w.heap.size + 1 + 1) (nv false fun _ => 0) 92 := Blk.keep b2.out k2 (by simp only [List.mem_singleton]; omega)
  replace k2 := Lib.hid k2
  replace d0 := Lib.hid d0
  go_wp2_with (first | (with_reducible refine wpList_load_row rfl 92 (.tmp 2) rfl (w.heap.size) rfl 92 _ (0, 0) _ (Blk.eq d0.out) Tryz.underlying92 rfl (by rw [nv_size]; exact Tryz.infoN) ?_) | (with_reducible refine wpList_store_row rfl 92 (.tmp 4) (.tmp 27) rfl (w.heap.size + 1 + 1) _ rfl rfl 92 _ (Blk.eq d2) (by rw [nv_size]; exact Tryz.infoN) (by rw [nv_size, nv_size]) (nv_one _ _) ?_))
  exact bodyPost_ret (v := .agg (nv s (subW f g))) (results_cell_row rfl _ _ (w.heap.size + 1 + 1) 92 _ (0, 0) _ rfl (Blk.setRow d2).eq Tryz.underlying92 rfl (by rw [nv_size]; exact Tryz.infoN)) rfl
    ⟨rfl, (Keep.setRow k2' (by omega) _).below⟩
set_option maxHeartbeats 2000000 in
set_option maxRecDepth 100000 in
theorem plus_swap (s t : Bool) (f g : Nat → Nat) (w : World) (hf : ∀ i, f i < 1000000000) (hg : ∀ i, g i < 1000000000) (hst : (s == t) = false) (hc : cmpW f g 16 < 0) :
    Calls Tryz.prog 79 #[.agg (nv s f), .agg (nv t g)] w fun e w' => e = .returned (.agg (nv t (subW g f))) ∧ Below w.heap.size w w' := by
  replace hf := Lib.hid hf
  replace hg := Lib.hid hg
  go_enter Tryz.func79, Tryz.ntmps79
  go_upto_region 1 with (fail)
  have hz := nv_falses
  rw [← hz]; clear hz
  have pw := PW.made w s t f g
  generalize (((w.alloc (.cells (nv s f) 92)).alloc (.cells (nv t g) 92)).alloc (.cells (nv false fun _ => 0) 92)) = W at *
  have c0 : W.cell? ⟨w.heap.size, 0, none⟩ = some (.bool s) := pw.b0.cell _ (nv_zero _ _)
  have c1 : W.cell? ⟨w.heap.size + 1, 0, none⟩ = some (.bool t) := pw.b1.cell _ (nv_zero _ _)
  replace pw := Lib.hid pw
  go_wp2_with (first | (with_reducible refine wpList_load_mid rfl 90 (.tmp 15) rfl (w.heap.size) 1 rfl _ _ (nv_range pw.out.b0) Tryz.underlying90 rfl (by rw [wv_len]; exact Tryz.infoW) ?_) | (with_reducible refine wpList_load_mid rfl 90 (.tmp 17) rfl (w.heap.size + 1) 1 rfl _ _ (nv_range pw.out.b1) Tryz.underlying90 rfl (by rw [wv_len]; exact Tryz.infoW) ?_))
  refine (compare_any f g W).mono ?_
  rintro e w1 ⟨rfl, hb1⟩
  have k1 : Keep [] w w1 := pw.out.keep.trans (Keep.ofBelow hb1) (by simp)
  have b0 : Blk w1 w.heap.size (nv s f) 92 := pw.out.b0.keep (Keep.ofBelow hb1) (by simp)
  have b1 : Blk w1 (w.heap.size + 1) (nv t g) 92 := pw.out.b1.keep (Keep.ofBelow hb1) (by simp)
  have b2 : Blk w1 (w.heap.size + 1 + 1) (nv false fun _ => 0) 92 := pw.out.b2.keep (Keep.ofBelow hb1) (by simp)
  clear c0 c1 hb1
  replace k1 := Lib.hid k1
  replace b0 := Lib.hid b0
  replace b1 := Lib.hid b1
  replace b2 := Lib.hid b2
  have e1 : Blk (w1.setRow w.heap.size (nv t g)) (w.heap.size + 1) (nv t g) 92 := b1.out.setRow_other (by omega)
  have g0 : Blk ((w1.setRow w.heap.size (nv t g)).setRow (w.heap.size + 1) (nv s f)) w.heap.size (nv t g) 92 := (b0.out.setRow).setRow_other (by omega)
  have g1 : Blk ((w1.setRow w.heap.size (nv t g)).setRow (w.heap.size + 1) (nv s f)) (w.heap.size + 1) (nv s f) 92 := e1.setRow
  have g2 : Blk ((w1.setRow w.heap.size (nv t g)).setRow (w.heap.size + 1) (nv s f)) (w.heap.size + 1 + 1) (nv false fun _ => 0) 92 := (b2.out.setRow_other (by omega)).setRow_other (by omega)
  have gk : Keep [] w ((w1.setRow w.heap.size (nv t g)).setRow (w.heap.size + 1) (nv s f)) := (k1.out.setRow (by omega) _).setRow (by omega) _
  go_wp2_with (first | (with_reducible refine wpList_load_row rfl 92 (.tmp 3) rfl (w.heap.size + 1) rfl 92 _ (0, 0) _ (Blk.eq b1.out) Tryz.underlying92 rfl (by rw [nv_size]; exact Tryz.infoN) ?_) | (with_reducible refine wpList_load_row rfl 92 (.tmp 2) rfl (w.heap.size) rfl 92 _ (0, 0) _ (Blk.eq b0.out) Tryz.underlying92 rfl (by rw [nv_size]; exact Tryz.infoN) ?_) | (with_reducible refine wpList_store_row rfl 92 (.tmp 2) (.tmp 21) rfl (w.heap.size) _ rfl rfl 92 _ (Blk.eq b0.out) (by rw [nv_size]; exact Tryz.infoN) (by rw [nv_size, nv_size]) (nv_one _ _) ?_) | (with_reducible refine wpList_store_row rfl 92 (.tmp 3) (.tmp 22) rfl (w.heap.size + 1) _ rfl rfl 92 _ (Blk.eq e1) (by rw [nv_size]; exact Tryz.infoN) (by rw [nv_size, nv_size]) (nv_one _ _) ?_) | (with_reducible refine wpList_load_mid rfl 90 (.tmp 24) rfl (w.heap.size + 1) 1 rfl _ _ (nv_range g1) Tryz.underlying90 rfl (by rw [wv_len]; exact Tryz.infoW) ?_))
  refine (sub_any w.heap.size 1 (nv t g) 92 g f _ (g0) (fun i hi => nv_get t g i hi) hg.out hf.out).mono ?_
  rintro e w2 ⟨rfl, k2, d0⟩
  rw [nv_put] at d0
  have k2' : Keep [] w w2 := (Keep.trans gk k2 (by simp))
  have d2 : Blk w2 (w.heap.size + 1 + 1) (nv false fun _ => 0) 92 := Blk.keep g2 k2 (by simp only [List.mem_singleton]; omega)
  replace k2 := Lib.hid k2
  replace d0 := Lib.hid d0
  go_wp2_with (first | (with_reducible refine wpList_load_row rfl 92 (.tmp 2) rfl (w.heap.size) rfl 92 _ (0, 0) _ (Blk.eq d0.out) Tryz.underlying92 rfl (by rw [nv_size]; exact Tryz.infoN) ?_) | (with_reducible refine wpList_store_row rfl 92 (.tmp 4) (.tmp 27) rfl (w.heap.size + 1 + 1) _ rfl rfl 92 _ (Blk.eq d2) (by rw [nv_size]; exact Tryz.infoN) (by rw [nv_size, nv_size]) (nv_one _ _) ?_))
  exact bodyPost_ret (v := .agg (nv t (subW g f))) (results_cell_row rfl _ _ (w.heap.size + 1 + 1) 92 _ (0, 0) _ rfl (Blk.setRow d2).eq Tryz.underlying92 rfl (by rw [nv_size]; exact Tryz.infoN)) rfl
    ⟨rfl, (Keep.setRow k2' (by omega) _).below⟩

def plusP (s : Bool) (N : Nat) (t : Bool) (M : Nat) : Bool × Nat := if s = t then (s, N + M) else if N < M then (t, M - N) else (s, N - M)
theorem plus_any (s t : Bool) (N M : Nat) (w : World) (hN : N < B9 ^ 16) (hM : M < B9 ^ 16) :
    Calls Tryz.prog 79 #[.agg (nv s (wd N)), .agg (nv t (wd M))] w fun e w' => e = .returned (.agg (nv (plusP s N t M).1 (wd (plusP s N t M).2))) ∧ Below w.heap.size w w' := by
  have nvc : ∀ b f g, (∀ i, f i = g i) → nv b f = nv b g := fun b f g h => by rw [funext h]
  unfold plusP
  by_cases hst : s = t
  · subst hst
    rw [if_pos rfl, ← nvc s (sumW (wd N) (wd M)) (wd (N + M)) (sumW_wd N M)]
    exact plus_same s (wd N) (wd M) w (wd_lt N) (wd_lt M)
  · have hb : (s == t) = false := by simpa using hst
    have hcm := cmpW_wd N M 16
    rw [Nat.mod_eq_of_lt hN, Nat.mod_eq_of_lt hM] at hcm
    unfold sgn at hcm
    rw [if_neg hst]
    by_cases hl : N < M
    · rw [if_pos hl] at hcm ⊢
      rw [← nvc t (subW (wd M) (wd N)) (wd (M - N)) (fun k => subW_wd M N k (by omega))]
      exact plus_swap s t (wd N) (wd M) w (wd_lt N) (wd_lt M) hb (by omega)
    · rw [if_neg hl] at hcm ⊢
      rw [← nvc s (subW (wd N) (wd M)) (wd (N - M)) (fun k => subW_wd N M k (by omega))]
      exact plus_diff s t (wd N) (wd M) w (wd_lt N) (wd_lt M) hb (by rw [hcm]; split <;> omega)
theorem plusP_signed (s : Bool) (N : Nat) (t : Bool) (M : Nat) : signed (plusP s N t M).1 (plusP s N t M).2 = signed s N + signed t M := by
  unfold plusP signed
  cases s <;> cases t <;> simp
  · split <;> simp <;> omega
  · split <;> simp <;> omega
  · omega
end Go.Proofs.YthecgifgjagmaaaGreatDoor.dec
