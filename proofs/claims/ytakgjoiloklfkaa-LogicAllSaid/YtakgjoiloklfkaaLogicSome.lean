/- All and Any over the iterator of LogicAll. -/
import Derived.Test.YtakgjoiloklfkaaLogicSeq
namespace Go.Proofs.Ytakgjoiloklfkaa.logic
open Go.RowKit Go.Shelf kit
set_option linter.unusedVariables false
set_option linter.unusedSimpArgs false
attribute [local go_sem] Oper.semAt_some
/-- What has come, put together. -/
def fo (f : Int → Int → Int) (i : Int) (l : List Int) : Int := l.foldl f i
theorem fo_snoc (f : Int → Int → Int) (i : Int) (l : List Int) (x : Int) : fo f i (l ++ [x]) = f (fo f i l) x := by simp [fo]
/-- Where it ends: behind k, which settles it, or at the end. -/
structure Ends (f : Int → Int → Int) (i z : Int) (l : List Int) (k : Nat) : Prop where
  le : k ≤ l.length
  no : ∀ j, j < k → fo f i (l.take j) ≠ z
  fin : k = l.length ∨ fo f i (l.take k) = z
/-- The walk's invariant. -/
structure SI (w : World) (C : Nat) (f : Int → Int → Int) (i z : Int) (pre : List Int) (W : World) : Prop where
  box : Blk W w.heap.size #[.int .i64 (fo f i pre)] 3
  no : ∀ j, j ≤ pre.length → fo f i (pre.take j) ≠ z
  keep : Keep [C] w W
structure SX (w : World) (C : Nat) (f : Int → Int → Int) (i z : Int) (c : Code) (pre : List Int) (W : World) : Prop where
  code : c = .exit 0
  box : Blk W w.heap.size #[.int .i64 (fo f i pre)] 3
  no : ∀ j, j < pre.length → fo f i (pre.take j) ≠ z
  fin : fo f i pre = z
  keep : Keep [C] w W
theorem blk_kept {W W' : World} {row : Option Nat} {b : Nat} {cs : Array Value} {t : TypeId} (h : Blk W b cs t) (hg : W.grownBy W' row) (hr : ∀ r, row = some r → ∃ o : Obj, W.heap[r]? = some o ∧ o.isCells = false) : Blk W' b cs t :=
  (grownBy_keeps_cells hg hr h rfl).trans h
theorem keep_kept {w W W' : World} {C B : Nat} {row : Option Nat} (h : Keep [C] w W) (hg : W.grownBy W' row) (hB : w.heap.size ≤ B) (hr : ∀ r, row = some r → B ≤ r) : Keep [C] w W' :=
  h.grown hg (fun k e hk => by have := hr k e; omega)
theorem blk_put {W : World} {b l : Nat} {cs : Array Value} {t : TypeId} (o : Obj) (h : Blk W b cs t) (hne : b ≠ l) : Blk (W.putObj l o) b cs t := (World.putObj_heap_other hne).trans h
theorem eq_nil_no (B C : Nat) (W : World) : (binOp .eql 30 (.func (.func 15) #[] #[.pointer (some ⟨B, 0, none⟩), .pointer (some ⟨C, 0, none⟩)]) Value.nilFunc).run Try.prog W = .ok (.bool false) W := by kernel_rfl
set_option maxRecDepth 100000 in
set_option maxHeartbeats 2000000 in
theorem all_x (w : World) (B C cap : Nat) (ao : Option Addr) (zs : List Int) (hlen : zs.length ≤ 9223372036854775807) (hC : C < w.heap.size) (hB : B < w.heap.size) (hBC : B ≠ C)
    (hcB : w.cell? ⟨B, 0, none⟩ = some (.slice ao zs.length cap)) (hbox : Blk w C #[.int .i64 0] 3)
    (hz : ∀ j, j < zs.length → ∃ b off, ao = some ⟨b, off, none⟩ ∧ b < w.heap.size ∧ b ≠ C ∧ w.cell? ⟨b, off + j, none⟩ = some (.int .i64 (zs.getD j 0))) :
    Calls Try.prog 16 #[.func (.func 15) #[] #[.pointer (some ⟨B, 0, none⟩), .pointer (some ⟨C, 0, none⟩)]] w fun e W' =>
      ∃ k, Ends and3 1 0 (comes zs) k ∧ e = .returned (.int .i64 (fo and3 1 ((comes zs).take k))) ∧ Keep [C] w W' ∧ Blk W' C #[.int .i64 (k : Int)] 3 := by
  have hseq := seq_x (3 - 1) (by decide) w w.heap.size B C cap ao zs hlen hC hB hBC hcB hbox hz
  replace hseq := Lib.hid hseq
  have hnil := eq_nil_no B C
  clear hz hcB hbox
  refine (callsIn_wide (n := 3)).1 ?_
  refine callsIn_of_wp_marks Try.func16 rfl trivial ?_ rfl
  simp only [Try.ntmps16, List.size_toArray, List.length_cons, List.length_nil, Nat.reduceAdd, Nat.reduceSub, Array.replicate_succ, Array.replicate_zero, List.push_toArray, List.append_toArray, List.nil_append, List.cons_append]
  gi_wp2
  have hs1 : (w.alloc (.cells #[.int .i64 1] 3)).heap.size = w.heap.size + 1 := World.size_alloc _ _
  have hb1 : Blk (w.alloc (.cells #[.int .i64 1] 3)) w.heap.size #[.int .i64 1] 3 := Blk.new _ _ _
  have hk1 : Keep [C] w (w.alloc (.cells #[.int .i64 1] 3)) := (Keep.refl _ _).alloc _
  have hbl : Below w.heap.size w (w.alloc (.cells #[.int .i64 1] 3)) := (Below.refl _ _).alloc (Nat.le_refl _) _
  generalize w.alloc (.cells #[.int .i64 1] 3) = V at *
  refine rangeX (w := V) rfl (by decide) (gf := 15) (lb := #[.pointer (some ⟨B, 0, none⟩), .pointer (some ⟨C, 0, none⟩)]) rfl trivial (enters_of Try.func15 (by kernel_rfl) rfl)
    hseq.out (fun h k => h.trans k)
    (fun W l o o' hl ho _ => (Below.refl _ W).grown (grownBy_putObj' W l o') (by have := (Array.getElem?_eq_some_iff.1 ho).1; omega) (fun k e => by cases e; omega))
    (fun o o' => (hbl.alloc (by omega) o).alloc (by simp; omega) o') (fun _ => rfl)
    (fun A B k ⟨v, h⟩ hk => by rw [h]; exact heap_setCell_other A ⟨C, 0, none⟩ k v (by show k ≠ C; omega))
    (fun xs W l o o' hl _ _ h => ⟨h.1, blk_put o' h.2 (by omega)⟩) (fun xs W l o o' hl _ _ h => ⟨h.1, blk_put o' h.2 (by omega)⟩)
    (SI w C and3 1 0) (SX w C and3 1 0)
    (fun s X Y row hs hg hr => ⟨blk_kept hs.box hg (fun r e => (hr r e).2), hs.no, keep_kept hs.keep hg (by omega) (fun r e => (hr r e).1)⟩)
    (fun c s X Y row hs hg hr => ⟨hs.code, blk_kept hs.box hg (fun r e => (hr r e).2), hs.no, hs.fin, keep_kept hs.keep hg (by omega) (fun r e => (hr r e).1)⟩)
    (fun s X Y hs ⟨v, h⟩ => by rw [h]; exact ⟨hs.box.set_other ⟨C, 0, none⟩ (by show w.heap.size ≠ C; omega) v, hs.no, hs.keep.setCell (by simp) v⟩)
    ⟨hb1, fun j hj => by simp at hj; subst hj; decide, hk1⟩
    (fun x => { tmps := #[.func (.func 15) #[] #[.pointer (some ⟨B, 0, none⟩), .pointer (some ⟨C, 0, none⟩)], undef, .int .i64 0, .pointer (some ⟨w.heap.size, 0, none⟩), .int .i64 x,
      .func (.func 15) #[] #[.pointer (some ⟨B, 0, none⟩), .pointer (some ⟨C, 0, none⟩)], .bool false, undef, .func (.func 15) #[] #[.pointer (some ⟨B, 0, none⟩), .pointer (some ⟨C, 0, none⟩)], .int .i64 x, undef, undef, undef, undef, undef, undef], defers := [] }) ?assign ?body ?done ?stop
  case assign =>
    intro l x W K hK
    gi_wp2
    exact hK
  case body =>
    rintro l pre x W hI hlen
    have hbx := hI.box
    have hno := hI.no
    have hkp := hI.keep
    clear hI hseq
    have c0 : W.cell? ⟨w.heap.size, 0, none⟩ = some (.int .i64 (fo and3 1 pre)) := hbx.cell 0 rfl
    have f0 : W.frozen? ⟨w.heap.size, 0, none⟩ = false := hbx.free 0
    obtain ⟨y, hy⟩ : ∃ y, and3 (fo and3 1 pre) x = y := ⟨_, rfl⟩
    have hfo : fo and3 1 (pre ++ [x]) = y := by rw [fo_snoc, hy]
    have hfin : ∀ nq, KeepsOthers W ((W.drewN nq).setCell ⟨w.heap.size, 0, none⟩ (.int .i64 y)) ∧ Below w.heap.size W ((W.drewN nq).setCell ⟨w.heap.size, 0, none⟩ (.int .i64 y)) ∧ Blk ((W.drewN nq).setCell ⟨w.heap.size, 0, none⟩ (.int .i64 y)) w.heap.size #[.int .i64 y] 3 ∧ Keep [C] w ((W.drewN nq).setCell ⟨w.heap.size, 0, none⟩ (.int .i64 y)) := fun nq =>
      ⟨(show KeepsOthers W (W.drewN nq) from ⟨Nat.le_refl _, fun _ _ h _ => h⟩).trans (KeepsOthers.setCell _ _ _), (Below_drewN nq (Below.refl _ W)).setCell (p := ⟨w.heap.size, 0, none⟩) (Nat.le_refl _) _, by have := (hbx.drewN nq).set 0 (.int .i64 y); simpa using this, (hkp.drewN nq).setCell (fun h => absurd h (Nat.lt_irrefl _)) _⟩
    replace hfin := Lib.hid hfin
    replace hbx := Lib.hid hbx
    have hno2 : ∀ j, j < (pre ++ [x]).length → fo and3 1 ((pre ++ [x]).take j) ≠ 0 := fun j hj => by
      rw [List.length_append, List.length_singleton] at hj
      rw [List.take_append_of_le_length (by omega)]
      exact hno j (by omega)
    have hno3 : y ≠ 0 → ∀ j, j ≤ (pre ++ [x]).length → fo and3 1 ((pre ++ [x]).take j) ≠ 0 := fun h j hj => by
      rcases Nat.lt_or_ge j (pre ++ [x]).length with e | e
      · exact hno2 j e
      · rw [List.take_of_length_le e, hfo]; exact h
    replace hno2 := Lib.hid hno2
    replace hno3 := Lib.hid hno3
    replace hfo := Lib.hid hfo
    clear hno hkp
    by_cases hy0 : y = 0
    · have hy0b : (y == 0) = true := by rw [hy0]; rfl
      gi_wp2_with (refine ⟨trivial, ?_⟩; gi_at_call 8; refine (CallsIn.inRound l (callsIn_wide.2 (and_any _ _ _))).mono ?_; rintro e w' ⟨rfl, nq, rfl⟩)
      obtain ⟨g1, g2, g3, g4⟩ := hfin.out nq
      have hfo2 := hfo.out
      subst hy0
      exact ⟨g1, g2, rfl, by rw [hfo2]; exact g3, hno2.out, hfo2, g4⟩
    · have hy0b : (y == 0) = false := beq_eq_false_iff_ne.2 hy0
      gi_wp2_with (refine ⟨trivial, ?_⟩; gi_at_call 8; refine (CallsIn.inRound l (callsIn_wide.2 (and_any _ _ _))).mono ?_; rintro e w' ⟨rfl, nq, rfl⟩)
      obtain ⟨g1, g2, g3, g4⟩ := hfin.out nq
      rw [← hfo.out] at g1 g2 g3 g4 ⊢
      exact ⟨g1, g2, g3, hno3.out hy0, g4⟩
  case done =>
    rintro D ys W hD ⟨rfl, hcb⟩ hI hK
    have c0 : W.cell? ⟨w.heap.size, 0, none⟩ = some (.int .i64 (fo and3 1 (comes zs))) := hI.box.cell 0 rfl
    gi_wp2
    have hlD : D < W.heap.size := (Array.getElem?_eq_some_iff.1 hK).1
    refine ⟨by simp, .inl ⟨_, _, rfl, run_takeDeferred hK, ?_⟩⟩
    exact ⟨_, results_tmp rfl _ _ _, (comes zs).length, ⟨Nat.le_refl _, fun j hj => hI.no j (by omega), .inl rfl⟩, by rw [List.take_length]; rfl, keep_kept hI.keep (grownBy_putObj' W D _) (Nat.le_refl _) (fun r e => by cases e; omega), blk_put _ hcb (by omega)⟩
  case stop =>
    rintro D c pre W hD ⟨hpre, hcb⟩ hI hK
    obtain rfl := hI.code
    have c0 : W.cell? ⟨w.heap.size, 0, none⟩ = some (.int .i64 (fo and3 1 pre)) := hI.box.cell 0 rfl
    gi_wp2
    have htk : (comes zs).take pre.length = pre := (List.prefix_iff_eq_take.1 hpre).symm
    refine ⟨by simp, .inl ⟨_, _, rfl, run_takeDeferred hK, ?_⟩⟩
    exact ⟨_, results_tmp rfl _ _ _, pre.length, ⟨hpre.length_le, fun j hj => by
      have := hI.no j hj
      rw [← htk, List.take_take, Nat.min_eq_left (by omega)] at this
      exact this, .inr (by rw [htk]; exact hI.fin)⟩, by rw [htk]; rfl, keep_kept hI.keep (grownBy_putObj' W D _) (Nat.le_refl _) (fun r e => by cases e; omega), blk_put _ hcb (by omega)⟩
set_option maxRecDepth 100000 in
set_option maxHeartbeats 2000000 in
theorem any_x (w : World) (B C cap : Nat) (ao : Option Addr) (zs : List Int) (hlen : zs.length ≤ 9223372036854775807) (hC : C < w.heap.size) (hB : B < w.heap.size) (hBC : B ≠ C)
    (hcB : w.cell? ⟨B, 0, none⟩ = some (.slice ao zs.length cap)) (hbox : Blk w C #[.int .i64 0] 3)
    (hz : ∀ j, j < zs.length → ∃ b off, ao = some ⟨b, off, none⟩ ∧ b < w.heap.size ∧ b ≠ C ∧ w.cell? ⟨b, off + j, none⟩ = some (.int .i64 (zs.getD j 0))) :
    Calls Try.prog 17 #[.func (.func 15) #[] #[.pointer (some ⟨B, 0, none⟩), .pointer (some ⟨C, 0, none⟩)]] w fun e W' =>
      ∃ k, Ends or3 0 1 (comes zs) k ∧ e = .returned (.int .i64 (fo or3 0 ((comes zs).take k))) ∧ Keep [C] w W' ∧ Blk W' C #[.int .i64 (k : Int)] 3 := by
  have hseq := seq_x (3 - 1) (by decide) w w.heap.size B C cap ao zs hlen hC hB hBC hcB hbox hz
  replace hseq := Lib.hid hseq
  have hnil := eq_nil_no B C
  clear hz hcB hbox
  refine (callsIn_wide (n := 3)).1 ?_
  refine callsIn_of_wp_marks Try.func17 rfl trivial ?_ rfl
  simp only [Try.ntmps17, List.size_toArray, List.length_cons, List.length_nil, Nat.reduceAdd, Nat.reduceSub, Array.replicate_succ, Array.replicate_zero, List.push_toArray, List.append_toArray, List.nil_append, List.cons_append]
  gi_wp2
  have hs1 : (w.alloc (.cells #[.int .i64 0] 3)).heap.size = w.heap.size + 1 := World.size_alloc _ _
  have hb1 : Blk (w.alloc (.cells #[.int .i64 0] 3)) w.heap.size #[.int .i64 0] 3 := Blk.new _ _ _
  have hk1 : Keep [C] w (w.alloc (.cells #[.int .i64 0] 3)) := (Keep.refl _ _).alloc _
  have hbl : Below w.heap.size w (w.alloc (.cells #[.int .i64 0] 3)) := (Below.refl _ _).alloc (Nat.le_refl _) _
  generalize w.alloc (.cells #[.int .i64 0] 3) = V at *
  refine rangeX (w := V) rfl (by decide) (gf := 15) (lb := #[.pointer (some ⟨B, 0, none⟩), .pointer (some ⟨C, 0, none⟩)]) rfl trivial (enters_of Try.func15 (by kernel_rfl) rfl)
    hseq.out (fun h k => h.trans k)
    (fun W l o o' hl ho _ => (Below.refl _ W).grown (grownBy_putObj' W l o') (by have := (Array.getElem?_eq_some_iff.1 ho).1; omega) (fun k e => by cases e; omega))
    (fun o o' => (hbl.alloc (by omega) o).alloc (by simp; omega) o') (fun _ => rfl)
    (fun A B k ⟨v, h⟩ hk => by rw [h]; exact heap_setCell_other A ⟨C, 0, none⟩ k v (by show k ≠ C; omega))
    (fun xs W l o o' hl _ _ h => ⟨h.1, blk_put o' h.2 (by omega)⟩) (fun xs W l o o' hl _ _ h => ⟨h.1, blk_put o' h.2 (by omega)⟩)
    (SI w C or3 0 1) (SX w C or3 0 1)
    (fun s X Y row hs hg hr => ⟨blk_kept hs.box hg (fun r e => (hr r e).2), hs.no, keep_kept hs.keep hg (by omega) (fun r e => (hr r e).1)⟩)
    (fun c s X Y row hs hg hr => ⟨hs.code, blk_kept hs.box hg (fun r e => (hr r e).2), hs.no, hs.fin, keep_kept hs.keep hg (by omega) (fun r e => (hr r e).1)⟩)
    (fun s X Y hs ⟨v, h⟩ => by rw [h]; exact ⟨hs.box.set_other ⟨C, 0, none⟩ (by show w.heap.size ≠ C; omega) v, hs.no, hs.keep.setCell (by simp) v⟩)
    ⟨hb1, fun j hj => by simp at hj; subst hj; decide, hk1⟩
    (fun x => { tmps := #[.func (.func 15) #[] #[.pointer (some ⟨B, 0, none⟩), .pointer (some ⟨C, 0, none⟩)], undef, .int .i64 0, .pointer (some ⟨w.heap.size, 0, none⟩), .int .i64 x,
      .func (.func 15) #[] #[.pointer (some ⟨B, 0, none⟩), .pointer (some ⟨C, 0, none⟩)], .bool false, undef, .func (.func 15) #[] #[.pointer (some ⟨B, 0, none⟩), .pointer (some ⟨C, 0, none⟩)], .int .i64 x, undef, undef, undef, undef, undef, undef], defers := [] }) ?assign ?body ?done ?stop
  case assign =>
    intro l x W K hK
    gi_wp2
    exact hK
  case body =>
    rintro l pre x W hI hlen
    have hbx := hI.box
    have hno := hI.no
    have hkp := hI.keep
    clear hI hseq
    have c0 : W.cell? ⟨w.heap.size, 0, none⟩ = some (.int .i64 (fo or3 0 pre)) := hbx.cell 0 rfl
    have f0 : W.frozen? ⟨w.heap.size, 0, none⟩ = false := hbx.free 0
    obtain ⟨y, hy⟩ : ∃ y, or3 (fo or3 0 pre) x = y := ⟨_, rfl⟩
    have hfo : fo or3 0 (pre ++ [x]) = y := by rw [fo_snoc, hy]
    have hfin : ∀ nq, KeepsOthers W ((W.drewN nq).setCell ⟨w.heap.size, 0, none⟩ (.int .i64 y)) ∧ Below w.heap.size W ((W.drewN nq).setCell ⟨w.heap.size, 0, none⟩ (.int .i64 y)) ∧ Blk ((W.drewN nq).setCell ⟨w.heap.size, 0, none⟩ (.int .i64 y)) w.heap.size #[.int .i64 y] 3 ∧ Keep [C] w ((W.drewN nq).setCell ⟨w.heap.size, 0, none⟩ (.int .i64 y)) := fun nq =>
      ⟨(show KeepsOthers W (W.drewN nq) from ⟨Nat.le_refl _, fun _ _ h _ => h⟩).trans (KeepsOthers.setCell _ _ _), (Below_drewN nq (Below.refl _ W)).setCell (p := ⟨w.heap.size, 0, none⟩) (Nat.le_refl _) _, by have := (hbx.drewN nq).set 0 (.int .i64 y); simpa using this, (hkp.drewN nq).setCell (fun h => absurd h (Nat.lt_irrefl _)) _⟩
    replace hfin := Lib.hid hfin
    replace hbx := Lib.hid hbx
    have hno2 : ∀ j, j < (pre ++ [x]).length → fo or3 0 ((pre ++ [x]).take j) ≠ 1 := fun j hj => by
      rw [List.length_append, List.length_singleton] at hj
      rw [List.take_append_of_le_length (by omega)]
      exact hno j (by omega)
    have hno3 : y ≠ 1 → ∀ j, j ≤ (pre ++ [x]).length → fo or3 0 ((pre ++ [x]).take j) ≠ 1 := fun h j hj => by
      rcases Nat.lt_or_ge j (pre ++ [x]).length with e | e
      · exact hno2 j e
      · rw [List.take_of_length_le e, hfo]; exact h
    replace hno2 := Lib.hid hno2
    replace hno3 := Lib.hid hno3
    replace hfo := Lib.hid hfo
    clear hno hkp
    by_cases hy0 : y = 1
    · have hy0b : (y == 1) = true := by rw [hy0]; rfl
      gi_wp2_with (refine ⟨trivial, ?_⟩; gi_at_call 10; refine (CallsIn.inRound l (callsIn_wide.2 (or_any _ _ _))).mono ?_; rintro e w' ⟨rfl, nq, rfl⟩)
      obtain ⟨g1, g2, g3, g4⟩ := hfin.out nq
      have hfo2 := hfo.out
      subst hy0
      exact ⟨g1, g2, rfl, by rw [hfo2]; exact g3, hno2.out, hfo2, g4⟩
    · have hy0b : (y == 1) = false := beq_eq_false_iff_ne.2 hy0
      gi_wp2_with (refine ⟨trivial, ?_⟩; gi_at_call 10; refine (CallsIn.inRound l (callsIn_wide.2 (or_any _ _ _))).mono ?_; rintro e w' ⟨rfl, nq, rfl⟩)
      obtain ⟨g1, g2, g3, g4⟩ := hfin.out nq
      rw [← hfo.out] at g1 g2 g3 g4 ⊢
      exact ⟨g1, g2, g3, hno3.out hy0, g4⟩
  case done =>
    rintro D ys W hD ⟨rfl, hcb⟩ hI hK
    have c0 : W.cell? ⟨w.heap.size, 0, none⟩ = some (.int .i64 (fo or3 0 (comes zs))) := hI.box.cell 0 rfl
    gi_wp2
    have hlD : D < W.heap.size := (Array.getElem?_eq_some_iff.1 hK).1
    refine ⟨by simp, .inl ⟨_, _, rfl, run_takeDeferred hK, ?_⟩⟩
    exact ⟨_, results_tmp rfl _ _ _, (comes zs).length, ⟨Nat.le_refl _, fun j hj => hI.no j (by omega), .inl rfl⟩, by rw [List.take_length]; rfl, keep_kept hI.keep (grownBy_putObj' W D _) (Nat.le_refl _) (fun r e => by cases e; omega), blk_put _ hcb (by omega)⟩
  case stop =>
    rintro D c pre W hD ⟨hpre, hcb⟩ hI hK
    obtain rfl := hI.code
    have c0 : W.cell? ⟨w.heap.size, 0, none⟩ = some (.int .i64 (fo or3 0 pre)) := hI.box.cell 0 rfl
    gi_wp2
    have htk : (comes zs).take pre.length = pre := (List.prefix_iff_eq_take.1 hpre).symm
    refine ⟨by simp, .inl ⟨_, _, rfl, run_takeDeferred hK, ?_⟩⟩
    exact ⟨_, results_tmp rfl _ _ _, pre.length, ⟨hpre.length_le, fun j hj => by
      have := hI.no j hj
      rw [← htk, List.take_take, Nat.min_eq_left (by omega)] at this
      exact this, .inr (by rw [htk]; exact hI.fin)⟩, by rw [htk]; rfl, keep_kept hI.keep (grownBy_putObj' W D _) (Nat.le_refl _) (fun r e => by cases e; omega), blk_put _ hcb (by omega)⟩
end Go.Proofs.Ytakgjoiloklfkaa.logic
