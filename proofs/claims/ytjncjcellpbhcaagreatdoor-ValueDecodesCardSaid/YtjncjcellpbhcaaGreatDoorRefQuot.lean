/- Contract of the reference's quotient. -/
import Derived.Test.YtjncjcellpbhcaaGreatDoorRefTimes
import Derived.Deep.RegionLaw
import Derived.Deep.AppendLies
import Derived.Deep.OwnRows
namespace Go.Proofs.YtjncjcellpbhcaaGreatDoor.dec
open Go.ChangeShapes Go.WideShapes Go.ChangeAt Go.RowKit kit
set_option linter.unusedVariables false
set_option linter.unusedSimpArgs false
theorem own_mono {w : World} {B B' : Nat} {v : Value} {n : Nat} {xs : List Value} (h : w.ownsRow B 3 1 v n xs) (hb : B' ≤ B) : w.ownsRow B' 3 1 v n xs := by
  refine ⟨h.1, ?_⟩
  rcases h.2 with h | ⟨g, cap, cur, hv, hg, hh⟩
  · exact .inl h
  · exact .inr ⟨g, cap, cur, hv, Nat.le_trans hb hg, hh⟩
/-- What holds of the world in the division: q's row, what is left. -/
structure QW (G wr : World) (n : Nat) (Q : List Nat) (vl : Value) (Lf : List Nat) : Prop where
  below : Below G.heap.size G wr
  q : wr.ownsRow G.heap.size 3 1 (.slice (some ⟨G.heap.size, 0, none⟩) n n) n (intsV Q)
  left : wr.ownsRow (G.heap.size + 1) 3 1 vl Lf.length (intsV Lf)
theorem QW.lt {G wr : World} {n : Nat} {Q : List Nat} {vl : Value} {Lf : List Nat} (h : QW G wr n Q vl Lf) : G.heap.size + 1 ≤ wr.heap.size := (h.q.lt G.heap.size rfl).2
theorem QW.ints {G wr : World} {n : Nat} {Q : List Nat} {vl : Value} {Lf : List Nat} (h : QW G wr n Q vl Lf) : IntsAt wr vl Lf := own_ints h.left
theorem QW.set {G wr : World} {n : Nat} {Q : List Nat} {vl : Value} {Lf : List Nat} (h : QW G wr n Q vl Lf) (j x : Nat) : QW G (wr.setCell ⟨G.heap.size, j, none⟩ (.int .i64 (x : Int))) n (Q.set j x) vl Lf := by
  refine ⟨h.below.setCell (Nat.le_refl _) _, ?_, own_set h.left (Nat.lt_succ_self _) j _⟩
  have h1 := (h.q.stored j (.int .i64 (x : Int))).1
  rw [intsV, List.map_set]
  exact h1
theorem QW.cell {G wr : World} {n : Nat} {Q : List Nat} {vl : Value} {Lf : List Nat} (h : QW G wr n Q vl Lf) (j : Nat) (hj : j < n) (hn : Q.length = n) : wr.cell? ⟨G.heap.size, j, none⟩ = some (.int .i64 (Q.getD j 0 : Nat)) ∧ wr.frozen? ⟨G.heap.size, j, none⟩ = false := by
  refine ⟨?_, h.q.frozenAt j⟩
  rw [h.q.cellAt j (by omega)]
  simp [intsV, List.getD_eq_getElem?_getD, List.getElem?_eq_getElem (show j < Q.length by omega)]
theorem QW.sub {G wr w' : World} {n : Nat} {Q : List Nat} {vl v' : Value} {Lf D : List Nat} (h : QW G wr n Q vl Lf) (hI : IW wr wr.heap.size v' D w') : QW G w' n Q v' D := by
  have hlt := h.lt
  refine ⟨h.below.trans (hI.below.mono (by omega)), ?_, own_mono hI.own (by omega)⟩
  have hb := hI.below
  refine h.q.kept (row := none) ⟨hb.os, hb.tape, hb.output, hb.size, fun k hk _ => hb.block k hk⟩ (.inr (by simp [Value.ownBlock]))
theorem QW.lit {G wr : World} {n : Nat} {Q : List Nat} {vl : Value} {Lf : List Nat} (h : QW G wr n Q vl Lf) (x : Nat) : QW G (wr.alloc (.cells #[.int .i64 (x : Int)] 3)) n Q (.slice (some ⟨wr.heap.size, 0, none⟩) 1 1) [x] := by
  have hlt := h.lt
  refine ⟨h.below.alloc (by omega) _, h.q.alloc _, ?_⟩
  exact World.ownsRow_lit wr #[.int .i64 (x : Int)] 1 hlt (by decide) rfl
theorem QW.grown {G wr w' : World} {n : Nat} {Q : List Nat} {vl v' : Value} {Lf m : List Nat} (h : QW G wr n Q vl Lf) (h1 : w'.ownsRow (G.heap.size + 1) 3 1 v' (Lf.length + m.length) (intsV Lf ++ intsV m)) (h2 : wr.grownBy w' vl.ownBlock) : QW G w' n Q v' (Lf ++ m) := by
  have hlt := h.lt
  refine ⟨h.below.grown h2 (by omega) (fun k hk => by have := (h.left.lt k hk).1; omega), h.q.kept h2 (.inr ?_), ?_⟩
  · intro e
    have := (h.left.lt G.heap.size e.symm).1
    omega
  · rw [List.length_append]
    simpa [intsV] using h1
/-- What holds of the world ahead of the append of twenty noughts and a row. -/
structure QA (W w2 : World) (b : Nat) (vx : Value) (X : List Nat) : Prop where
  below : Below W.heap.size W w2
  own : w2.ownsRow W.heap.size 3 1 (.slice (some ⟨b, 0, none⟩) 20 20) 20 (intsV (List.replicate 20 0))
  ints : IntsAt w2 vx X
theorem made_own (w : World) (B : Nat) (hB : B ≤ w.heap.size) : (w.alloc (.cells (madeCells #[.int .i64 0] 20) 3)).ownsRow B 3 1 (.slice (some ⟨w.heap.size, 0, none⟩) 20 20) 20 (intsV (List.replicate 20 0)) := by
  have h := World.ownsRow_lit (e := 3) (size := 1) (base := B) w (madeCells #[.int .i64 0] 20) 20 hB (by decide) (by rw [size_madeCells])
  rwa [made_ints] at h
theorem QA.one {W w' : World} {vx : Value} {X : List Nat} (hI : Hid (IW (W.alloc (.cells (madeCells #[.int .i64 0] 20) 3)).drew (W.alloc (.cells (madeCells #[.int .i64 0] 20) 3)).drew.heap.size vx X w')) : QA W w' W.heap.size vx X := by
  have hb := hI.out.below
  have hs : (W.alloc (.cells (madeCells #[.int .i64 0] 20) 3)).drew.heap.size = W.heap.size + 1 := World.size_alloc _ _
  refine ⟨((Below.refl _ _).alloc (Nat.le_refl _) _).drew.trans (hb.mono (by omega)), ?_, hI.out.ints⟩
  exact World.ownsRow.kept (w := (W.alloc (.cells (madeCells #[.int .i64 0] 20) 3)).drew) (row := none) (made_own W W.heap.size (Nat.le_refl _)) ⟨hb.os, hb.tape, hb.output, hb.size, fun k hk _ => hb.block k hk⟩ (.inr (by simp [Value.ownBlock]))
theorem QA.two {W w' : World} {vx : Value} {X : List Nat} (hI : Hid (IW W.drew W.drew.heap.size vx X w')) : QA W (w'.alloc (.cells (madeCells #[.int .i64 0] 20) 3)) w'.heap.size vx X := by
  have hb := hI.out.below
  have hs : W.drew.heap.size = W.heap.size := rfl
  have hle := hb.size
  refine ⟨((Below.refl W.heap.size W).drew.trans hb).alloc (by omega) _, made_own w' W.heap.size (by omega), hI.out.ints.below ((Below.refl _ _).alloc (Nat.le_refl _) _)⟩
theorem QA.fin {w W w2 w3 : World} {b g cap : Nat} {vx vb va : Value} {s t : Bool} {sa sb : Nat} {X B : List Nat} (h : QA W w2 b vx X) (pw : RW w W s t va vb sa sb) (hvb : IntsAt W vb B)
    (ho : w3.ownsRow W.heap.size 3 1 (.slice (some ⟨g, 0, none⟩) (20 + X.length) cap) (20 + X.length) (intsV (List.replicate 20 0) ++ intsV X)) (hg : w2.grownBy w3 (Value.ownBlock (.slice (some ⟨b, 0, none⟩) 20 20))) :
    RW w w3 s t va vb sa sb ∧ IntsAt w3 vb B ∧ IntsAt w3 (.slice (some ⟨g, 0, none⟩) (20 + X.length) cap) (List.replicate 20 0 ++ X) := by
  have hb := h.below.grown hg h.below.size (fun k hk => (h.own.lt k hk).1)
  refine ⟨pw.on hb, hvb.below hb, ?_⟩
  have hl : (List.replicate 20 0 ++ X).length = 20 + X.length := by rw [List.length_append, List.length_replicate]
  have hv : intsV (List.replicate 20 0 ++ X) = intsV (List.replicate 20 0) ++ intsV X := by unfold intsV; rw [List.map_append]
  have h2 := own_ints (W1 := w3) (B := W.heap.size) (v := .slice (some ⟨g, 0, none⟩) (20 + X.length) cap) (l := List.replicate 20 0 ++ X) (by rw [hl, hv]; exact ho)
  exact h2
/-- What holds of the numbers at the head of a round: Y goes into the upper digits. -/
structure QI (X : Nat) (Y : Nat) (n k : Nat) (Q Lf : List Nat) : Prop where
  len : Q.length = n
  dq : dgs Q
  dl : dgs Lf
  ll : Lf.length ≤ n - k
  q : vL Q = 10 ^ k * (X / 10 ^ k / Y)
  r : vL Lf = X / 10 ^ k % Y
/-- .. and within a round, behind j subtractions. -/
structure QJ (X : Nat) (Y : Nat) (n k j : Nat) (Q Lf : List Nat) : Prop where
  len : Q.length = n
  dq : dgs Q
  dl : dgs Lf
  ll : Lf.length ≤ n - k
  q : vL Q = 10 ^ (k + 1) * (X / 10 ^ (k + 1) / Y) + 10 ^ k * j
  r : vL Lf + j * Y = X / 10 ^ k - 10 * (X / 10 ^ (k + 1) / Y * Y)
  jk : Q.getD k 0 = j
theorem div_up (X k : Nat) : X / 10 ^ k = 10 * (X / 10 ^ (k + 1)) + X / 10 ^ k % 10 := by
  rw [Nat.pow_succ, ← Nat.div_div_eq_div_mul]; omega
theorem QI.begin {X : List Nat} {Y n k : Nat} {Q Lf : List Nat} (hX : dgs X) (hY : 0 < Y) (hk : k < n) (h : QI (vL X) Y n (k + 1) Q Lf) : QJ (vL X) Y n k 0 Q (X.getD k 0 :: Lf) := by
  have hu := div_up (vL X) k
  rw [vL_get hX] at hu
  have hm := Nat.div_add_mod (vL X / 10 ^ (k + 1)) Y
  rw [← h.r, Nat.mul_comm] at hm
  have hq := h.q
  refine ⟨h.len, h.dq, ?_, by have := h.ll; rw [List.length_cons]; omega, by rw [hq]; omega, ?_, ?_⟩
  · intro d hd
    rcases List.mem_cons.1 hd with rfl | hd
    · exact dgs_getD hX k
    · exact h.dl d hd
  · rw [vL]; omega
  · rw [← vL_get h.dq k, hq, Nat.pow_succ, Nat.mul_assoc, Nat.mul_div_cancel_left _ (Nat.pow_pos (by decide)), Nat.mul_mod_right]
theorem QJ.lt9 {X Y n k j : Nat} {Q Lf : List Nat} (hY : 0 < Y) (h : QJ X Y n k j Q Lf) (hge : Y ≤ vL Lf) : j < 9 := by
  have hr := h.r
  have hu := div_up X k
  have hm := Nat.div_add_mod (X / 10 ^ (k + 1)) Y
  have hml := Nat.mod_lt (X / 10 ^ (k + 1)) hY
  have h10 : X / 10 ^ k % 10 < 10 := Nat.mod_lt _ (by decide)
  rw [Nat.mul_comm] at hm
  have h1 : (j + 1) * Y < 10 * Y := by rw [Nat.add_mul]; omega
  have := Nat.lt_of_mul_lt_mul_right h1
  omega
theorem QJ.step {X Y n k j : Nat} {Q Lf D : List Nat} (hY : 0 < Y) (hk : k < n) (h : QJ X Y n k j Q Lf) (hge : Y ≤ vL Lf) (hD : dgs D) (hv : vL D + Y = vL Lf) (hl : D.length = Lf.length) : QJ X Y n k (j + 1) (Q.set k (j + 1)) D := by
  have h9 := h.lt9 hY hge
  have hs := vL_set Q k (j + 1) (by rw [h.len]; exact hk)
  have hq := h.q
  have hr := h.r
  rw [h.jk] at hs
  refine ⟨by rw [List.length_set]; exact h.len, dgs_set h.dq k (by omega), hD, by rw [hl]; exact h.ll, by omega, by rw [Nat.add_mul]; omega, ?_⟩
  rw [List.getD_eq_getElem?_getD, List.getElem?_set_self (by rw [h.len]; exact hk)]; rfl
theorem QJ.done {X Y n k j : Nat} {Q Lf : List Nat} (hY : 0 < Y) (h : QJ X Y n k j Q Lf) (hlt : vL Lf < Y) : QI X Y n k Q Lf := by
  have hr := h.r
  have hu := div_up X k
  have hm := Nat.div_add_mod (X / 10 ^ (k + 1)) Y
  rw [Nat.mul_comm] at hm
  have e : X / 10 ^ k = (10 * (X / 10 ^ (k + 1) / Y) + j) * Y + vL Lf := by rw [Nat.add_mul, Nat.mul_assoc]; omega
  have e1 : X / 10 ^ k / Y = 10 * (X / 10 ^ (k + 1) / Y) + j := by
    rw [e, Nat.mul_comm, Nat.mul_add_div hY, Nat.div_eq_of_lt hlt, Nat.add_zero]
  refine ⟨h.len, h.dq, h.dl, h.ll, ?_, ?_⟩
  · rw [e1, h.q, Nat.mul_add, Nat.pow_succ, Nat.mul_assoc]
  · rw [e, Nat.mul_comm, Nat.mul_add_mod, Nat.mod_eq_of_lt hlt]
theorem QI.start (X : List Nat) (hX : dgs X) {Y : Nat} (hY : 0 < Y) : QI (vL X) Y X.length X.length (List.replicate X.length 0) [] := by
  have hz : vL X / 10 ^ X.length = 0 := Nat.div_eq_of_lt (vL_lt hX)
  refine ⟨by simp, fun d hd => by rw [List.eq_of_mem_replicate hd]; decide, fun d hd => by simp at hd, by simp, ?_, ?_⟩
  · rw [hz, vL_zero.2 (fun d hd => List.eq_of_mem_replicate hd)]; simp
  · rw [hz]; simp [vL]
set_option maxRecDepth 100000 in
set_option maxHeartbeats 4000000 in
theorem rquotient_any (s t : Bool) (va vb : Value) (A B : List Nat) (sa sb : Nat) (w : World) (hva : IntsAt w va A) (hvb : IntsAt w vb B) (hA : dgs A) (hB : dgs B) (na : 1 ≤ A.length) (nb : 1 ≤ B.length)
    (la : A.length ≤ 20000) (lb : B.length ≤ 20000) (ha : sa ≤ 20000) (hb : sb ≤ 20000) (hy0 : 0 < vL B) :
    Calls Tryz.prog 72 #[.agg (numc s va sa), .agg (numc t vb sb)] w fun e w' => ∃ v D,
      e = .returned (.agg (numc (s != t) v 20)) ∧ Below w.heap.size w w' ∧ IntsAt w' v D ∧ dgs D ∧ vL D = 10 ^ 20 * (10 ^ (max sa sb - sa) * vL A) / (10 ^ (max sa sb - sb) * vL B) ∧ 1 ≤ D.length ∧ D.length ≤ 20 + (max sa sb - sa + A.length) := by
  obtain ⟨S, hS⟩ : ∃ S, max sa sb = S := ⟨_, rfl⟩
  have hSa : sa ≤ S := by omega
  have hSb : sb ≤ S := by omega
  have hS1 : S ≤ 20000 := by omega
  have hai : (sa : Int) ≤ 20000 := by omega
  have hbi : (sb : Int) ≤ 20000 := by omega
  replace hS := Lib.hid hS
  rw [hS.out]
  obtain ⟨p, hp⟩ : ∃ p, 10 ^ 20 * (10 ^ (S - sa) * vL A) / (10 ^ (S - sb) * vL B) = p := ⟨_, rfl⟩
  rw [hp]
  replace hp := Lib.hid hp
  obtain ⟨i0, hi, hx⟩ := Option.map_eq_some_iff.1 infoInt
  simp only [Prod.mk.injEq] at hx
  obtain ⟨hz0, hz1, hz2⟩ := hx
  replace hi := Lib.hid hi
  replace hz0 := Lib.hid hz0
  replace hz1 := Lib.hid hz1
  replace hz2 := Lib.hid hz2
  go_enter Tryz.func72, Tryz.ntmps72
  go_upto_region 1 with (fail)
  have pw : RW w (((w.alloc (.cells (numc s va sa) 91)).alloc (.cells (numc t vb sb) 91)).alloc (.cells #[.bool false, .slice none 0 0, .int .i64 0] 91)) s t va vb sa sb := RW.made w s t va vb sa sb
  generalize (((w.alloc (.cells (numc s va sa) 91)).alloc (.cells (numc t vb sb) 91)).alloc (.cells #[.bool false, .slice none 0 0, .int .i64 0] 91)) = W at *
  have a0 : W.cell? ⟨w.heap.size, 0, none⟩ = some (.bool s) := pw.b0.cell 0 rfl
  have a1 : W.cell? ⟨w.heap.size, 1, none⟩ = some va := pw.b0.cell 1 rfl
  have a2 : W.cell? ⟨w.heap.size, 2, none⟩ = some (.int .i64 sa) := pw.b0.cell 2 rfl
  have b0 : W.cell? ⟨w.heap.size + 1, 0, none⟩ = some (.bool t) := pw.b1.cell 0 rfl
  have b1 : W.cell? ⟨w.heap.size + 1, 1, none⟩ = some vb := pw.b1.cell 1 rfl
  have b2 : W.cell? ⟨w.heap.size + 1, 2, none⟩ = some (.int .i64 sb) := pw.b1.cell 2 rfl
  have hvaW := hva.below pw.below
  have hvbW := hvb.below pw.below
  have hW3 := pw.b2.lt
  replace pw := Lib.hid pw
  replace hvaW := Lib.hid hvaW
  replace hvbW := Lib.hid hvbW
  replace hA := Lib.hid hA
  replace hB := Lib.hid hB
  replace hy0 := Lib.hid hy0
  clear hva hvb
  go_upto_if 16 with (fail)
  go_cut [5] (fun v wx => v = .int .i64 S ∧ wx = W)
  case first =>
    as_aux_lemma =>
      by_cases h1 : sa < sb
      · have h1i : (sa : Int) < (sb : Int) := by omega
        obtain rfl : sb = S := by rw [← hS.out]; omega
        go_wp2
        go_meet
        exact ⟨rfl, rfl⟩
      · have h1i : ¬ (sa : Int) < (sb : Int) := by omega
        obtain rfl : sa = S := by rw [← hS.out]; omega
        go_wp2
        go_meet
        exact ⟨rfl, rfl⟩
  obtain ⟨rfl, hwx⟩ := hcut
  rw [hwx]; clear hwx
  clear b0 b1 b2
  go_upto_region 4 with (fail)
  have hsl : S ≤ 100000 := by omega
  have hal : A.length ≤ 100000 := by omega
  obtain ⟨X, hX⟩ : ∃ X, List.replicate (S - sa) 0 ++ A = X := ⟨_, rfl⟩
  have hXl : X.length = S - sa + A.length := by rw [← hX, List.length_append, List.length_replicate]
  have hX1 : 1 ≤ X.length := by omega
  have hX2 : 20 + X.length ≤ maxLen := by simp only [maxLen]; omega
  have hX3 : (20 + X.length) * 8 ≤ 140737488355328 := by omega
  have hXn : (intsV X).length = X.length * 1 := by rw [intsV_length, Nat.mul_one]
  replace hX := Lib.hid hX
  replace hXl := Lib.hid hXl
  replace hX2 := Lib.hid hX2
  replace hX3 := Lib.hid hX3
  replace hXn := Lib.hid hXn
  go_cut [6] (fun v wx => RW w wx s t va vb sa sb ∧ IntsAt wx vb B ∧ IntsAt wx v (List.replicate 20 0 ++ X))
  case first =>
    as_aux_lemma =>
      have hmk : ∀ w : World, (Instr.makeSlice 89 (.int .i64 20) (.int .i64 20)).run Tryz.prog w = .ok (.slice (some ⟨w.heap.size, 0, none⟩) 20 20) (w.alloc (.cells (madeCells #[.int .i64 0] 20) 3)) := fun w => run_make_row' 89 3 (.int .i64 0) 8 Tryz.underlying89 infoInt rfl .i64 .i64 20 (by decide) (by decide) w
      have ka0 : ∀ o : Obj, (W.alloc o).cell? ⟨w.heap.size, 0, none⟩ = some (.bool s) := fun o => (((Below.refl W.heap.size W).alloc (Nat.le_refl _) o).cell (p := ⟨w.heap.size, 0, none⟩) (by show w.heap.size < W.heap.size; omega)).trans a0
      have ka1 : ∀ o : Obj, (W.alloc o).cell? ⟨w.heap.size, 1, none⟩ = some va := fun o => (((Below.refl W.heap.size W).alloc (Nat.le_refl _) o).cell (p := ⟨w.heap.size, 1, none⟩) (by show w.heap.size < W.heap.size; omega)).trans a1
      have ka2 : ∀ o : Obj, (W.alloc o).cell? ⟨w.heap.size, 2, none⟩ = some (.int .i64 sa) := fun o => (((Below.refl W.heap.size W).alloc (Nat.le_refl _) o).cell (p := ⟨w.heap.size, 2, none⟩) (by show w.heap.size < W.heap.size; omega)).trans a2
      go_region_law (first
        | (go_simp; go_at_call 104; refine (rscaled_any s va A sa S _ ?_ na hal hSa hsl).mono ?_; (first | exact hvaW.out.drewN 1 | exact IntsAt.drewN (hvaW.out.below ((Below.refl _ _).alloc (Nat.le_refl _) _)) 1); rintro e w' ⟨vx, rfl, hI⟩; rw [hX.out] at hI; replace hI := Lib.hid hI; go_simp)
        | (have hq := QA.one hI; obtain ⟨bx, ox, cx, rfl, hltx, hcx⟩ := hq.ints.nonempty hX1; refine step_append_lies _ rfl (.tmp 19) (.tmp 22) 89 rfl W.heap.size 3 i0 (.int .i64 0) 1 8 Tryz.underlying89 hi.out hz0.out hz1.out hz2.out rfl (by decide) _ 20 (intsV (List.replicate 20 0)) rfl hq.own ⟨bx, ox, none⟩ X.length cx (intsV X) rfl hXn.out (IntsAt.news (cap := cx) hcx) (intsV_one X) hX1 hX2.out hX3.out hq.below.size _ rfl ?_; intro g cap w3 ho hg _ _; have hfin := Lib.hid (hq.fin pw.out hvbW.out ho hg); clear ho hg hq)
        | (have hq := QA.two hI; obtain ⟨bx, ox, cx, rfl, hltx, hcx⟩ := hq.ints.nonempty hX1; refine step_append_lies _ rfl (.tmp 19) (.tmp 22) 89 rfl W.heap.size 3 i0 (.int .i64 0) 1 8 Tryz.underlying89 hi.out hz0.out hz1.out hz2.out rfl (by decide) _ 20 (intsV (List.replicate 20 0)) rfl hq.own ⟨bx, ox, none⟩ X.length cx (intsV X) rfl hXn.out (IntsAt.news (cap := cx) hcx) (intsV_one X) hX1 hX2.out hX3.out hq.below.size _ rfl ?_; intro g cap w3 ho hg _ _; have hfin := Lib.hid (hq.fin pw.out hvbW.out ho hg); clear ho hg hq))
      all_goals
        go_wp2_with fail
        go_meet
        exact hfin.out
  obtain ⟨pw2, hvb2, hx2⟩ := hcut
  clear a0 a1 a2 pw hvaW hvbW hX2 hX3 hXn
  have b0 : wc.cell? ⟨w.heap.size + 1, 0, none⟩ = some (.bool t) := pw2.b1.cell 0 rfl
  have b1 : wc.cell? ⟨w.heap.size + 1, 1, none⟩ = some vb := pw2.b1.cell 1 rfl
  have b2 : wc.cell? ⟨w.heap.size + 1, 2, none⟩ = some (.int .i64 sb) := pw2.b1.cell 2 rfl
  replace pw2 := Lib.hid pw2
  replace hvb2 := Lib.hid hvb2
  replace hx2 := Lib.hid hx2
  go_wp2_with fail
  refine (rscaled_any t vb B sb S wc hvb2.out nb (by omega) hSb hsl).mono ?_
  rintro e w1 ⟨vy, rfl, hI2⟩
  have pw1 := pw2.out.on hI2.below
  have hx1 := hx2.out.below hI2.below
  have hy1 := hI2.ints
  clear b0 b1 b2 pw2 hvb2 hx2 hI2
  obtain ⟨Y, hY⟩ : ∃ Y, List.replicate (S - sb) 0 ++ B = Y := ⟨_, rfl⟩
  obtain ⟨Z, hZ⟩ : ∃ Z, List.replicate 20 0 ++ X = Z := ⟨_, rfl⟩
  have vX := vL_pad (S - sa) A
  have vY := vL_pad (S - sb) B
  have vZ := vL_pad 20 X
  have dX := dgs_pad (S - sa) hA.out
  rw [hX.out] at vX dX
  have dY := dgs_pad (S - sb) hB.out
  have dZ := dgs_pad 20 dX
  have lZ : (List.replicate 20 0 ++ X).length = 20 + X.length := by rw [List.length_append, List.length_replicate]
  have lY : (List.replicate (S - sb) 0 ++ B).length = S - sb + B.length := by rw [List.length_append, List.length_replicate]
  have hpo := hp.out
  rw [← vX, ← vZ, ← vY] at hpo
  rw [hY] at hy1 dY lY hpo vY
  rw [hZ] at hx1 dZ lZ hpo
  have hY0 : 0 < vL Y := by rw [vY]; exact Nat.mul_pos (Nat.pow_pos (by decide)) hy0.out
  have hXl2 := hXl.out
  have lZ2 : Z.length ≤ 20 + (S - sa + A.length) := by omega
  have lZ1 : 1 ≤ Z.length := by omega
  have lZ3 : Z.length ≤ 100000 := by omega
  have lY3 : Y.length ≤ 100000 := by omega
  have lZi : (Z.length : Int) ≤ 100000 := by omega
  clear hY hZ vX vY vZ dX hX hXl hXl2 lZ lY hp hA hB hy0 hX1
  obtain ⟨bx, ox, cx, rfl, hltx, hcx⟩ := hx1.nonempty lZ1
  obtain ⟨yo, yc, rfl⟩ := hy1.form
  replace hcx := Lib.hid hcx
  replace hx1 := Lib.hid hx1
  replace hy1 := Lib.hid hy1
  replace pw1 := Lib.hid pw1
  replace dY := Lib.hid dY
  replace dZ := Lib.hid dZ
  replace hpo := Lib.hid hpo
  replace hY0 := Lib.hid hY0
  obtain ⟨n, hn⟩ : ∃ n, Z.length = n := ⟨_, rfl⟩
  rw [hn] at lZ1 lZ2 lZ3 lZi ⊢
  go_wp2_with (first | (at_make; refine wpList_make_full _ rfl _ _ 89 rfl w1.heap.size 3 i0 (.int .i64 0) 1 Tryz.underlying89 hi.out hz0.out hz1.out .i64 .i64 (n : Int) (n : Int) n rfl rfl ?m1 ?m2 ?m3 ?m4 ?m5 ?m6) | fail)
  case m1 => rfl
  case m2 => rfl
  case m3 => rw [hz2.out]; omega
  case m4 => simp only [maxLen]; omega
  case m5 => exact Nat.le_refl _
  case m6 =>
  intro w2 h1 h2
  have hq0 : QW w1 w2 n (List.replicate n 0) (.slice none 0 0) [] := ⟨(Below.refl _ _).grown h2 (Nat.le_refl _) (fun k hk => by cases hk), by rw [← made_ints]; exact h1, World.ownsRow_nil _ _ _ _⟩
  clear h1 h2
  replace hq0 := Lib.hid hq0
  go_wp2_with fail
  go_loopw [8, 10] (fun v8 v10 wr => ∃ (k : Nat) (Q Lf : List Nat), k ≤ n ∧ v10 = .int .i64 ((k : Int) - 1) ∧ Hid (QI (vL Z) (vL Y) n k Q Lf) ∧ Hid (QW w1 wr n Q v8 Lf)) (fun _ v10 _ => (intOf v10 + 1).toNat)
  case atStart => exact ⟨n, List.replicate n 0, [], Nat.le_refl _, rfl, hn ▸ QI.start Z dZ.out hY0.out, hq0.out⟩
  case round =>
    clear hq0
    obtain ⟨k1, Q, Lf, hk1, rfl, hI, hW⟩ := hrel
    obtain ⟨wo, rfl⟩ : ∃ wo : World, wo = wr := ⟨_, rfl⟩
    by_cases h0 : k1 = 0
    · subst h0
      have pw3 := pw1.out.on hW.out.below
      have e0 : wo.cell? ⟨w.heap.size + 1 + 1, 0, none⟩ = some (.bool false) := pw3.b2.cell 0 rfl; have e1 : wo.cell? ⟨w.heap.size + 1 + 1, 1, none⟩ = some (.slice none 0 0) := pw3.b2.cell 1 rfl; have e2 : wo.cell? ⟨w.heap.size + 1 + 1, 2, none⟩ = some (.int .i64 0) := pw3.b2.cell 2 rfl; have g0 : wo.frozen? ⟨w.heap.size + 1 + 1, 0, none⟩ = false := pw3.b2.free 0; have g1 : wo.frozen? ⟨w.heap.size + 1 + 1, 1, none⟩ = false := pw3.b2.free 1; have g2 : wo.frozen? ⟨w.heap.size + 1 + 1, 2, none⟩ = false := pw3.b2.free 2
      have a0 : wo.cell? ⟨w.heap.size, 0, none⟩ = some (.bool s) := pw3.b0.cell 0 rfl
      have b0 : wo.cell? ⟨w.heap.size + 1, 0, none⟩ = some (.bool t) := pw3.b1.cell 0 rfl
      have hv : vL Q = p := by rw [hI.out.q, ← hpo.out]; simp
      have hown := hW.out.q
      have hQl := hI.out.len
      have hd := Lib.hid hI.out.dq
      have hlt1 := pw1.out.b2.lt
      have r0 := Lib.hid (((pw3.b2.set 0 (.bool (s != t))).set 1 (.slice (some ⟨w1.heap.size, 0, none⟩) n n)).set 2 (.int .i64 20))
      have rb := Lib.hid (((pw3.below.setCell (p := ⟨w.heap.size + 1 + 1, 0, none⟩) (by show w.heap.size ≤ w.heap.size + 1 + 1; omega) (.bool (s != t))).setCell (p := ⟨w.heap.size + 1 + 1, 1, none⟩) (by show w.heap.size ≤ w.heap.size + 1 + 1; omega) (.slice (some ⟨w1.heap.size, 0, none⟩) n n)).setCell (p := ⟨w.heap.size + 1 + 1, 2, none⟩) (by show w.heap.size ≤ w.heap.size + 1 + 1; omega) (.int .i64 20))
      have ri : IntsAt (((wo.setCell ⟨w.heap.size + 1 + 1, 0, none⟩ (.bool (s != t))).setCell ⟨w.heap.size + 1 + 1, 1, none⟩ (.slice (some ⟨w1.heap.size, 0, none⟩) n n)).setCell ⟨w.heap.size + 1 + 1, 2, none⟩ (.int .i64 20)) (.slice (some ⟨w1.heap.size, 0, none⟩) n n) Q := by
        rw [← hQl] at hown ⊢
        exact own_ints (own_set (own_set (own_set hown hlt1 0 _) hlt1 1 _) hlt1 2 _)
      replace ri := Lib.hid ri
      replace hv := Lib.hid hv
      replace hQl := Lib.hid hQl
      clear pw3 hown hW hI
      go_wp2_with fail
      exact bodyPost_ret (v := .agg (numc (s != t) (.slice (some ⟨w1.heap.size, 0, none⟩) n n) 20)) (results_cell_row rfl _ _ (w.heap.size + 1 + 1) 91 _ (0, 0) _ rfl r0.out.eq Tryz.underlying91 rfl infoNum) rfl
        ⟨_, Q, rfl, rb.out, ri.out, hd.out, hv.out, by rw [hQl.out]; exact lZ1, by rw [hQl.out]; exact lZ2⟩
    · obtain ⟨k, rfl⟩ : ∃ k, k1 = k + 1 := ⟨k1 - 1, by omega⟩
      rw [show (((k + 1 : Nat) : Int) - 1) = (k : Int) by omega]
      have hkn : (k : Int) < (n : Int) := by omega
      have hxk : wo.cell? ⟨bx, ox + k, none⟩ = some (.int .i64 (Z.getD k 0 : Nat)) := (hW.out.below.cell (p := ⟨bx, ox + k, none⟩) hltx).trans (hcx.out k (by omega))
      have hJ := QI.begin dZ.out hY0.out (show k < n by omega) hI.out
      have hLl : Lf.length ≤ n := by have := hI.out.ll; omega
      have hL1 : 1 + Lf.length ≤ maxLen := by simp only [maxLen]; omega
      have hL2 : (1 + Lf.length) * 8 ≤ 140737488355328 := by omega
      have hQ1 := hW.out.lit (Z.getD k 0)
      generalize Z.getD k 0 = x at *
      have hwlt := hW.out.lt
      go_upto_region 11 with (fail)
      go_cut [8] (fun v wx => QW w1 wx n Q v (x :: Lf))
      case first =>
        as_aux_lemma =>
          rcases hW.out.left.2 with ⟨rfl, hl0⟩ | ⟨gl, cl, cur, rfl, hgl, hhl, _⟩
          · obtain rfl : Lf = [] := List.eq_nil_of_length_eq_zero hl0
            replace hJ := Lib.hid hJ
            replace hQ1 := Lib.hid hQ1
            go_wp2
            go_meet
            exact hQ1.out
          · have hcl : ∀ j u, (intsV Lf)[j]? = some u → (wo.alloc (.cells #[.int .i64 (x : Int)] 3)).cell? ((⟨gl, 0, none⟩ : Addr).add j) = some u := (hW.out.left.alloc _).cells rfl
            have hLm : (intsV Lf).length = Lf.length * 1 := by rw [intsV_length, Nat.mul_one]
            have hown := hQ1.left
            replace hJ := Lib.hid hJ
            replace hQ1 := Lib.hid hQ1
            go_wp2_with (first | (at_builtin; refine wpList_append_own _ rfl _ _ 89 rfl (w1.heap.size + 1) 3 i0 (.int .i64 0) 1 8 Tryz.underlying89 hi.out hz0.out hz1.out hz2.out rfl (by decide) _ 1 (intsV [x]) rfl hown ⟨gl, 0, none⟩ Lf.length cl (intsV Lf) rfl hLm hcl (intsV_one Lf) ?n4 ?n5 ?n6 ?n7) | fail)
            case n4 => exact hL1
            case n5 => exact hL2
            case n6 => rw [World.size_alloc]; omega
            case n7 =>
              intro v' w3 h1 h2 _
              have hQ3 := Lib.hid (hQ1.out.grown (m := Lf) h1 h2)
              clear h1 h2
              go_wp2
              go_meet
              exact hQ3.out
      clear hQ1 hW hI hxk hL1 hL2
      replace hcut := Lib.hid hcut
      replace hJ := Lib.hid hJ
      go_wp2_with fail
      go_loopg [8] 10 (fun g v8 wr => ∃ (j : Nat) (Q Lf : List Nat), j + g = 10 ∧ Hid (QJ (vL Z) (vL Y) n k j Q Lf) ∧ Hid (QW w1 wr n Q v8 Lf))
      case atStart => exact ⟨0, Q, x :: Lf, rfl, hJ, hcut⟩
      case round =>
        clear hJ hcut
        obtain ⟨j, Q, Lf, hjg, hJ, hW⟩ := hrel
        have hyr := hy1.out.below (hW.out.below)
        have hLr := hW.out.ints
        have hdl := hJ.out.dl
        have hll : Lf.length ≤ 100000 := by have := hJ.out.ll; omega
        obtain ⟨lo, lc, rfl⟩ := hLr.form
        have hcm := rcompare_any (.slice lo Lf.length lc) (.slice yo Y.length yc) Lf Y wr hLr hyr hdl dY.out hll lY3
        by_cases hlt : vL Lf < vL Y
        · have hsg : sgn (vL Lf) (vL Y) = -1 := if_pos hlt
          rw [hsg] at hcm
          have hfin := Lib.hid (hJ.out.done hY0.out hlt)
          replace hcm := Lib.hid hcm
          clear hsg hlt hyr hLr hJ hdl
          go_wp2_with (go_at_call 106; refine hcm.out.mono ?_; rintro e w4 ⟨rfl, rfl⟩)
          refine ⟨⟨k, Q, Lf, by omega, rfl, hfin, hW⟩, ?_⟩
          simp only [intOf]
          omega
        · have hge : vL Y ≤ vL Lf := Nat.le_of_not_lt hlt
          have hsg : 0 ≤ sgn (vL Lf) (vL Y) := by unfold sgn; rw [if_neg hlt]; split <;> omega
          have h9 := hJ.out.lt9 hY0.out hge
          have hsub := rsub_any (.slice lo Lf.length lc) (.slice yo Y.length yc) Lf Y wr hLr hyr hdl dY.out hge hll lY3
          generalize sgn (vL Lf) (vL Y) = sg at *
          replace hge := Lib.hid hge
          replace hcm := Lib.hid hcm
          replace hsub := Lib.hid hsub
          clear hlt hyr hLr hdl
          go_wp2_with (go_at_call 106; refine hcm.out.mono ?_; rintro e w4 ⟨rfl, rfl⟩)
          refine hsub.out.mono ?_
          rintro e w5 ⟨v, D, rfl, hI5, hdD, hvD, hlD⟩
          have hW5 := hW.out.sub hI5
          have hJ5 := hJ.out.step hY0.out (show k < n by omega) hge.out hdD hvD hlD
          obtain ⟨qc, qf⟩ := hW5.cell k (by omega) hJ.out.len
          rw [hJ.out.jk] at qc
          obtain ⟨g, rfl⟩ : ∃ g, gk = g + 1 := ⟨gk - 1, by omega⟩
          have hji : (j : Int) ≤ 9 := by omega
          replace hW5 := Lib.hid hW5
          replace hJ5 := Lib.hid hJ5
          clear hI5 hdD hvD hlD hsub hcm hW hJ hge
          go_wp2
          go_roundg g
          case measure => omega
          case rel =>
            have hT2 := hW5.out.set k (j + 1)
            rw [show ((j + 1 : Nat) : Int) = (j : Int) + 1 by omega] at hT2
            exact ⟨j + 1, Q.set k (j + 1), D, by omega, hJ5, hT2⟩
end Go.Proofs.YtjncjcellpbhcaaGreatDoor.dec
