/- Contract of the reference's scaled. -/
import Derived.Test.YthecgifgjagmaaaGreatDoorRefAdd
namespace Go.Proofs.YthecgifgjagmaaaGreatDoor.dec
open Go.ChangeShapes Go.WideShapes Go.ChangeAt Go.RowKit kit
set_option linter.unusedVariables false
set_option linter.unusedSimpArgs false
theorem made_ints (n : Nat) : (madeCells #[Value.int .i64 0] n).toList = intsV (List.replicate n 0) := by
  apply List.ext_getElem
  · simp [madeCells, intsV, Value.cells]
  · intro i h1 h2
    simp [madeCells, intsV, Value.cells, Nat.mod_one]
theorem IW.made {W W1 w' : World} {B n : Nat} {v : Value} (hb : Below B W W1) (hB : B ≤ W1.heap.size) (h1 : w'.ownsRow B 3 1 v n (madeCells #[Value.int .i64 0] n).toList) (h2 : W1.grownBy w' none) : IW W B v (List.replicate n 0) w' := by
  refine ⟨hb.grown h2 hB (fun k hk => by cases hk), ?_⟩
  rw [List.length_replicate, ← made_ints]
  exact h1
theorem IW.more {W W1 w' : World} {B : Nat} {v v' : Value} {l m : List Nat} (h : IW W B v l W1) (hB : B ≤ W1.heap.size)
    (h1 : w'.ownsRow B 3 1 v' (l.length + m.length) (intsV l ++ intsV m)) (h2 : W1.grownBy w' v.ownBlock) : IW W B v' (l ++ m) w' := by
  refine ⟨h.below.grown h2 hB (fun k hk => (h.own.lt k hk).1), ?_⟩
  rw [List.length_append]
  simpa [intsV] using h1
theorem intsV_one (D : List Nat) : ∀ u ∈ intsV D, u.oneCell' = true := by
  intro u hu
  rw [intsV, List.mem_map] at hu
  obtain ⟨d, _, rfl⟩ := hu
  rfl
theorem vL_pad (k : Nat) (D : List Nat) : vL (List.replicate k 0 ++ D) = 10 ^ k * vL D := by
  rw [vL_append, List.length_replicate, vL_zero.2 (fun d hd => List.eq_of_mem_replicate hd)]; omega
theorem dgs_pad (k : Nat) {D : List Nat} (h : dgs D) : dgs (List.replicate k 0 ++ D) := by
  intro d hd
  rw [List.mem_append] at hd
  rcases hd with hd | hd
  · rw [List.eq_of_mem_replicate hd]; decide
  · exact h d hd
set_option maxRecDepth 100000 in
set_option maxHeartbeats 4000000 in
theorem rscaled_any (neg : Bool) (va : Value) (D : List Nat) (sc s : Nat) (w : World) (hva : IntsAt w va D) (hn : 1 ≤ D.length) (la : D.length ≤ 100000) (hs : sc ≤ s) (hs1 : s ≤ 100000) :
    Calls Tryz.prog 128 #[.agg #[.bool neg, va, .int .i64 sc], .int .i64 s] w fun e w' => ∃ v, e = .returned v ∧ IW w w.heap.size v (List.replicate (s - sc) 0 ++ D) w' := by
  rcases hva with ⟨rfl, rfl⟩ | ⟨b, off, cap, rfl, hlt, hc⟩
  · simp at hn
  obtain ⟨i0, hi, hx⟩ := Option.map_eq_some_iff.1 infoInt
  simp only [Prod.mk.injEq] at hx
  obtain ⟨hz0, hz1, hz2⟩ := hx
  replace hi := Lib.hid hi
  replace hz0 := Lib.hid hz0
  replace hz1 := Lib.hid hz1
  replace hz2 := Lib.hid hz2
  have lai : (D.length : Int) ≤ 100000 := by omega
  have hsi : (sc : Int) ≤ (s : Int) := by omega
  have hs1i : (s : Int) ≤ 100000 := by omega
  go_enter Tryz.func128, Tryz.ntmps128
  go_upto_region 1 with (fail)
  obtain ⟨W, hW⟩ : ∃ W, W = w.alloc (.cells #[.bool neg, .slice (some ⟨b, off, none⟩) D.length cap, .int .i64 sc] 98) := ⟨_, rfl⟩
  have hbw : Below w.heap.size w W := by rw [hW]; exact (Below.refl _ _).alloc (Nat.le_refl _) _
  have c0 : W.cell? ⟨w.heap.size, 0, none⟩ = some (.bool neg) := by rw [hW, World.cell?_alloc_new]; rfl
  have c1 : W.cell? ⟨w.heap.size, 1, none⟩ = some (.slice (some ⟨b, off, none⟩) D.length cap) := by rw [hW, World.cell?_alloc_new]; rfl
  have c2 : W.cell? ⟨w.heap.size, 2, none⟩ = some (.int .i64 sc) := by rw [hW, World.cell?_alloc_new]; rfl
  have hWs : w.heap.size + 1 = W.heap.size := by rw [hW, World.size_alloc]
  rw [← hW]
  clear hW
  have hbl := Lib.hid hbw
  clear hbw
  go_wp2_with (first | (at_make; refine wpList_make_full _ rfl _ _ 96 rfl w.heap.size 3 i0 (.int .i64 0) 1 Tryz.underlying96 hi.out hz0.out hz1.out .i64 .i64 ((s : Int) - (sc : Int)) ((s : Int) - (sc : Int)) (s - sc) rfl rfl ?m1 ?m2 ?m3 ?m4 ?m5 ?m6) | fail)
  case m1 => omega
  case m2 => omega
  case m3 => rw [hz2.out]; omega
  case m4 => simp only [maxLen]; omega
  case m5 => omega
  case m6 =>
    intro w1 h1 h2
    have hI := IW.made hbl.out (by omega) h1 h2
    have hcells : ∀ j, j < D.length → w1.cell? ⟨b, off + j, none⟩ = some (.int .i64 (D.getD j 0 : Nat)) := fun j hj => (hI.below.cell (p := ⟨b, off + j, none⟩) hlt).trans (hc j hj)
    have hnews := IntsAt.news (cap := cap) hcells
    have hs1 := h2.size
    have d1 := h2.cell c1 (by simp)
    have hown := hI.own
    rw [List.length_replicate] at hown
    clear hc hcells c0 c1 c2 h1
    go_wp2_with (first | (at_builtin; refine wpList_append_own _ rfl _ _ 96 rfl w.heap.size 3 i0 (.int .i64 0) 1 8 Tryz.underlying96 hi.out hz0.out hz1.out hz2.out rfl (by decide) _ (s - sc) (intsV (List.replicate (s - sc) 0)) rfl hown _ D.length _ (intsV D) rfl ?n1 ?n2 ?n3 ?n4 ?n5 ?n6 ?n7) | fail)
    case n1 => rw [intsV_length, Nat.mul_one]
    case n2 => exact hnews
    case n3 => exact intsV_one D
    case n4 => simp only [maxLen]; omega
    case n5 => omega
    case n6 => omega
    case n7 =>
      intro v' w2 h3 h4 _
      have hI2 := hI.more (m := D) (by omega) (by rw [List.length_replicate]; exact h3) h4
      clear h3 h4 hI hnews hown d1
      replace hI2 := Lib.hid hI2
      go_wp2
      go_ret
      exact ⟨_, rfl, hI2.out⟩
end Go.Proofs.YthecgifgjagmaaaGreatDoor.dec
