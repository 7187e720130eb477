/- HyperCheck: the walk. -/
import Derived.Test.YtnocncmjdhlmkaaHLaws
import Derived.Test.YtnocncmjdhlmkaaHWake
import Derived.Test.YtnocncmjdhlmkaaHRef6
import Derived.Test.YtnocncmjdhlmkaaHRefQ
namespace Go.Proofs.Ytnocncmjdhlmkaa.hyp
open Go.ChangeShapes Go.WideShapes Go.ChangeAt Go.RowKit kit
set_option linter.unusedVariables false
set_option linter.unusedSimpArgs false
theorem light_few {E : List (List ByteArray)} {bs : List BagD} (h : lightB E bs = true) : sizeE E ≤ 400 ∧ bs.length ≤ 400 ∧ ∀ b ∈ bs, b.names.length ≤ 400 ∧ b.edges.length ≤ 400 := by
  have h1 : sizeE E + sizeB bs ≤ 400 := of_decide_eq_true h
  have hone : ∀ L : List BagD, L.length ≤ sizeB L ∧ ∀ b ∈ L, b.names.length ≤ sizeB L ∧ b.edges.length ≤ sizeB L := by
    intro L
    induction L with
    | nil => simp [sizeB]
    | cons a L ih =>
      have hs : sizeB (a :: L) = (1 + a.names.length + a.edges.length) + sizeB L := by simp [sizeB]
      rw [hs, List.length_cons]
      refine ⟨by omega, fun b hb => ?_⟩
      rcases List.mem_cons.1 hb with rfl | hb
      · omega
      · have := ih.2 b hb; omega
  have h2 := hone bs
  exact ⟨by omega, by omega, fun b hb => by have := h2.2 b hb; omega⟩
set_option maxRecDepth 100000 in
set_option maxHeartbeats 8000000 in
theorem hcheck_any (w : World) (v : Value) (ao : Option Addr) (cap : Nat) (E : List (List ByteArray)) (width seed : Int) (lv : Value) (bs : List BagD) (hG : GraphA w v ao cap E width seed lv bs) :
    Calls Try.prog 4 #[v] w fun e w' => e = .returned (.bool true) ∧ Below w.heap.size w w' := by
  obtain ⟨al, cl, rfl, -⟩ := bags_at hG.bags
  obtain ⟨hv, -, hl, hle, -, hbl, hbs, hww, hsw⟩ := id hG
  subst hv
  have hbw : Hid (Below w.heap.size w (w.alloc (.cells #[.slice ao E.length cap, .int .i64 width, .int .i64 seed, .slice al bs.length cl] 25))) := Lib.hid ((Below.refl _ _).alloc (Nat.le_refl _) _)
  have hq := Lib.hid (Blk.new w #[.slice ao E.length cap, .int .i64 width, .int .i64 seed, .slice al bs.length cl] 25)
  have hG1 := Lib.hid (hG.below hbw.out)
  obtain ⟨L, hL⟩ : ∃ L, lightB E bs = L := ⟨_, rfl⟩
  have hli := Lib.hid (light_any _ _ _ _ _ _ _ _ _ hG1.out)
  rw [hL] at hli
  replace hL := Lib.hid hL
  have y0 := hq.out.cell 0 rfl
  have y1 := hq.out.cell 1 rfl
  have y2 := hq.out.cell 2 rfl
  have y3 := hq.out.cell 3 rfl
  clear hG
  go_enter Try.func4, Try.ntmps4
  go_wp2_with fail
  generalize w.alloc (.cells #[.slice ao E.length cap, .int .i64 width, .int .i64 seed, .slice al bs.length cl] 25) = w1 at *
  refine hli.out.mono ?_
  rintro e w2 ⟨rfl, hb2⟩
  clear hli
  replace y0 := (stay_of_below hb2).cell y0
  replace y1 := (stay_of_below hb2).cell y1
  replace y2 := (stay_of_below hb2).cell y2
  replace y3 := (stay_of_below hb2).cell y3
  have hbw2 := Lib.hid (hbw.out.trans (hb2.mono hbw.out.size))
  have hG2 := Lib.hid (hG1.out.below hb2)
  clear hb2 hG1 hq hbw
  cases L with
  | false =>
    clear y0 y1 y2 y3 hG2
    go_wp2_with fail
    refine (wakes_any _).mono ?_
    rintro e wz ⟨rfl, hbz⟩
    have hbzz := Lib.hid (hbw2.out.trans (hbz.mono hbw2.out.size))
    clear hbz
    go_wp2
    go_ret
    exact ⟨rfl, hbzz.out⟩
  | true =>
    obtain ⟨hs1, hs2, hs3⟩ := light_few hL.out
    have hck := fun V (h : Below w2.heap.size w2 V) => check_any V ao cap E bs _ width hl hle (hG2.out.below h).edges (hG2.out.below h).bags (by omega) (fun b hb => by have := hs3 b hb; omega)
    have hrc := fun V (h : Below w2.heap.size w2 V) => rcheck_any V ao cap E bs _ width (hG2.out.below h).edges (by omega) hl (hG2.out.below h).bags (by omega) (fun b hb => by have := hs3 b hb; omega)
    rw [chk_ref] at hck
    generalize refChk E bs width = q at *
    replace hck := Lib.hid hck
    replace hrc := Lib.hid hrc
    clear hG2
    have hbd : Hid (Below w2.heap.size w2 w2.drew) := Lib.hid ⟨rfl, rfl, rfl, Nat.le_refl _, fun _ _ => rfl⟩
    go_wp2_with fail
    refine wp_region_held_drew (S := fun V => Below w2.heap.size w2 V) (by kernel_rfl) hbd.out (fun hS => ?_)
    generalize w2.drew = V0 at *
    refine wpAnyH_take (i := 0) (v := ?_) rfl (by kernel_rfl) (by kernel_rfl) (by kernel_rfl) (fun _ _ _ h => h) (.inl ⟨by kernel_rfl, fun w' hS => ?_⟩) hS ?_
    rotate_left
    ·
      have q0 := (stay_of_below hS).cell y0; have q1 := (stay_of_below hS).cell y1; have q3 := (stay_of_below hS).cell y3
      go_simp
      try with_reducible rfl
    simp only [List.getElem_toArray, List.getElem_cons_succ, List.getElem_cons_zero, Act.put, List.setIfInBounds_toArray, List.set_cons_zero, List.set_cons_succ]
    refine wpAnyH_take (i := 1) (v := ?_) rfl (by kernel_rfl) (by kernel_rfl) (by kernel_rfl) (fun _ _ _ h => h) (.inl ⟨by kernel_rfl, fun w' hS => ?_⟩) hS ?_
    rotate_left
    ·
      have q0 := (stay_of_below hS).cell y0; have q1 := (stay_of_below hS).cell y1; have q3 := (stay_of_below hS).cell y3
      go_simp
      try with_reducible rfl
    simp only [List.getElem_toArray, List.getElem_cons_succ, List.getElem_cons_zero, Act.put, List.setIfInBounds_toArray, List.set_cons_zero, List.set_cons_succ]
    refine wpAnyH_take (i := 2) (v := ?_) rfl (by kernel_rfl) (by kernel_rfl) (by kernel_rfl) (fun _ _ _ h => h) (.inl ⟨by kernel_rfl, fun w' hS => ?_⟩) hS ?_
    rotate_left
    ·
      have q0 := (stay_of_below hS).cell y0; have q1 := (stay_of_below hS).cell y1; have q3 := (stay_of_below hS).cell y3
      go_simp
      try with_reducible rfl
    simp only [List.getElem_toArray, List.getElem_cons_succ, List.getElem_cons_zero, Act.put, List.setIfInBounds_toArray, List.set_cons_zero, List.set_cons_succ]
    refine wpAnyH_take (i := 3) (v := ?_) rfl (by kernel_rfl) (by kernel_rfl) (by kernel_rfl) (fun _ _ _ h => h) (.inl ⟨by kernel_rfl, fun w' hS => ?_⟩) hS ?_
    rotate_left
    ·
      have q0 := (stay_of_below hS).cell y0; have q1 := (stay_of_below hS).cell y1; have q3 := (stay_of_below hS).cell y3
      go_simp
      try with_reducible rfl
    simp only [List.getElem_toArray, List.getElem_cons_succ, List.getElem_cons_zero, Act.put, List.setIfInBounds_toArray, List.set_cons_zero, List.set_cons_succ]
    refine wpAnyH_take (i := 4) (v := ?_) rfl (by kernel_rfl) (by kernel_rfl) (by kernel_rfl) (fun _ _ _ h => h) (.inl ⟨by kernel_rfl, fun w' hS => ?_⟩) hS ?_
    rotate_left
    ·
      have q0 := (stay_of_below hS).cell y0; have q1 := (stay_of_below hS).cell y1; have q3 := (stay_of_below hS).cell y3
      go_simp
      try with_reducible rfl
    simp only [List.getElem_toArray, List.getElem_cons_succ, List.getElem_cons_zero, Act.put, List.setIfInBounds_toArray, List.set_cons_zero, List.set_cons_succ]
    refine wpAnyH_take (i := 5) (v := ?_) rfl (by kernel_rfl) (by kernel_rfl) (by kernel_rfl) (fun _ _ _ h => h) (.inl ⟨by kernel_rfl, fun w' hS => ?_⟩) hS ?_
    rotate_left
    ·
      have q0 := (stay_of_below hS).cell y0; have q1 := (stay_of_below hS).cell y1; have q3 := (stay_of_below hS).cell y3
      go_simp
      try with_reducible rfl
    simp only [List.getElem_toArray, List.getElem_cons_succ, List.getElem_cons_zero, Act.put, List.setIfInBounds_toArray, List.set_cons_zero, List.set_cons_succ]
    refine wpAnyH_take (i := 7) (v := ?_) rfl (by kernel_rfl) (by kernel_rfl) (by kernel_rfl) (fun _ _ _ h => h) (.inl ⟨by kernel_rfl, fun w' hS => ?_⟩) hS ?_
    rotate_left
    ·
      have q0 := (stay_of_below hS).cell y0; have q1 := (stay_of_below hS).cell y1; have q3 := (stay_of_below hS).cell y3
      go_simp
      try with_reducible rfl
    simp only [List.getElem_toArray, List.getElem_cons_succ, List.getElem_cons_zero, Act.put, List.setIfInBounds_toArray, List.set_cons_zero, List.set_cons_succ]
    refine wpAnyH_take (i := 8) (v := ?_) rfl (by kernel_rfl) (by kernel_rfl) (by kernel_rfl) (fun _ _ _ h => h) (.inl ⟨by kernel_rfl, fun w' hS => ?_⟩) hS ?_
    rotate_left
    ·
      have q0 := (stay_of_below hS).cell y0; have q1 := (stay_of_below hS).cell y1; have q3 := (stay_of_below hS).cell y3
      go_simp
      try with_reducible rfl
    simp only [List.getElem_toArray, List.getElem_cons_succ, List.getElem_cons_zero, Act.put, List.setIfInBounds_toArray, List.set_cons_zero, List.set_cons_succ]
    refine wpAnyH_take (i := 9) (v := ?_) rfl (by kernel_rfl) (by kernel_rfl) (by kernel_rfl) (fun _ _ _ h => h) (.inl ⟨by kernel_rfl, fun w' hS => ?_⟩) hS ?_
    rotate_left
    ·
      have q0 := (stay_of_below hS).cell y0; have q1 := (stay_of_below hS).cell y1; have q3 := (stay_of_below hS).cell y3
      go_simp
      try with_reducible rfl
    simp only [List.getElem_toArray, List.getElem_cons_succ, List.getElem_cons_zero, Act.put, List.setIfInBounds_toArray, List.set_cons_zero, List.set_cons_succ]
    refine wpAnyH_take (i := 10) (v := ?_) rfl (by kernel_rfl) (by kernel_rfl) (by kernel_rfl) (fun _ _ _ h => h) (.inl ⟨by kernel_rfl, fun w' hS => ?_⟩) hS ?_
    rotate_left
    ·
      have q0 := (stay_of_below hS).cell y0; have q1 := (stay_of_below hS).cell y1; have q3 := (stay_of_below hS).cell y3
      go_simp
      try with_reducible rfl
    simp only [List.getElem_toArray, List.getElem_cons_succ, List.getElem_cons_zero, Act.put, List.setIfInBounds_toArray, List.set_cons_zero, List.set_cons_succ]
    refine wpAnyH_take (i := 11) (v := ?_) rfl (by kernel_rfl) (by kernel_rfl) (by kernel_rfl) (fun _ _ _ h => h) (.inl ⟨by kernel_rfl, fun w' hS => ?_⟩) hS ?_
    rotate_left
    ·
      have q0 := (stay_of_below hS).cell y0; have q1 := (stay_of_below hS).cell y1; have q3 := (stay_of_below hS).cell y3
      go_simp
      try with_reducible rfl
    simp only [List.getElem_toArray, List.getElem_cons_succ, List.getElem_cons_zero, Act.put, List.setIfInBounds_toArray, List.set_cons_zero, List.set_cons_succ]
    refine wpAnyH_take (i := 12) (v := ?_) rfl (by kernel_rfl) (by kernel_rfl) (by kernel_rfl) (fun _ _ _ h => h) (.inl ⟨by kernel_rfl, fun w' hS => ?_⟩) hS ?_
    rotate_left
    ·
      have q0 := (stay_of_below hS).cell y0; have q1 := (stay_of_below hS).cell y1; have q3 := (stay_of_below hS).cell y3
      go_simp
      try with_reducible rfl
    simp only [List.getElem_toArray, List.getElem_cons_succ, List.getElem_cons_zero, Act.put, List.setIfInBounds_toArray, List.set_cons_zero, List.set_cons_succ]
    have hc1 := Lib.hid (hck.out V0 hbd.out)
    refine wpAnyH_ready (rs := [6]) (by kernel_rfl) (by simp) ?_
    refine AllReadyH.cons rfl (fun K hK => ?_) AllReadyH.nil
    clear hS
    go_simp
    refine (hc1.out).mono ?_
    rintro e w7 ⟨rfl, hb7⟩
    go_wp2_with fail
    refine hK.out _ _ (hbd.out.trans (hb7.mono hbd.out.size)) (fun hS => ?_)
    clear hK K
    try simp only [List.getElem_toArray, List.getElem_cons_succ, List.getElem_cons_zero, Act.put, List.setIfInBounds_toArray, List.set_cons_zero, List.set_cons_succ]
    have hb8 := Lib.hid (hbd.out.trans (hb7.mono hbd.out.size))
    have hc2 := Lib.hid (hrc.out w7 hb8.out)
    refine wpAnyH_ready (rs := [13]) (by kernel_rfl) (by simp) ?_
    refine AllReadyH.cons rfl (fun K hK => ?_) AllReadyH.nil
    clear hS
    go_simp
    refine (hc2.out).mono ?_
    rintro e w9 ⟨rfl, hb9⟩
    go_wp2_with fail
    refine hK.out _ _ (hb8.out.trans (hb9.mono hb8.out.size)) (fun hS => ?_)
    clear hK K
    try simp only [List.getElem_toArray, List.getElem_cons_succ, List.getElem_cons_zero, Act.put, List.setIfInBounds_toArray, List.set_cons_zero, List.set_cons_succ]
    have hb10 := Lib.hid (hb8.out.trans (hb9.mono hb8.out.size))
    refine wpAnyH_take (i := 14) (v := ?_) rfl (by kernel_rfl) (by kernel_rfl) (by kernel_rfl) (fun _ _ _ h => h) (.inl ⟨by kernel_rfl, fun w' hS => ?_⟩) hS ?_
    rotate_left
    ·
      skip
      go_simp
      try with_reducible rfl
    simp only [List.getElem_toArray, List.getElem_cons_succ, List.getElem_cons_zero, Act.put, List.setIfInBounds_toArray, List.set_cons_zero, List.set_cons_succ]
    refine wpAnyH_take (i := 15) (v := ?_) rfl (by kernel_rfl) (by kernel_rfl) (by kernel_rfl) (fun _ _ _ h => h) (.inl ⟨by kernel_rfl, fun w' hS => ?_⟩) hS ?_
    rotate_left
    ·
      skip
      go_simp
      try with_reducible rfl
    simp only [List.getElem_toArray, List.getElem_cons_succ, List.getElem_cons_zero, Act.put, List.setIfInBounds_toArray, List.set_cons_zero, List.set_cons_succ]
    refine wpAnyH_ready (rs := [16]) (by kernel_rfl) (by simp) ?_
    refine AllReadyH.cons rfl (fun K hK => ?_) AllReadyH.nil
    clear hS
    go_simp
    refine ((wakes_any w9)).mono ?_
    rintro e w11 ⟨rfl, hb11⟩
    go_wp2_with fail
    refine hK.out _ _ (hb10.out.trans (hb11.mono hb10.out.size)) (fun hS => ?_)
    clear hK K
    try simp only [List.getElem_toArray, List.getElem_cons_succ, List.getElem_cons_zero, Act.put, List.setIfInBounds_toArray, List.set_cons_zero, List.set_cons_succ]
    have hb12 := Lib.hid (hbw2.out.trans ((hb10.out.trans (hb11.mono hb10.out.size)).mono hbw2.out.size))
    refine wpAnyH_take (i := 17) (v := ?_) rfl (by kernel_rfl) (by kernel_rfl) (by kernel_rfl) (fun _ _ _ h => h) (.inl ⟨by kernel_rfl, fun w' hS => ?_⟩) hS ?_
    rotate_left
    ·
      skip
      go_simp
      try with_reducible rfl
    simp only [List.getElem_toArray, List.getElem_cons_succ, List.getElem_cons_zero, Act.put, List.setIfInBounds_toArray, List.set_cons_zero, List.set_cons_succ]
    refine wpAnyH_take (i := 18) (v := ?_) rfl (by kernel_rfl) (by kernel_rfl) (by kernel_rfl) (fun _ _ _ h => h) (.inl ⟨by kernel_rfl, fun w' hS => ?_⟩) hS ?_
    rotate_left
    ·
      skip
      go_simp
      try with_reducible rfl
    simp only [List.getElem_toArray, List.getElem_cons_succ, List.getElem_cons_zero, Act.put, List.setIfInBounds_toArray, List.set_cons_zero, List.set_cons_succ]
    refine wpAnyH_done (by kernel_rfl) ?_ _
    clear hS
    go_wp2
    go_ret
    exact ⟨rfl, hb12.out⟩
end Go.Proofs.Ytnocncmjdhlmkaa.hyp
