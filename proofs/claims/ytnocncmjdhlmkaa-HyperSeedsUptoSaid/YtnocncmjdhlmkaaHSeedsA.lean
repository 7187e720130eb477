/- Texts HCheck, HSeeds, one behind the other. -/
import Derived.Test.YtnocncmjdhlmkaaHLawsA
import Derived.Test.YtnocncmjdhlmkaaHWake
import Derived.Test.YtnocncmjdhlmkaaHRef6
import Derived.Test.YtnocncmjdhlmkaaHRefPA
/- HyperCheck: the walk. -/
namespace Go.Proofs.Ytnocncmjdhlmkaa.hyp
open Go.ChangeShapes Go.WideShapes Go.ChangeAt Go.RowKit kit
set_option linter.unusedVariables false
set_option linter.unusedSimpArgs false
theorem light_few {E : List (List ByteArray)} {bs : List BagD} (h : lightB E bs = true) : sizeE E ≤ 400 ∧ bs.length ≤ 400 ∧ ∀ b ∈ bs, b.names.length ≤ 400 ∧ b.edges.length ≤ 400 := by
  have h1 : sizeE E + sizeB bs ≤ 400 := of_decide_eq_true h
  have hone : ∀ L : List BagD, L.length ≤ sizeB L ∧ ∀ b ∈ L, b.names.length ≤ sizeB L ∧ b.edges.length ≤ sizeB L := by
    intro L
    induction L with
    | nil => simp [sizeB]
    | cons a L ih =>
      have hs : sizeB (a :: L) = (1 + a.names.length + a.edges.length) + sizeB L := by simp [sizeB]
      rw [hs, List.length_cons]
      refine ⟨by omega, fun b hb => ?_⟩
      rcases List.mem_cons.1 hb with rfl | hb
      · omega
      · have := ih.2 b hb; omega
  have h2 := hone bs
  exact ⟨by omega, by omega, fun b hb => by have := h2.2 b hb; omega⟩
set_option maxRecDepth 100000 in
set_option maxHeartbeats 8000000 in
theorem hcheck_any (w : World) (v : Value) (ao : Option Addr) (cap : Nat) (E : List (List ByteArray)) (width seed : Int) (lv : Value) (bs : List BagD) (hG : GraphA w v ao cap E width seed lv bs) :
    Calls Try.prog 4 #[v] w fun e w' => e = .returned (.bool true) ∧ Below w.heap.size w w' := by
  obtain ⟨al, cl, rfl, -⟩ := bags_at hG.bags
  obtain ⟨hv, -, hl, hle, -, hbl, hbs, hww, hsw⟩ := id hG
  subst hv
  have hbw : Hid (Below w.heap.size w (w.alloc (.cells #[.slice ao E.length cap, .int .i64 width, .int .i64 seed, .slice al bs.length cl] 25))) := Lib.hid ((Below.refl _ _).alloc (Nat.le_refl _) _)
  have hq := Lib.hid (Blk.new w #[.slice ao E.length cap, .int .i64 width, .int .i64 seed, .slice al bs.length cl] 25)
  have hG1 := Lib.hid (hG.below hbw.out)
  obtain ⟨L, hL⟩ : ∃ L, lightB E bs = L := ⟨_, rfl⟩
  have hli := Lib.hid (light_any _ _ _ _ _ _ _ _ _ hG1.out)
  rw [hL] at hli
  replace hL := Lib.hid hL
  have y0 := hq.out.cell 0 rfl
  have y1 := hq.out.cell 1 rfl
  have y2 := hq.out.cell 2 rfl
  have y3 := hq.out.cell 3 rfl
  clear hG
  go_enter Try.func4, Try.ntmps4
  go_wp2_with fail
  generalize w.alloc (.cells #[.slice ao E.length cap, .int .i64 width, .int .i64 seed, .slice al bs.length cl] 25) = w1 at *
  refine hli.out.mono ?_
  rintro e w2 ⟨rfl, hb2⟩
  clear hli
  replace y0 := (stay_of_below hb2).cell y0
  replace y1 := (stay_of_below hb2).cell y1
  replace y2 := (stay_of_below hb2).cell y2
  replace y3 := (stay_of_below hb2).cell y3
  have hbw2 := Lib.hid (hbw.out.trans (hb2.mono hbw.out.size))
  have hG2 := Lib.hid (hG1.out.below hb2)
  clear hb2 hG1 hq hbw
  cases L with
  | false =>
    clear y0 y1 y2 y3 hG2
    go_wp2_with fail
    refine (wakes_any _).mono ?_
    rintro e wz ⟨rfl, hbz⟩
    have hbzz := Lib.hid (hbw2.out.trans (hbz.mono hbw2.out.size))
    clear hbz
    go_wp2
    go_ret
    exact ⟨rfl, hbzz.out⟩
  | true =>
    obtain ⟨hs1, hs2, hs3⟩ := light_few hL.out
    have hck := fun V (h : Below w2.heap.size w2 V) => check_any V ao cap E bs _ width hl hle (hG2.out.below h).edges (hG2.out.below h).bags (by omega) (fun b hb => by have := hs3 b hb; omega)
    have hrc := fun V (h : Below w2.heap.size w2 V) => rcheck_any V ao cap E bs _ width (hG2.out.below h).edges (by omega) hl (hG2.out.below h).bags (by omega) (fun b hb => by have := hs3 b hb; omega)
    rw [chk_ref] at hck
    generalize refChk E bs width = q at *
    replace hck := Lib.hid hck
    replace hrc := Lib.hid hrc
    clear hG2
    have hbd : Hid (Below w2.heap.size w2 w2.drew) := Lib.hid ⟨rfl, rfl, rfl, Nat.le_refl _, fun _ _ => rfl⟩
    go_wp2_with fail
    refine wp_region_held_drew (S := fun V => Below w2.heap.size w2 V) (by kernel_rfl) hbd.out (fun hS => ?_)
    generalize w2.drew = V0 at *
    refine wpAnyH_take (i := 0) (v := ?_) rfl (by kernel_rfl) (by kernel_rfl) (by kernel_rfl) (fun _ _ _ h => h) (.inl ⟨by kernel_rfl, fun w' hS => ?_⟩) hS ?_
    rotate_left
    ·
      have q0 := (stay_of_below hS).cell y0; have q1 := (stay_of_below hS).cell y1; have q3 := (stay_of_below hS).cell y3
      go_simp
      try with_reducible rfl
    simp only [List.getElem_toArray, List.getElem_cons_succ, List.getElem_cons_zero, Act.put, List.setIfInBounds_toArray, List.set_cons_zero, List.set_cons_succ]
    refine wpAnyH_take (i := 1) (v := ?_) rfl (by kernel_rfl) (by kernel_rfl) (by kernel_rfl) (fun _ _ _ h => h) (.inl ⟨by kernel_rfl, fun w' hS => ?_⟩) hS ?_
    rotate_left
    ·
      have q0 := (stay_of_below hS).cell y0; have q1 := (stay_of_below hS).cell y1; have q3 := (stay_of_below hS).cell y3
      go_simp
      try with_reducible rfl
    simp only [List.getElem_toArray, List.getElem_cons_succ, List.getElem_cons_zero, Act.put, List.setIfInBounds_toArray, List.set_cons_zero, List.set_cons_succ]
    refine wpAnyH_take (i := 2) (v := ?_) rfl (by kernel_rfl) (by kernel_rfl) (by kernel_rfl) (fun _ _ _ h => h) (.inl ⟨by kernel_rfl, fun w' hS => ?_⟩) hS ?_
    rotate_left
    ·
      have q0 := (stay_of_below hS).cell y0; have q1 := (stay_of_below hS).cell y1; have q3 := (stay_of_below hS).cell y3
      go_simp
      try with_reducible rfl
    simp only [List.getElem_toArray, List.getElem_cons_succ, List.getElem_cons_zero, Act.put, List.setIfInBounds_toArray, List.set_cons_zero, List.set_cons_succ]
    refine wpAnyH_take (i := 3) (v := ?_) rfl (by kernel_rfl) (by kernel_rfl) (by kernel_rfl) (fun _ _ _ h => h) (.inl ⟨by kernel_rfl, fun w' hS => ?_⟩) hS ?_
    rotate_left
    ·
      have q0 := (stay_of_below hS).cell y0; have q1 := (stay_of_below hS).cell y1; have q3 := (stay_of_below hS).cell y3
      go_simp
      try with_reducible rfl
    simp only [List.getElem_toArray, List.getElem_cons_succ, List.getElem_cons_zero, Act.put, List.setIfInBounds_toArray, List.set_cons_zero, List.set_cons_succ]
    refine wpAnyH_take (i := 4) (v := ?_) rfl (by kernel_rfl) (by kernel_rfl) (by kernel_rfl) (fun _ _ _ h => h) (.inl ⟨by kernel_rfl, fun w' hS => ?_⟩) hS ?_
    rotate_left
    ·
      have q0 := (stay_of_below hS).cell y0; have q1 := (stay_of_below hS).cell y1; have q3 := (stay_of_below hS).cell y3
      go_simp
      try with_reducible rfl
    simp only [List.getElem_toArray, List.getElem_cons_succ, List.getElem_cons_zero, Act.put, List.setIfInBounds_toArray, List.set_cons_zero, List.set_cons_succ]
    refine wpAnyH_take (i := 5) (v := ?_) rfl (by kernel_rfl) (by kernel_rfl) (by kernel_rfl) (fun _ _ _ h => h) (.inl ⟨by kernel_rfl, fun w' hS => ?_⟩) hS ?_
    rotate_left
    ·
      have q0 := (stay_of_below hS).cell y0; have q1 := (stay_of_below hS).cell y1; have q3 := (stay_of_below hS).cell y3
      go_simp
      try with_reducible rfl
    simp only [List.getElem_toArray, List.getElem_cons_succ, List.getElem_cons_zero, Act.put, List.setIfInBounds_toArray, List.set_cons_zero, List.set_cons_succ]
    refine wpAnyH_take (i := 7) (v := ?_) rfl (by kernel_rfl) (by kernel_rfl) (by kernel_rfl) (fun _ _ _ h => h) (.inl ⟨by kernel_rfl, fun w' hS => ?_⟩) hS ?_
    rotate_left
    ·
      have q0 := (stay_of_below hS).cell y0; have q1 := (stay_of_below hS).cell y1; have q3 := (stay_of_below hS).cell y3
      go_simp
      try with_reducible rfl
    simp only [List.getElem_toArray, List.getElem_cons_succ, List.getElem_cons_zero, Act.put, List.setIfInBounds_toArray, List.set_cons_zero, List.set_cons_succ]
    refine wpAnyH_take (i := 8) (v := ?_) rfl (by kernel_rfl) (by kernel_rfl) (by kernel_rfl) (fun _ _ _ h => h) (.inl ⟨by kernel_rfl, fun w' hS => ?_⟩) hS ?_
    rotate_left
    ·
      have q0 := (stay_of_below hS).cell y0; have q1 := (stay_of_below hS).cell y1; have q3 := (stay_of_below hS).cell y3
      go_simp
      try with_reducible rfl
    simp only [List.getElem_toArray, List.getElem_cons_succ, List.getElem_cons_zero, Act.put, List.setIfInBounds_toArray, List.set_cons_zero, List.set_cons_succ]
    refine wpAnyH_take (i := 9) (v := ?_) rfl (by kernel_rfl) (by kernel_rfl) (by kernel_rfl) (fun _ _ _ h => h) (.inl ⟨by kernel_rfl, fun w' hS => ?_⟩) hS ?_
    rotate_left
    ·
      have q0 := (stay_of_below hS).cell y0; have q1 := (stay_of_below hS).cell y1; have q3 := (stay_of_below hS).cell y3
      go_simp
      try with_reducible rfl
    simp only [List.getElem_toArray, List.getElem_cons_succ, List.getElem_cons_zero, Act.put, List.setIfInBounds_toArray, List.set_cons_zero, List.set_cons_succ]
    refine wpAnyH_take (i := 10) (v := ?_) rfl (by kernel_rfl) (by kernel_rfl) (by kernel_rfl) (fun _ _ _ h => h) (.inl ⟨by kernel_rfl, fun w' hS => ?_⟩) hS ?_
    rotate_left
    ·
      have q0 := (stay_of_below hS).cell y0; have q1 := (stay_of_below hS).cell y1; have q3 := (stay_of_below hS).cell y3
      go_simp
      try with_reducible rfl
    simp only [List.getElem_toArray, List.getElem_cons_succ, List.getElem_cons_zero, Act.put, List.setIfInBounds_toArray, List.set_cons_zero, List.set_cons_succ]
    refine wpAnyH_take (i := 11) (v := ?_) rfl (by kernel_rfl) (by kernel_rfl) (by kernel_rfl) (fun _ _ _ h => h) (.inl ⟨by kernel_rfl, fun w' hS => ?_⟩) hS ?_
    rotate_left
    ·
      have q0 := (stay_of_below hS).cell y0; have q1 := (stay_of_below hS).cell y1; have q3 := (stay_of_below hS).cell y3
      go_simp
      try with_reducible rfl
    simp only [List.getElem_toArray, List.getElem_cons_succ, List.getElem_cons_zero, Act.put, List.setIfInBounds_toArray, List.set_cons_zero, List.set_cons_succ]
    refine wpAnyH_take (i := 12) (v := ?_) rfl (by kernel_rfl) (by kernel_rfl) (by kernel_rfl) (fun _ _ _ h => h) (.inl ⟨by kernel_rfl, fun w' hS => ?_⟩) hS ?_
    rotate_left
    ·
      have q0 := (stay_of_below hS).cell y0; have q1 := (stay_of_below hS).cell y1; have q3 := (stay_of_below hS).cell y3
      go_simp
      try with_reducible rfl
    simp only [List.getElem_toArray, List.getElem_cons_succ, List.getElem_cons_zero, Act.put, List.setIfInBounds_toArray, List.set_cons_zero, List.set_cons_succ]
    have hc1 := Lib.hid (hck.out V0 hbd.out)
    refine wpAnyH_ready (rs := [6]) (by kernel_rfl) (by simp) ?_
    refine AllReadyH.cons rfl (fun K hK => ?_) AllReadyH.nil
    clear hS
    go_simp
    refine (hc1.out).mono ?_
    rintro e w7 ⟨rfl, hb7⟩
    go_wp2_with fail
    refine hK.out _ _ (hbd.out.trans (hb7.mono hbd.out.size)) (fun hS => ?_)
    clear hK K
    try simp only [List.getElem_toArray, List.getElem_cons_succ, List.getElem_cons_zero, Act.put, List.setIfInBounds_toArray, List.set_cons_zero, List.set_cons_succ]
    have hb8 := Lib.hid (hbd.out.trans (hb7.mono hbd.out.size))
    have hc2 := Lib.hid (hrc.out w7 hb8.out)
    refine wpAnyH_ready (rs := [13]) (by kernel_rfl) (by simp) ?_
    refine AllReadyH.cons rfl (fun K hK => ?_) AllReadyH.nil
    clear hS
    go_simp
    refine (hc2.out).mono ?_
    rintro e w9 ⟨rfl, hb9⟩
    go_wp2_with fail
    refine hK.out _ _ (hb8.out.trans (hb9.mono hb8.out.size)) (fun hS => ?_)
    clear hK K
    try simp only [List.getElem_toArray, List.getElem_cons_succ, List.getElem_cons_zero, Act.put, List.setIfInBounds_toArray, List.set_cons_zero, List.set_cons_succ]
    have hb10 := Lib.hid (hb8.out.trans (hb9.mono hb8.out.size))
    refine wpAnyH_take (i := 14) (v := ?_) rfl (by kernel_rfl) (by kernel_rfl) (by kernel_rfl) (fun _ _ _ h => h) (.inl ⟨by kernel_rfl, fun w' hS => ?_⟩) hS ?_
    rotate_left
    ·
      skip
      go_simp
      try with_reducible rfl
    simp only [List.getElem_toArray, List.getElem_cons_succ, List.getElem_cons_zero, Act.put, List.setIfInBounds_toArray, List.set_cons_zero, List.set_cons_succ]
    refine wpAnyH_take (i := 15) (v := ?_) rfl (by kernel_rfl) (by kernel_rfl) (by kernel_rfl) (fun _ _ _ h => h) (.inl ⟨by kernel_rfl, fun w' hS => ?_⟩) hS ?_
    rotate_left
    ·
      skip
      go_simp
      try with_reducible rfl
    simp only [List.getElem_toArray, List.getElem_cons_succ, List.getElem_cons_zero, Act.put, List.setIfInBounds_toArray, List.set_cons_zero, List.set_cons_succ]
    refine wpAnyH_ready (rs := [16]) (by kernel_rfl) (by simp) ?_
    refine AllReadyH.cons rfl (fun K hK => ?_) AllReadyH.nil
    clear hS
    go_simp
    refine ((wakes_any w9)).mono ?_
    rintro e w11 ⟨rfl, hb11⟩
    go_wp2_with fail
    refine hK.out _ _ (hb10.out.trans (hb11.mono hb10.out.size)) (fun hS => ?_)
    clear hK K
    try simp only [List.getElem_toArray, List.getElem_cons_succ, List.getElem_cons_zero, Act.put, List.setIfInBounds_toArray, List.set_cons_zero, List.set_cons_succ]
    have hb12 := Lib.hid (hbw2.out.trans ((hb10.out.trans (hb11.mono hb10.out.size)).mono hbw2.out.size))
    refine wpAnyH_take (i := 17) (v := ?_) rfl (by kernel_rfl) (by kernel_rfl) (by kernel_rfl) (fun _ _ _ h => h) (.inl ⟨by kernel_rfl, fun w' hS => ?_⟩) hS ?_
    rotate_left
    ·
      skip
      go_simp
      try with_reducible rfl
    simp only [List.getElem_toArray, List.getElem_cons_succ, List.getElem_cons_zero, Act.put, List.setIfInBounds_toArray, List.set_cons_zero, List.set_cons_succ]
    refine wpAnyH_take (i := 18) (v := ?_) rfl (by kernel_rfl) (by kernel_rfl) (by kernel_rfl) (fun _ _ _ h => h) (.inl ⟨by kernel_rfl, fun w' hS => ?_⟩) hS ?_
    rotate_left
    ·
      skip
      go_simp
      try with_reducible rfl
    simp only [List.getElem_toArray, List.getElem_cons_succ, List.getElem_cons_zero, Act.put, List.setIfInBounds_toArray, List.set_cons_zero, List.set_cons_succ]
    refine wpAnyH_done (by kernel_rfl) ?_ _
    clear hS
    go_wp2
    go_ret
    exact ⟨rfl, hb12.out⟩
end Go.Proofs.Ytnocncmjdhlmkaa.hyp

/- HyperSeeds: the walk. -/
namespace Go.Proofs.Ytnocncmjdhlmkaa.hyp
open Go.ChangeShapes Go.WideShapes Go.ChangeAt Go.RowKit kit
set_option linter.unusedVariables false
set_option linter.unusedSimpArgs false
theorem outS_len {ms : List Nat} {turn all : Nat} (g : Good ms all) : ∀ i, (∀ j, j < i → outS ms turn all j ≠ 0) → (bits (outS ms turn all i)).length + i ≤ 16
  | 0, _ => by have := bits_few (outS ms turn all 0); omega
  | i + 1, h => by
    have h1 := outS_len g i (fun j hj => h j (by omega))
    have h0 := h i (Nat.lt_succ_self i)
    have hb : bits (outS ms turn all (i + 1)) = (bits (outS ms turn all i)).filter (fun x => !decide (vS ms turn all i = x)) := by
      unfold bits
      rw [List.filter_filter]
      congr 1
      funext x
      rw [outS_succ g h0, Bool.and_comm]
    have hm : vS ms turn all i ∈ bits (outS ms turn all i) := (mem_bits (outS_lt g i)).2 (vS_in g h0)
    have h2 : ((bits (outS ms turn all i)).filter (fun x => !decide (vS ms turn all i = x))).length < (bits (outS ms turn all i)).length :=
      List.length_filter_lt_length_iff_exists.2 ⟨_, hm, by simp⟩
    rw [hb]
    omega
theorem DecOut.checked16 {w w' : World} {E : List (List ByteArray)} {width seed : Int} {e : Ending} (h : DecOut w E width seed e w') (hm : mayR nameB E = true) (hw : 1 ≤ width) (hwid : ((widN (setsR E) (turnOf seed) (allR E) : Nat) : Int) ≤ width) :
    Below w.heap.size w w' ∧ ∃ v bs, e = .returned (.tuple #[v, .int .i64 0]) ∧ BagsO w' w.heap.size v bs ∧ chkR E bs width = true ∧ Few E bs ∧ bs.length ≤ 16 := by
  obtain ⟨hb, h | h | h⟩ := h
  · exact absurd ⟨hm, hw⟩ h.1
  · omega
  · obtain ⟨-, -, v, bs, h1, h2, h3⟩ := h
    refine ⟨hb, v, bs, h1, h2, ?_⟩
    rcases h3 with ⟨h4, rfl⟩ | ⟨h4, M, h5, h6, rfl⟩
    · refine ⟨chk_empty hm hw h4, ⟨by simp, fun b hb => ?_⟩, by simp⟩
      obtain rfl := List.mem_singleton.1 hb
      exact ⟨by simp, by simp, fun s hs => by simp at hs⟩
    · refine ⟨chk_bags hm hw hwid h4 h5 h6, few_bags hm h6, ?_⟩
      rw [bagsR_length]
      have := outS_len (good_of hm) M h6
      omega
theorem BagsO.reads {w : World} {B : Nat} {v : Value} {E : List (List ByteArray)} {bs : List BagD} (h : BagsO w B v bs) (hf : Few E bs) (hs : ∀ e ∈ E, ∀ s ∈ e, s.size ≤ maxLen) : BagsA w w.heap.size v bs :=
  h.read fun b hb s hsb => by
    rcases (hf.2 b hb).2.2 s hsb with h1 | rfl
    · obtain ⟨e, he, hv⟩ := vars_mem h1
      exact hs e he s hv
    · exact Nat.zero_le _
theorem EdgesA.small {w : World} {B : Nat} {v : Value} {E : List (List ByteArray)} (h : EdgesA w B v E) : ∀ e ∈ E, ∀ s ∈ e, s.size ≤ maxLen := fun e he => by
  obtain ⟨vs, h1, h2, h3⟩ := h
  obtain ⟨j, hj, rfl⟩ := List.getElem_of_mem he
  exact (h3 j hj (by omega)).size
theorem refChk_par {E : List (List ByteArray)} {bs : List BagD} {width : Int} (h : refChk E bs width = true) : ∀ j (hj : j < bs.length), parOK j bs[j].parent = true := by
  unfold refChk at h
  simp only [Bool.and_eq_true] at h
  have h1 := h.1.1.2
  unfold allBags at h1
  rw [List.all_eq_true] at h1
  intro j hj
  have h2 := h1 j (List.mem_range.2 hj)
  rw [getD_bag hj] at h2
  unfold baggedR at h2
  simp only [Bool.and_eq_true] at h2
  exact h2.1.1.1.1
theorem refChk_zero (E : List (List ByteArray)) (bs : List BagD) : refChk E bs 0 = false := by unfold refChk; simp
theorem refChk_nil (E : List (List ByteArray)) (width : Int) : refChk E [] width = false := by unfold refChk; simp
theorem bagsA_nil (w : World) (B : Nat) : BagsA w B (.slice none 0 0) [] := ⟨none, 0, rfl, fun j hj => by simp at hj⟩
set_option maxRecDepth 100000 in
set_option maxHeartbeats 8000000 in
theorem hseeds_any (w : World) (v : Value) (ao : Option Addr) (cap : Nat) (E : List (List ByteArray)) (width seed : Int) (lv : Value) (bs : List BagD) (hG : GraphA w v ao cap E width seed lv bs) :
    Calls Try.prog 7 #[v] w fun e w' => e = .returned (.bool true) ∧ Below w.heap.size w w' := by
  obtain ⟨al, cl, rfl, -⟩ := bags_at hG.bags
  obtain ⟨hv, -, hl, hle, -, hbl, hbs, hww, hsw⟩ := id hG
  subst hv
  have hbw : Hid (Below w.heap.size w (w.alloc (.cells #[.slice ao E.length cap, .int .i64 width, .int .i64 seed, .slice al bs.length cl] 25))) := Lib.hid ((Below.refl _ _).alloc (Nat.le_refl _) _)
  have hq := Lib.hid (Blk.new w #[.slice ao E.length cap, .int .i64 width, .int .i64 seed, .slice al bs.length cl] 25)
  have hG1 := Lib.hid (hG.below hbw.out)
  obtain ⟨L, hL⟩ : ∃ L, lightB E bs = L := ⟨_, rfl⟩
  have hli := Lib.hid (light_any _ _ _ _ _ _ _ _ _ hG1.out)
  rw [hL] at hli
  replace hL := Lib.hid hL
  have y0 := hq.out.cell 0 rfl
  have y1 := hq.out.cell 1 rfl
  have y2 := hq.out.cell 2 rfl
  have y3 := hq.out.cell 3 rfl
  clear hG
  go_enter Try.func7, Try.ntmps7
  go_wp2_with fail
  generalize w.alloc (.cells #[.slice ao E.length cap, .int .i64 width, .int .i64 seed, .slice al bs.length cl] 25) = w1 at *
  refine hli.out.mono ?_
  rintro e w2 ⟨rfl, hb2⟩
  clear hli
  replace y0 := (stay_of_below hb2).cell y0
  replace y1 := (stay_of_below hb2).cell y1
  replace y2 := (stay_of_below hb2).cell y2
  replace y3 := (stay_of_below hb2).cell y3
  have hbw2 := Lib.hid (hbw.out.trans (hb2.mono hbw.out.size))
  have hG2 := Lib.hid (hG1.out.below hb2)
  clear hb2 hG1 hq hbw
  cases L with
  | false =>
    clear y0 y1 y2 y3 hG2
    go_wp2_with fail
    refine (wakes_any _).mono ?_
    rintro e wz ⟨rfl, hbz⟩
    have hbzz := Lib.hid (hbw2.out.trans (hbz.mono hbw2.out.size))
    clear hbz
    go_wp2
    go_ret
    exact ⟨rfl, hbzz.out⟩
  | true =>
    obtain ⟨hs1, hs2, hs3⟩ := light_few hL.out
    have hwd := Lib.hid (width_any w2 ao cap E hl hle hG2.out.edges)
    cases hm : mayR nameB E with
    | false =>
      have hwr : widR E = none := by unfold widR; rw [hm]; rfl
      replace hm := Lib.hid hm
      go_wp2_with fail
      refine hwd.out.mono ?_
      rintro e w3 ⟨hb3, rfl⟩
      rw [hwr]
      simp only []
      have hb4 := Lib.hid (hbw2.out.trans (hb3.mono hbw2.out.size))
      clear y0 y1 y2 y3 hG2 hwd hb3 hwr
      go_wp2_with fail
      refine (wakes_any _).mono ?_
      rintro e wz ⟨rfl, hbz⟩
      have hbzz := Lib.hid (hb4.out.trans (hbz.mono hb4.out.size))
      clear hbz
      go_wp2
      go_ret
      exact ⟨rfl, hbzz.out⟩
    | true =>
      obtain ⟨n, hn⟩ : ∃ n, widN (setsR E) 0 (allR E) = n := ⟨_, rfl⟩
      have hwr : Hid (widR E = some n) := Lib.hid (by unfold widR; rw [if_pos hm, hn])
      have hn8 : n ≤ E.length := by rw [← hn]; exact wid_few hm 0
      have htn : Hid (∀ t, widN (setsR E) t (allR E) = n) := Lib.hid fun t => (wid_turn (good_of hm) t 0).trans hn
      replace hn := Lib.hid hn
      replace hm := Lib.hid hm
      go_wp2_with fail
      refine hwd.out.mono ?_
      rintro e w3 ⟨hb3, rfl⟩
      rw [hwr.out]
      simp only []
      have hb4 := Lib.hid (hbw2.out.trans (hb3.mono hbw2.out.size))
      have hG3 := Lib.hid (hG2.out.below hb3)
      replace y0 := (stay_of_below hb3).cell y0
      replace y2 := (stay_of_below hb3).cell y2
      clear y1 y3 hb3 hwd hG2 hbw2 hwr
      by_cases h0 : n = 0
      · have hn0 : ((n : Int) == 0) = true := by rw [h0]; rfl
        replace h0 := Lib.hid h0
        go_wp2_with fail
        refine (wakes_any _).mono ?_
        rintro e wz ⟨rfl, hbz⟩
        have hbzz := Lib.hid (hb4.out.trans (hbz.mono hb4.out.size))
        clear hbz
        go_wp2
        go_ret
        exact ⟨rfl, hbzz.out⟩
      · have hn0 : ((n : Int) == 0) = false := beq_eq_false_iff_ne.2 (by omega)
        replace h0 := Lib.hid h0
        have hsm := Lib.hid hG3.out.edges.small
        go_wp2
        have x0 := Lib.hid y0
        have x2 := Lib.hid y2
        clear y0 y2
        go_loopw [5] (fun i wr => ∃ k : Nat, k ≤ 6 ∧ i = .int .i64 (k : Int) ∧ Hid (Below w3.heap.size w3 wr)) (fun i _ => 6 - (intOf i).toNat)
        case atStart => exact ⟨0, by omega, rfl, Lib.hid (Below.refl _ _)⟩
        case round =>
          obtain ⟨k, hk, rfl, hbr⟩ := hrel
          by_cases hlt : k < 6
          · have hki : (k : Int) < 6 := by omega
            have hk1 := Lib.hid (show k + 1 ≤ 6 from hlt)
            have z0 := (stay_of_below hbr.out).cell x0.out
            have z2 := (stay_of_below hbr.out).cell x2.out
            obtain ⟨m, hmk⟩ : ∃ m, k / 3 = m := ⟨_, rfl⟩
            have hm2 : m ≤ 1 := by omega
            have hk3 : (k : Int) / 3 = (m : Int) := by omega
            have hk3t : (k : Int).tdiv 3 = (m : Int) := by rw [Int.tdiv_eq_ediv_of_nonneg (by omega)]; exact hk3
            have hwm : IntKind.i64.wrap (m : Int) = (m : Int) := IntWalk.i64_in _ (by omega)
            obtain ⟨wd, hwd⟩ : ∃ wd, (n : Int) + (m : Int) = wd := ⟨_, rfl⟩
            have hwn : IntKind.i64.wrap wd = wd := IntWalk.i64_in _ (by omega)
            have hwd1 : 1 ≤ wd := by have := h0.out; omega
            have hwdn : Hid ((n : Int) ≤ wd) := Lib.hid (by omega)
            obtain ⟨r, hr⟩ : ∃ r, seed.tmod 1000 = r := ⟨_, rfl⟩
            have hr1 : r < 1000 := by rw [← hr]; exact Int.tmod_lt_of_pos _ (by omega)
            have hr2 : -r < 1000 := by rw [← hr, ← Int.neg_tmod]; exact Int.tmod_lt_of_pos _ (by omega)
            have hkk : k * k ≤ 25 := Nat.le_trans (Nat.mul_le_mul (show k ≤ 5 by omega) (show k ≤ 5 by omega)) (by omega)
            obtain ⟨q, hq⟩ : ∃ q, k * k = q := ⟨_, rfl⟩
            rw [hq] at hkk
            have hqi : (k : Int) * (k : Int) = (q : Int) := by rw [← hq]; push_cast; rfl
            have hwr : IntKind.i64.wrap r = r := IntWalk.i64_in _ (by omega)
            have hwq : IntKind.i64.wrap (q : Int) = (q : Int) := IntWalk.i64_in _ (by omega)
            obtain ⟨s, hs⟩ : ∃ s, r + (q : Int) = s := ⟨_, rfl⟩
            have hws : IntKind.i64.wrap s = s := IntWalk.i64_in _ (by omega)
            have hde := decompose_any wr ao cap E wd s hl hle (hG3.out.below hbr.out).edges
            have hrl := fun V lvv bss (h : Below w3.heap.size w3 V) (hB : BagsA V V.heap.size lvv bss) (hl2 : bss.length ≤ 1000) (hl3 : ∀ b ∈ bss, b.names.length ≤ 1000 ∧ b.edges.length ≤ 400) (wd : Int) => rcheck_any V ao cap E bss lvv wd (hG3.out.below h).edges (by omega) hl hB hl2 hl3
            have hcl := fun V lvv bss (h : Below w3.heap.size w3 V) (hB : BagsA V V.heap.size lvv bss) (hl2 : bss.length ≤ 1048576) (hl3 : ∀ b ∈ bss, b.names.length ≤ 1048576 ∧ b.edges.length ≤ 1048576) (wd : Int) => check_any V ao cap E bss lvv wd hl hle (hG3.out.below h).edges hB hl2 hl3
            replace hrl := Lib.hid hrl
            replace hcl := Lib.hid hcl
            replace hde := Lib.hid hde
            replace hmk := Lib.hid hmk
            replace hq := Lib.hid hq
            go_wp2_with fail
            refine hde.out.mono ?_
            intro e w4 hdo
            obtain ⟨hb5, lv2, bs2, rfl, hBO, hck, hfew, h16⟩ := hdo.checked16 hm.out hwd1 (by rw [htn.out]; exact hwdn.out)
            have hb6 := hbr.out.trans (hb5.mono hbr.out.size)
            have hBA := hBO.reads hfew hsm.out
            rw [chk_ref] at hck
            have hpar := refChk_par hck
            have hL2 : ∀ b ∈ bs2, b.names.length ≤ 16 ∧ b.edges.length ≤ 16 := fun b hb => ⟨(hfew.2 b hb).1, (hfew.2 b hb).2.1⟩
            have hbd := Lib.hid hb6
            have hBd := hBA
            obtain ⟨al2, cl2, rfl, hbc⟩ := id hBA
            have hcc := Lib.hid (fun V (h : Below w4.heap.size w4 V) wd => hcl.out V _ bs2 (hbd.out.trans (h.mono hbd.out.size)) ((hBd.stay (stay_of_below h)).mono h.size) (by omega) (fun b hb => by have := hL2 b hb; omega) wd)
            have hrr := Lib.hid (fun V (h : Below w4.heap.size w4 V) wd => hrl.out V _ bs2 (hbd.out.trans (h.mono hbd.out.size)) ((hBd.stay (stay_of_below h)).mono h.size) (by omega) (fun b hb => by have := hL2 b hb; omega) wd)
            have hcn := Lib.hid (fun V (h : Below w4.heap.size w4 V) wd => hcl.out V (.slice none 0 0) [] (hbd.out.trans (h.mono hbd.out.size)) (bagsA_nil _ _) (by simp) (fun b hb => by simp at hb) wd)
            replace hck := Lib.hid hck
            replace hpar := Lib.hid hpar
            have hbc2 : Hid (∀ j (hj : j < bs2.length), ∃ b off, al2 = some ⟨b, off, none⟩ ∧ w4.cell? ⟨b, off + j * 3 + 2, none⟩ = some (.int .i64 bs2[j].parent)) := Lib.hid fun j hj => by
              obtain ⟨b, off, vv, ve, h1, -, -, -, h2, -, -⟩ := hbc j hj
              exact ⟨b, off, h1, h2⟩
            clear hBd hBA hbc hBO hfew hL2 hdo hde hrl hcl hb6 hb5 hbr
            have hk1c := Lib.hid (hcc.out w4 (Below.refl _ _) wd)
            rw [chk_ref, hck.out] at hk1c
            have z0 := (stay_of_below hbd.out).cell x0.out
            go_wp2_with fail
            refine hk1c.out.mono ?_
            rintro e w7 ⟨rfl, hb7⟩
            have hc7 := Lib.hid hb7
            have hk2c := Lib.hid (hrr.out w7 hc7.out wd)
            rw [hck.out] at hk2c
            replace z0 := (stay_of_below hb7).cell z0
            clear hb7 hk1c
            go_wp2_with fail
            refine hk2c.out.mono ?_
            rintro e w8 ⟨rfl, hb8⟩
            have hc8 := Lib.hid (hc7.out.trans (hb8.mono hc7.out.size))
            have hk3c := Lib.hid (hcc.out w8 hc8.out 0)
            rw [chk_ref, refChk_zero] at hk3c
            replace z0 := (stay_of_below hb8).cell z0
            clear hb8 hk2c hc7
            go_wp2_with fail
            refine hk3c.out.mono ?_
            rintro e w9 ⟨rfl, hb9⟩
            have hc9 := Lib.hid (hc8.out.trans (hb9.mono hc8.out.size))
            have hk4c := Lib.hid (hcn.out w9 hc9.out (n : Int))
            rw [chk_ref, refChk_nil] at hk4c
            replace z0 := (stay_of_below hb9).cell z0
            clear hb9 hk3c hc8
            go_wp2_with fail
            refine hk4c.out.mono ?_
            rintro e w10 ⟨rfl, hb10⟩
            have hc10 := Lib.hid (hc9.out.trans (hb10.mono hc9.out.size))
            clear hk4c hc9 hb10 z0
            have hbf := Lib.hid (hbd.out.trans (hc10.out.mono hbd.out.size))
            have hbc3 : Hid (∀ j (hj : j < bs2.length), ∃ b off, al2 = some ⟨b, off, none⟩ ∧ w10.cell? ⟨b, off + j * 3 + 2, none⟩ = some (.int .i64 bs2[j].parent)) := Lib.hid fun j hj => by
              obtain ⟨b, off, h1, h2⟩ := hbc2.out j hj
              exact ⟨b, off, h1, (stay_of_below hc10.out).cell h2⟩
            clear hc10 hcc hrr hcn hbd hbc2
            go_wp2
            go_loop [8] (fun i => ∃ j : Nat, 1 ≤ j ∧ j ≤ bs2.length + 1 ∧ i = .int .i64 (j : Int)) (fun i => bs2.length + 1 - (intOf i).toNat)
            case atStart => exact ⟨1, by omega, by omega, rfl⟩
            case round =>
              obtain ⟨j, hj0, hj, rfl⟩ := hrel
              by_cases hlj : j < bs2.length
              · have hji : (j : Int) < (bs2.length : Int) := by omega
                have hj1 := Lib.hid (show j + 1 ≤ bs2.length + 1 by omega)
                obtain ⟨b, off, rfl, hc⟩ := hbc3.out j hlj
                have hp := hpar.out j hlj
                generalize bs2[j].parent = p at *
                unfold parOK at hp
                rw [if_neg (by omega)] at hp
                obtain ⟨hp1, hp2⟩ := of_decide_eq_true hp
                have hp3 : ¬ p < 0 := by omega
                have hp4 : ¬ (j : Int) ≤ p := by omega
                clear hp
                go_wp2
                go_round
                case rel => exact ⟨j + 1, by omega, hj1.out, by go_num⟩
                case measure => have := hj1.out; simp [intOf]; omega
              · have hji : ¬ (j : Int) < (bs2.length : Int) := by omega
                go_wp2
                go_roundw
                case rel => exact ⟨k + 1, hk1.out, by go_num, hbf⟩
                case measure => have := hk1.out; simp [intOf]; omega
          · have hki : ¬ (k : Int) < 6 := by omega
            have hb5 := Lib.hid (hb4.out.trans (hbr.out.mono hb4.out.size))
            clear hbr
            go_wp2_with fail
            refine (wakes_any _).mono ?_
            rintro e wz ⟨rfl, hbz⟩
            have hbzz := Lib.hid (hb5.out.trans (hbz.mono hb5.out.size))
            clear hbz
            go_wp2
            go_ret
            exact ⟨rfl, hbzz.out⟩
end Go.Proofs.Ytnocncmjdhlmkaa.hyp
