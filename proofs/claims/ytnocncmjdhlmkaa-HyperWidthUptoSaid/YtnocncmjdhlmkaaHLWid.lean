/- HyperWidth: the walk. -/
import Derived.Test.YtnocncmjdhlmkaaHRAcy
import Derived.Test.YtnocncmjdhlmkaaHREq
import Derived.Test.YtnocncmjdhlmkaaHRef4
import Derived.Test.YtnocncmjdhlmkaaHLawsA
import Derived.Test.YtnocncmjdhlmkaaHWake
namespace Go.Proofs.Ytnocncmjdhlmkaa.hyp
open Go.ChangeShapes Go.WideShapes Go.ChangeAt Go.RowKit kit
set_option linter.unusedVariables false
set_option linter.unusedSimpArgs false
theorem CE.read {V w : World} {v : Value} {E : List (List ByteArray)} (h : CE V w v E) (hs : ∀ e ∈ E, ∀ s ∈ e, s.size ≤ maxLen) : EdgesA w w.heap.size v E := h.own.read hs
theorem light_size {E : List (List ByteArray)} {bs : List BagD} (h : lightB E bs = true) : sizeE E ≤ 400 ∧ E.length ≤ 400 ∧ ∀ e ∈ E, e.length ≤ 400 := by
  have h1 : sizeE E + sizeB bs ≤ 400 := of_decide_eq_true h
  refine ⟨by omega, ?_, fun e he => ?_⟩
  · have : E.length ≤ sizeE E := by
      clear h h1
      unfold sizeE
      induction E with
      | nil => simp
      | cons a L ih => simp; omega
    omega
  · obtain ⟨i, hi, rfl⟩ := List.getElem_of_mem he
    have := edge_le hi
    omega
theorem EdgesA.tiny {w : World} {B : Nat} {v : Value} {E : List (List ByteArray)} (h : EdgesA w B v E) : ∀ e ∈ E, ∀ s ∈ e, s.size ≤ maxLen := fun e he => by
  obtain ⟨vs, h1, h2, h3⟩ := h
  obtain ⟨j, hj, rfl⟩ := List.getElem_of_mem he
  exact (h3 j hj (by omega)).size
set_option maxRecDepth 100000 in
set_option maxHeartbeats 8000000 in
theorem hwidth_any (w : World) (v : Value) (ao : Option Addr) (cap : Nat) (E : List (List ByteArray)) (width seed : Int) (lv : Value) (bs : List BagD) (hG : GraphA w v ao cap E width seed lv bs) :
    Calls Try.prog 3 #[v] w fun e w' => e = .returned (.bool true) ∧ Below w.heap.size w w' := by
  obtain ⟨al, cl, rfl, -⟩ := bags_at hG.bags
  obtain ⟨hv, -, hl, hle, -, hbl, hbs, hww, hsw⟩ := id hG
  subst hv
  have hbw : Hid (Below w.heap.size w (w.alloc (.cells #[.slice ao E.length cap, .int .i64 width, .int .i64 seed, .slice al bs.length cl] 25))) := Lib.hid ((Below.refl _ _).alloc (Nat.le_refl _) _)
  have hq := Lib.hid (Blk.new w #[.slice ao E.length cap, .int .i64 width, .int .i64 seed, .slice al bs.length cl] 25)
  have hG1 := Lib.hid (hG.below hbw.out)
  obtain ⟨L, hL⟩ : ∃ L, lightB E bs = L := ⟨_, rfl⟩
  have hli := Lib.hid (light_any _ _ _ _ _ _ _ _ _ hG1.out)
  rw [hL] at hli
  replace hL := Lib.hid hL
  have y0 := hq.out.cell 0 rfl
  have y1 := hq.out.cell 1 rfl
  have y2 := hq.out.cell 2 rfl
  have y3 := hq.out.cell 3 rfl
  clear hG
  go_enter Try.func3, Try.ntmps3
  go_wp2_with fail
  generalize w.alloc (.cells #[.slice ao E.length cap, .int .i64 width, .int .i64 seed, .slice al bs.length cl] 25) = w1 at *
  refine hli.out.mono ?_
  rintro e w2 ⟨rfl, hb2⟩
  clear hli
  replace y0 := (stay_of_below hb2).cell y0
  replace y1 := (stay_of_below hb2).cell y1
  replace y2 := (stay_of_below hb2).cell y2
  replace y3 := (stay_of_below hb2).cell y3
  have hbw2 := Lib.hid (hbw.out.trans (hb2.mono hbw.out.size))
  have hG2 := Lib.hid (hG1.out.below hb2)
  clear hb2 hG1 hq hbw
  cases L with
  | false =>
    clear y0 y1 y2 y3 hG2
    go_wp2_with fail
    refine (wakes_any _).mono ?_
    rintro e wz ⟨rfl, hbz⟩
    have hbzz := Lib.hid (hbw2.out.trans (hbz.mono hbw2.out.size))
    clear hbz
    go_wp2
    go_ret
    exact ⟨rfl, hbzz.out⟩
  | true =>
    obtain ⟨hs1, hs2, hs3⟩ := light_size hL.out
    have hcp := Lib.hid (copied_any w2 ao cap E hG2.out.edges hl hle)
    have hsm := Lib.hid hG2.out.edges.tiny
    clear y1 y2 y3
    go_wp2_with fail
    refine hcp.out.mono ?_
    rintro e w3 ⟨cv, rfl, hCE⟩
    have hEc := hCE.read hsm.out
    have hb3 := Lib.hid (hbw2.out.trans (hCE.below.mono hbw2.out.size))
    have hG3 := Lib.hid (hG2.out.below hCE.below)
    replace y0 := (stay_of_below hCE.below).cell y0
    obtain ⟨ac, cc, rfl, -⟩ := hEc.form
    have hwd := Lib.hid (width_any w3 ac cc E hl hle hEc)
    replace hEc := Lib.hid hEc
    clear hCE hcp hG2 hbw2
    go_wp2_with fail
    refine hwd.out.mono ?_
    rintro e w4 ⟨hb4a, he4⟩
    have hb4 := Lib.hid (hb3.out.trans (hb4a.mono hb3.out.size))
    have hG4 := Lib.hid (hG3.out.below hb4a)
    have hEc4 := Lib.hid ((hEc.out.stay (stay_of_below hb4a)).mono hb4a.size)
    replace y0 := (stay_of_below hb4a).cell y0
    have hac := Lib.hid (acyclic_any w4 ac cc E hl hle hEc4.out)
    clear hb4a hwd hb3 hG3 hEc
    obtain ⟨wn, we, hwe⟩ : ∃ (wn we : Int), e = .returned (.tuple #[.int .i64 wn, .int .i64 we]) ∧ (if mayR nameB E = true then wn = (widN (setsR E) 0 (allR E) : Nat) ∧ we = 0 else wn = 0 ∧ we = 1) := by
      rw [he4]
      unfold widR
      cases mayR nameB E with
      | true => exact ⟨_, _, rfl, rfl, rfl⟩
      | false => exact ⟨_, _, rfl, rfl, rfl⟩
    obtain ⟨rfl, hwe⟩ := hwe
    replace hwe := Lib.hid hwe
    clear he4
    go_wp2_with fail
    refine hac.out.mono ?_
    rintro e w5 ⟨hb5a, he5⟩
    have hb5 := Lib.hid (hb4.out.trans (hb5a.mono hb4.out.size))
    have hG5 := Lib.hid (hG4.out.below hb5a)
    have hEc5 := Lib.hid ((hEc4.out.stay (stay_of_below hb5a)).mono hb5a.size)
    have x0 := Lib.hid ((stay_of_below hb5a).cell y0)
    clear hb5a hac hb4 hG4 hEc4 y0
    obtain ⟨aq, ae, hae⟩ : ∃ (aq : Bool) (ae : Int), e = .returned (.tuple #[.bool aq, .int .i64 ae]) ∧ (if mayR nameB E = true then aq = decide (gyo (varsR E).length (setsR E) = []) ∧ ae = 0 else aq = false ∧ ae = 1) := by
      rw [he5]
      unfold acyR
      cases mayR nameB E with
      | true => exact ⟨_, _, rfl, rfl, rfl⟩
      | false => exact ⟨_, _, rfl, rfl, rfl⟩
    obtain ⟨rfl, hae⟩ := hae
    replace hae := Lib.hid hae
    clear he5
    go_wp2
    go_loopw [8] (fun i wr => ∃ k : Nat, k ≤ E.length ∧ i = .int .i64 (k : Int) ∧ Hid (Below w5.heap.size w5 wr)) (fun i _ => E.length - (intOf i).toNat)
    case atStart => exact ⟨0, by omega, rfl, Lib.hid (Below.refl _ _)⟩
    case round =>
      obtain ⟨k, hk, rfl, hbr⟩ := hrel
      by_cases hlt : k < E.length
      · have hki : (k : Int) < (E.length : Int) := by omega
        have hk1 := Lib.hid (show k + 1 ≤ E.length from hlt)
        obtain ⟨ao2, cap2, hv2, hec⟩ := hG5.out.edges.form
        obtain ⟨rfl, rfl⟩ : ao = ao2 ∧ cap = cap2 := by injection hv2 with h1 h2 h3; exact ⟨h1, h3⟩
        obtain ⟨ac2, cc2, hv3, hec3⟩ := hEc5.out.form
        obtain ⟨rfl, rfl⟩ : ac = ac2 ∧ cc = cc2 := by injection hv3 with h1 h2 h3; exact ⟨h1, h3⟩
        obtain ⟨b, off, u, rfl, -, z1, ht1⟩ := hec k hlt
        obtain ⟨b2, off2, u2, rfl, -, z2, ht2⟩ := hec3 k hlt
        have hxl := hle _ (List.getElem_mem hlt)
        have hbd : Hid (Below w5.heap.size w5 wr.drew) := Lib.hid (hbr.out.trans ⟨rfl, rfl, rfl, Nat.le_refl _, fun _ _ => rfl⟩)
        generalize E[k] = x at *
        have hq1 := Lib.hid (fun V (h : Below w5.heap.size w5 V) => eqT_same V u2 u x ((ht2.stay (stay_of_below h)).mono h.size) ((ht1.stay (stay_of_below h)).mono h.size) hxl)
        clear hec hec3 hv2 hv3 ht1 ht2 hbr
        go_wp2_with fail
        refine wp_region_held_drew (S := fun V => Below w5.heap.size w5 V) (by kernel_rfl) hbd.out (fun hS => ?_)
        generalize wr.drew = V0 at *
        refine wpAnyH_take (i := 0) (v := ?_) rfl (by kernel_rfl) (by kernel_rfl) (by kernel_rfl) (fun _ _ _ h => h) (.inl ⟨by kernel_rfl, fun w' hS => ?_⟩) hS ?_
        rotate_left
        ·
          have q0 := (stay_of_below hS).cell x0.out; have q1 := (stay_of_below hS).cell z1; have q2 := (stay_of_below hS).cell z2
          go_simp
          try with_reducible rfl
        simp only [List.getElem_toArray, List.getElem_cons_succ, List.getElem_cons_zero, Act.put, List.setIfInBounds_toArray, List.set_cons_zero, List.set_cons_succ]
        refine wpAnyH_take (i := 1) (v := ?_) rfl (by kernel_rfl) (by kernel_rfl) (by kernel_rfl) (fun _ _ _ h => h) (.inl ⟨by kernel_rfl, fun w' hS => ?_⟩) hS ?_
        rotate_left
        ·
          have q0 := (stay_of_below hS).cell x0.out; have q1 := (stay_of_below hS).cell z1; have q2 := (stay_of_below hS).cell z2
          go_simp
          try with_reducible rfl
        simp only [List.getElem_toArray, List.getElem_cons_succ, List.getElem_cons_zero, Act.put, List.setIfInBounds_toArray, List.set_cons_zero, List.set_cons_succ]
        refine wpAnyH_take (i := 2) (v := ?_) rfl (by kernel_rfl) (by kernel_rfl) (by kernel_rfl) (fun _ _ _ h => h) (.inl ⟨by kernel_rfl, fun w' hS => ?_⟩) hS ?_
        rotate_left
        ·
          have q0 := (stay_of_below hS).cell x0.out; have q1 := (stay_of_below hS).cell z1; have q2 := (stay_of_below hS).cell z2
          go_simp
          try with_reducible rfl
        simp only [List.getElem_toArray, List.getElem_cons_succ, List.getElem_cons_zero, Act.put, List.setIfInBounds_toArray, List.set_cons_zero, List.set_cons_succ]
        refine wpAnyH_take (i := 3) (v := ?_) rfl (by kernel_rfl) (by kernel_rfl) (by kernel_rfl) (fun _ _ _ h => h) (.inl ⟨by kernel_rfl, fun w' hS => ?_⟩) hS ?_
        rotate_left
        ·
          have q0 := (stay_of_below hS).cell x0.out; have q1 := (stay_of_below hS).cell z1; have q2 := (stay_of_below hS).cell z2
          go_simp
          try with_reducible rfl
        simp only [List.getElem_toArray, List.getElem_cons_succ, List.getElem_cons_zero, Act.put, List.setIfInBounds_toArray, List.set_cons_zero, List.set_cons_succ]
        refine wpAnyH_take (i := 4) (v := ?_) rfl (by kernel_rfl) (by kernel_rfl) (by kernel_rfl) (fun _ _ _ h => h) (.inl ⟨by kernel_rfl, fun w' hS => ?_⟩) hS ?_
        rotate_left
        ·
          have q0 := (stay_of_below hS).cell x0.out; have q1 := (stay_of_below hS).cell z1; have q2 := (stay_of_below hS).cell z2
          go_simp
          try with_reducible rfl
        simp only [List.getElem_toArray, List.getElem_cons_succ, List.getElem_cons_zero, Act.put, List.setIfInBounds_toArray, List.set_cons_zero, List.set_cons_succ]
        refine wpAnyH_take (i := 5) (v := ?_) rfl (by kernel_rfl) (by kernel_rfl) (by kernel_rfl) (fun _ _ _ h => h) (.inl ⟨by kernel_rfl, fun w' hS => ?_⟩) hS ?_
        rotate_left
        ·
          have q0 := (stay_of_below hS).cell x0.out; have q1 := (stay_of_below hS).cell z1; have q2 := (stay_of_below hS).cell z2
          go_simp
          try with_reducible rfl
        simp only [List.getElem_toArray, List.getElem_cons_succ, List.getElem_cons_zero, Act.put, List.setIfInBounds_toArray, List.set_cons_zero, List.set_cons_succ]
        refine wpAnyH_take (i := 6) (v := ?_) rfl (by kernel_rfl) (by kernel_rfl) (by kernel_rfl) (fun _ _ _ h => h) (.inl ⟨by kernel_rfl, fun w' hS => ?_⟩) hS ?_
        rotate_left
        ·
          have q0 := (stay_of_below hS).cell x0.out; have q1 := (stay_of_below hS).cell z1; have q2 := (stay_of_below hS).cell z2
          go_simp
          try with_reducible rfl
        simp only [List.getElem_toArray, List.getElem_cons_succ, List.getElem_cons_zero, Act.put, List.setIfInBounds_toArray, List.set_cons_zero, List.set_cons_succ]
        refine wpAnyH_take (i := 7) (v := ?_) rfl (by kernel_rfl) (by kernel_rfl) (by kernel_rfl) (fun _ _ _ h => h) (.inl ⟨by kernel_rfl, fun w' hS => ?_⟩) hS ?_
        rotate_left
        ·
          have q0 := (stay_of_below hS).cell x0.out; have q1 := (stay_of_below hS).cell z1; have q2 := (stay_of_below hS).cell z2
          go_simp
          try with_reducible rfl
        simp only [List.getElem_toArray, List.getElem_cons_succ, List.getElem_cons_zero, Act.put, List.setIfInBounds_toArray, List.set_cons_zero, List.set_cons_succ]
        refine wpAnyH_take (i := 8) (v := ?_) rfl (by kernel_rfl) (by kernel_rfl) (by kernel_rfl) (fun _ _ _ h => h) (.inl ⟨by kernel_rfl, fun w' hS => ?_⟩) hS ?_
        rotate_left
        ·
          have q0 := (stay_of_below hS).cell x0.out; have q1 := (stay_of_below hS).cell z1; have q2 := (stay_of_below hS).cell z2
          go_simp
          try with_reducible rfl
        simp only [List.getElem_toArray, List.getElem_cons_succ, List.getElem_cons_zero, Act.put, List.setIfInBounds_toArray, List.set_cons_zero, List.set_cons_succ]
        have hc1 := Lib.hid (hq1.out V0 hbd.out)
        refine wpAnyH_ready (rs := [9]) (by kernel_rfl) (by simp) ?_
        refine AllReadyH.cons rfl (fun K hK => ?_) AllReadyH.nil
        clear hS
        go_simp
        refine (hc1.out).mono ?_
        rintro e w7 ⟨rfl, hb7⟩
        go_wp2_with fail
        refine hK.out _ _ (hbd.out.trans (hb7.mono hbd.out.size)) (fun hS => ?_)
        clear hK K
        try simp only [List.getElem_toArray, List.getElem_cons_succ, List.getElem_cons_zero, Act.put, List.setIfInBounds_toArray, List.set_cons_zero, List.set_cons_succ]
        have hbd7 := Lib.hid (hbd.out.trans (hb7.mono hbd.out.size))
        refine wpAnyH_take (i := 10) (v := ?_) rfl (by kernel_rfl) (by kernel_rfl) (by kernel_rfl) (fun _ _ _ h => h) (.inl ⟨by kernel_rfl, fun w' hS => ?_⟩) hS ?_
        rotate_left
        ·
          skip
          go_simp
          try with_reducible rfl
        simp only [List.getElem_toArray, List.getElem_cons_succ, List.getElem_cons_zero, Act.put, List.setIfInBounds_toArray, List.set_cons_zero, List.set_cons_succ]
        refine wpAnyH_done (by kernel_rfl) ?_ _
        clear hS
        go_wp2
        go_roundw
        case rel => exact ⟨k + 1, hk1.out, by go_num, hbd7⟩
        case measure => have := hk1.out; simp [intOf]; omega
      · have hki : ¬ (k : Int) < (E.length : Int) := by omega
        have hb6 := Lib.hid (hb5.out.trans (hbr.out.mono hb5.out.size))
        have hG6 := Lib.hid (hG5.out.below hbr.out)
        have z0 := (stay_of_below hbr.out).cell x0.out
        have hmy := Lib.hid (may_any wr ao cap E hG6.out.edges (by omega) hl)
        clear hbr hb5 hG5 hEc5 x0 hlt
        go_wp2_with fail
        refine hmy.out.mono ?_
        rintro e w7 ⟨rfl, hb7⟩
        have hb8 := Lib.hid (hb6.out.trans (hb7.mono hb6.out.size))
        have hG7 := Lib.hid (hG6.out.below hb7)
        have hwe2 := hwe.out
        have hae2 := hae.out
        replace z0 := (stay_of_below hb7).cell z0
        clear hmy hb7 hb6 hG6 hwe hae
        cases hm : mayR nameB E with
        | false =>
          rw [hm, if_neg (by simp)] at hwe2 hae2
          obtain ⟨rfl, rfl⟩ := hwe2
          obtain ⟨rfl, rfl⟩ := hae2
          clear hm
          go_wp2_with fail
          refine (wakes_any _).mono ?_
          rintro e wz ⟨rfl, hbz⟩
          have hbzz := Lib.hid (hb8.out.trans (hbz.mono hb8.out.size))
          clear hbz
          go_wp2
          go_ret
          exact ⟨rfl, hbzz.out⟩
        | true =>
          rw [hm, if_pos rfl] at hwe2 hae2
          obtain ⟨rfl, rfl⟩ := hwe2
          obtain ⟨hq, rfl⟩ := hae2
          have hrw := Lib.hid (rwidth_any w7 ao cap E hG7.out.edges (by omega) hl hm)
          have hra := Lib.hid (fun V (h : Below w7.heap.size w7 V) => racyclic_any V ao cap E (hG7.out.below h).edges (by omega) hl hm)
          rw [← hq] at hra
          generalize widN (setsR E) 0 (allR E) = n at *
          replace hq := Lib.hid hq
          replace hm := Lib.hid hm
          go_wp2_with fail
          refine hrw.out.mono ?_
          rintro e w9 ⟨rfl, hb9⟩
          have hb10 := Lib.hid (hb8.out.trans (hb9.mono hb8.out.size))
          have hra2 := Lib.hid (hra.out w9 hb9)
          replace z0 := (stay_of_below hb9).cell z0
          clear hra hrw hb9
          go_wp2_with fail
          refine hra2.out.mono ?_
          rintro e w11 ⟨rfl, hb11⟩
          have hb12 := Lib.hid (hb10.out.trans (hb11.mono hb10.out.size))
          clear hra2 hb11
          cases aq with
          | true =>
            go_wp2_with fail
            refine (wakes_any _).mono ?_
            rintro e wz ⟨rfl, hbz⟩
            have hbzz := Lib.hid (hb12.out.trans (hbz.mono hb12.out.size))
            clear hbz
            go_wp2
            go_ret
            exact ⟨rfl, hbzz.out⟩
          | false =>
            go_wp2_with fail
            refine (wakes_any _).mono ?_
            rintro e wz ⟨rfl, hbz⟩
            have hbzz := Lib.hid (hb12.out.trans (hbz.mono hb12.out.size))
            clear hbz
            go_wp2
            go_ret
            exact ⟨rfl, hbzz.out⟩
end Go.Proofs.Ytnocncmjdhlmkaa.hyp
