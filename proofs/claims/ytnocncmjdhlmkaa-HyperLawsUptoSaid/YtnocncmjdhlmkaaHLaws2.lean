/- HyperLaws: the walk. -/
import Derived.Test.YtnocncmjdhlmkaaHLaws
namespace Go.Proofs.Ytnocncmjdhlmkaa.hyp
open Go.ChangeShapes Go.WideShapes Go.ChangeAt Go.RowKit kit
set_option linter.unusedVariables false
set_option linter.unusedSimpArgs false
theorem tail_ok {E : List (List ByteArray)} {n k : Nat} (hm : mayR nameB E = true) (hn : widN (setsR E) 0 (allR E) = n) (h8 : E.length < 8) (hk : k < E.length) :
    widR (E ++ [E[k].take (E[k].length / 2)]) = some n ∧ widR (E ++ [varsR E]) = some (if varsR E = [] then 0 else 1) := by
  have hp := may_parts hm
  have he := hp.2.1 _ (List.getElem_mem hk)
  obtain ⟨h1, h2⟩ := part_wid (p := E[k].take (E[k].length / 2)) hm h8 (List.getElem_mem hk) (fun v hv => List.mem_of_mem_take hv) (List.Nodup.sublist (List.take_sublist _ _) he.2.1) (by rw [List.length_take]; omega)
  obtain ⟨h3, h4⟩ := all_wid hm h8
  unfold widR
  rw [if_pos h1, if_pos h3, h2, h4, hn]
  exact ⟨rfl, rfl⟩
set_option maxRecDepth 100000 in
set_option maxHeartbeats 8000000 in
theorem laws_any (w : World) (v : Value) (ao : Option Addr) (cap : Nat) (E : List (List ByteArray)) (width seed : Int) (lv : Value) (bs : List BagD) (hG : GraphA w v ao cap E width seed lv bs) :
    Calls Try.prog 6 #[v] w fun e w' => e = .returned (.bool true) ∧ Below w.heap.size w w' := by
  obtain ⟨al, cl, rfl, -⟩ := bags_at hG.bags
  obtain ⟨hv, hE, hl, hle, -, -, -, -, hsw⟩ := id hG
  subst hv
  have hbw : Hid (Below w.heap.size w (w.alloc (.cells #[.slice ao E.length cap, .int .i64 width, .int .i64 seed, .slice al bs.length cl] 25))) := Lib.hid ((Below.refl _ _).alloc (Nat.le_refl _) _)
  have hq := Lib.hid (Blk.new w #[.slice ao E.length cap, .int .i64 width, .int .i64 seed, .slice al bs.length cl] 25)
  have hG1 := Lib.hid (hG.below hbw.out)
  obtain ⟨L, hL⟩ : ∃ L, lightB E bs = L := ⟨_, rfl⟩
  have hli := Lib.hid (light_any _ _ _ _ _ _ _ _ _ hG1.out)
  rw [hL] at hli
  replace hL := Lib.hid hL
  have y0 := hq.out.cell 0 rfl
  have y1 := hq.out.cell 1 rfl
  have y2 := hq.out.cell 2 rfl
  have y3 := hq.out.cell 3 rfl
  clear hG hE
  go_enter Try.func6, Try.ntmps6
  go_wp2_with fail
  generalize w.alloc (.cells #[.slice ao E.length cap, .int .i64 width, .int .i64 seed, .slice al bs.length cl] 25) = w1 at *
  refine hli.out.mono ?_
  rintro e w2 ⟨rfl, hb2⟩
  clear hli
  replace y0 := (stay_of_below hb2).cell y0
  replace y1 := (stay_of_below hb2).cell y1
  replace y2 := (stay_of_below hb2).cell y2
  replace y3 := (stay_of_below hb2).cell y3
  have hbw2 := Lib.hid (hbw.out.trans (hb2.mono hbw.out.size))
  have hG2 := Lib.hid (hG1.out.below hb2)
  clear hb2 hG1 hq hbw
  cases L with
  | false =>
    clear y0 y1 y2 y3 hG2
    go_wp2_with fail
    refine (wakes_any _).mono ?_
    rintro e w3 ⟨rfl, hb3⟩
    have hb4 := Lib.hid (hbw2.out.trans (hb3.mono hbw2.out.size))
    clear hb3
    go_wp2
    go_ret
    exact ⟨rfl, hb4.out⟩
  | true =>
    have hsz : sizeE E ≤ 400 := by have := of_decide_eq_true hL.out; omega
    have hE2 := Lib.hid hG2.out.edges
    have hwd := Lib.hid (width_any w2 ao cap E hl hle hE2.out)
    cases hm : mayR nameB E with
    | false =>
      have hwr : widR E = none := by unfold widR; rw [hm]; rfl
      replace hm := Lib.hid hm
      go_wp2_with fail
      refine hwd.out.mono ?_
      rintro e w3 ⟨hb3, rfl⟩
      rw [hwr]
      simp only []
      have hb4 := Lib.hid (hbw2.out.trans (hb3.mono hbw2.out.size))
      clear y0 y1 y2 y3 hG2 hE2 hwd hb3 hwr
      go_wp2_with fail
      refine (wakes_any _).mono ?_
      rintro e w4 ⟨rfl, hb5⟩
      have hb6 := Lib.hid (hb4.out.trans (hb5.mono hb4.out.size))
      clear hb5
      go_wp2
      go_ret
      exact ⟨rfl, hb6.out⟩
    | true =>
      obtain ⟨n, hn⟩ : ∃ n, widN (setsR E) 0 (allR E) = n := ⟨_, rfl⟩
      have hwr : Hid (widR E = some n) := Lib.hid (by unfold widR; rw [if_pos hm, hn])
      have hn8 : n ≤ E.length := by rw [← hn]; exact wid_few hm 0
      have hacy : Hid (acyR E = some (decide (n ≤ 1))) := Lib.hid (by
        unfold acyR
        rw [if_pos hm]
        congr 1
        apply decide_eq_decide.2
        rw [acy_iff 0 hm, hn])
      have hE8 := (may_parts hm).1
      replace hn := Lib.hid hn
      replace hm := Lib.hid hm
      go_wp2_with fail
      refine hwd.out.mono ?_
      rintro e w3 ⟨hb3, rfl⟩
      rw [hwr.out]
      simp only []
      have x0 := Lib.hid ((stay_of_below hb3).cell y0)
      have x2 := Lib.hid ((stay_of_below hb3).cell y2)
      have hE3 := Lib.hid ((hE2.out.stay (stay_of_below hb3)).mono hb3.size)
      have hb4 := Lib.hid (hbw2.out.trans (hb3.mono hbw2.out.size))
      clear hb3 hwd hE2 hG2 y0 y1 y2 y3 hbw2 hwr
      have z0 := x0.out
      have hac := Lib.hid (acyclic_any w3 ao cap E hl hle hE3.out)
      obtain ⟨a, ha⟩ : ∃ a, decide (n ≤ 1) = a := ⟨_, rfl⟩
      have hai : decide ((n : Int) ≤ 1) = a := by
        rw [← ha]
        by_cases h : n ≤ 1
        · rw [decide_eq_true h, decide_eq_true (by omega)]
        · rw [decide_eq_false h, decide_eq_false (by omega)]
      rw [ha] at hacy
      replace ha := Lib.hid ha
      go_wp2_with fail
      refine hac.out.mono ?_
      rintro e w4 ⟨hb5, rfl⟩
      rw [hacy.out]
      simp only []
      have z0 := (stay_of_below hb5).cell x0.out
      replace x2 := Lib.hid ((stay_of_below hb5).cell x2.out)
      replace x0 := Lib.hid z0
      have hE4 := Lib.hid ((hE3.out.stay (stay_of_below hb5)).mono hb5.size)
      have hb6 := Lib.hid (hb4.out.trans (hb5.mono hb4.out.size))
      clear hb5 hE3 hac hacy hb4
      have hnE : ¬ (E.length : Int) < (n : Int) := by omega
      go_wp2
      obtain ⟨ao2, cap2, hvv, hec⟩ := hE4.out.form
      obtain ⟨rfl, rfl⟩ : ao = ao2 ∧ cap = cap2 := by injection hvv with h1 h2 h3; exact ⟨h1, h3⟩
      replace hec := Lib.hid hec
      have hrl : E.reverse.length = E.length := List.length_reverse
      obtain ⟨i1, hi1, hy0, hy1, hy2⟩ := info_parts infoTexts2
      replace hi1 := Lib.hid hi1
      replace hy0 := Lib.hid hy0
      replace hy1 := Lib.hid hy1
      replace hy2 := Lib.hid hy2
      clear hvv
      go_loopw [7, 8] (fun v i wr => ∃ k : Nat, k ≤ E.length ∧ i = .int .i64 ((E.length : Int) - 1 - (k : Int)) ∧ Hid (BE w4 wr v (E.reverse.take k))) (fun _ i _ => (intOf i + 1).toNat)
      case atStart => exact ⟨0, by omega, by simp, Lib.hid ⟨Below.refl _ _, [], rfl, World.ownsRow_nil _ _ _ _, fun j h => by simp at h⟩⟩
      case round =>
        obtain ⟨k, hk, rfl, hB⟩ := hrel
        have hst := stay_of_below hB.out.below
        have z0r := hst.cell x0.out
        clear z0
        by_cases hlt : k < E.length
        · have hk1 := Lib.hid (show k + 1 ≤ E.length from hlt)
          obtain ⟨j, hj⟩ : ∃ j : Nat, (E.length : Int) - 1 - (k : Int) = (j : Int) := ⟨E.length - 1 - k, by omega⟩
          have hjl : j < E.length := by omega
          rw [hj]
          obtain ⟨b, off, u, rfl, -, hc, ht⟩ := hec.out j hjl
          replace hc := hst.cell hc
          have htk : E.reverse.take (k + 1) = E.reverse.take k ++ [E[j]] := by
            rw [List.take_succ_eq_append_getElem (by omega), List.getElem_reverse]
            congr 3
            omega
          have htl : (E.reverse.take k).length = k := by rw [List.length_take]; omega
          have hjk := Lib.hid hj
          have hji : (j : Int) < (E.length : Int) := by omega
          have hj0 : (0 : Int) ≤ (j : Int) := by omega
          obtain ⟨xs, -, hown, -⟩ := id hB.out.rows
          rw [htl] at hown
          have hsz4 := hB.out.below.size
          obtain ⟨au, cu, rfl, -⟩ := ht.form
          clear hj hst
          generalize E[j] = x at *
          generalize hF2 : E.reverse.take (k + 1) = F2 at *
          replace hF2 := Lib.hid hF2
          replace htk := Lib.hid htk
          clear hjl hlt
          go_wp2_with (at_builtin; refine wpList_append_own _ rfl _ _ 22 rfl w4.heap.size 35 i1 (.slice none 0 0) 1 24 Try.underlying22 hi1.out hy0.out hy1.out hy2.out rfl (by decide) _ k xs rfl (hown.alloc _) _ 1 _ [.slice au x.length cu] rfl rfl ?c1 ?c2 ?c3 ?c4 ?c5 ?c6)
          case c1 => exact news_one _ _ _
          case c2 => simp [Value.oneCell']
          case c3 => simp only [maxLen]; omega
          case c4 => omega
          case c5 => simp; omega
          case c6 =>
            intro v' w5 h1 h2 _
            have hB5 := hB.out.push (.cells #[.slice au x.length cu] 35) (by rw [htl]; exact hown) ht (by rw [htl]; exact h1) h2
            rw [← htk.out] at hB5
            replace hB5 := Lib.hid hB5
            clear hown h1 h2 hB
            go_wp2
            go_roundw
            case rel => exact ⟨k + 1, hk1.out, by have := hjk.out; congr 1 <;> (try push_cast) <;> (try omega), by rw [hF2.out]; exact hB5⟩
            case measure => have := hjk.out; have := hk1.out; simp [intOf] <;> omega
        · obtain rfl : k = E.length := by omega
          have hki : ¬ (0 : Int) ≤ (E.length : Int) - 1 - (E.length : Int) := by omega
          have htl2 : E.reverse.take E.length = E.reverse := List.take_of_length_le (by omega)
          rw [htl2] at hB
          have hEr := hB.out.read
          obtain ⟨av, cv, hve, -⟩ := hEr.form
          subst hve
          have hwr2 := Lib.hid (width_any wr av cv E.reverse (by omega) (fun e he => hle e (by simpa using he)) hEr)
          obtain ⟨hmr, hwn⟩ := same_wid (rev_same E) hm.out
          have hwr3 : Hid (widR E.reverse = some n) := Lib.hid (by unfold widR; rw [if_pos hmr, hwn 0, hn.out])
          have hb7 := Lib.hid (hb6.out.trans (hB.out.below.mono hb6.out.size))
          have hE5 := Lib.hid ((hE4.out.stay hst).mono hB.out.below.size)
          have x2r := hst.cell x2.out
          clear hB hEr hst hmr hwn hec hlt hk hE4 x0 x2 hb6
          rw [hrl]
          rw [hrl] at hwr2
          generalize wr = w5 at *
          go_wp2_with fail
          refine hwr2.out.mono ?_
          rintro e w6 ⟨hb8, rfl⟩
          rw [hwr3.out]
          simp only []
          replace z0r := (stay_of_below hb8).cell z0r
          replace x2r := (stay_of_below hb8).cell x2r
          have hE6 := Lib.hid ((hE5.out.stay (stay_of_below hb8)).mono hb8.size)
          have hb9 := Lib.hid (hb7.out.trans (hb8.mono hb7.out.size))
          clear hb8 hE5 hb7 hwr2 hwr3
          have htn : widN (setsR E) (turnOf seed) (allR E) = n := (wid_turn (good_of hm.out) _ 0).trans hn.out
          by_cases hn1 : n < 1
          · have hn1i : ¬ (1 : Int) ≤ (n : Int) := by omega
            by_cases he0 : E.length = 0
            · have hl0 : ((E.length : Int) == 0) = true := by rw [he0]; rfl
              replace he0 := Lib.hid he0
              go_wp2_with fail
              refine (wakes_any _).mono ?_
              rintro e wz ⟨rfl, hbz⟩
              have hbzz := Lib.hid (hb9.out.trans (hbz.mono hb9.out.size))
              clear hbz
              go_wp2
              go_ret
              exact ⟨rfl, hbzz.out⟩
            · have hl0 : ((E.length : Int) == 0) = false := beq_eq_false_iff_ne.2 (by omega)
              by_cases he8 : 8 ≤ E.length
              · have hl8 : (8 : Int) ≤ (E.length : Int) := by omega
                go_wp2_with fail
                refine (wakes_any _).mono ?_
                rintro e wz ⟨rfl, hbz⟩
                have hbzz := Lib.hid (hb9.out.trans (hbz.mono hb9.out.size))
                clear hbz
                go_wp2
                go_ret
                exact ⟨rfl, hbzz.out⟩
              · have hl8 : ¬ (8 : Int) ≤ (E.length : Int) := by omega
                have hwi := Lib.hid (within_num w6 seed E.length hsw (by omega) hl)
                go_wp2_with fail
                refine hwi.out.mono ?_
                rintro e wq ⟨⟨k, hk, rfl⟩, rfl⟩
                obtain ⟨hf1, hf2⟩ := tail_ok hm.out hn.out (by omega) hk
                have hsm : ∀ e ∈ E, ∀ s ∈ e, s.size ≤ maxLen := fun e he => by
                  obtain ⟨vs, h1, h2, h3⟩ := hE6.out
                  obtain ⟨j, hj, rfl⟩ := List.getElem_of_mem he
                  exact (h3 j hj (by omega)).size
                obtain ⟨ao3, cap3, hv3, hec3⟩ := hE6.out.form
                obtain ⟨b, off, u, hao3, -, hc, ht⟩ := hec3 k hk
                have hao : ao = some ⟨b, off, none⟩ := by injection hv3 with h1 h2 h3; exact h1.trans hao3
                obtain ⟨au, cu, rfl, -⟩ := ht.form
                have hpt := ht.part (m := E[k].length / 2) (by omega)
                have hcap : E[k].length / 2 ≤ cu := by
                  rcases ht.row with ⟨_, _, he, h1⟩ | ⟨_, _, c, he, -, h1, -⟩
                  · have := congrArg List.length h1; rw [textsV_length, List.length_nil] at this; omega
                  · injection he with e1 e2 e3
                    rw [textsV_length] at h1
                    omega
                have hx10 := hle _ (List.getElem_mem hk)
                clear hec3 hv3 hao3 ht hwi
                subst hao
                generalize E[k] = x at *
                obtain ⟨m, hmx⟩ : ∃ m, x.length / 2 = m := ⟨_, rfl⟩
                rw [hmx] at hpt hcap hf1
                have hm1 : (x.length : Int) / 2 = (m : Int) := by omega
                have hm2 : (x.length : Int).tdiv 2 = (m : Int) := by rw [Int.tdiv_eq_ediv_of_nonneg (by omega)]; exact hm1
                have hm3 : (m : Int) ≤ (cu : Int) := by omega
                have hm4 : IntKind.i64.wrap (m : Int) = (m : Int) := IntWalk.i64_in _ (by omega)
                have hk3 : (k : Int) < (E.length : Int) := by omega
                replace hmx := Lib.hid hmx
                have hbd : Hid (Below wq.heap.size wq wq.drew) := Lib.hid ⟨rfl, rfl, rfl, Nat.le_refl _, fun _ _ => rfl⟩
                go_wp2_with fail
                refine wp_region_held_drew (S := fun V => V.cell? ⟨w.heap.size, 0, none⟩ = some (.slice (some ⟨b, off, none⟩) E.length cap) ∧ V.cell? ⟨b, off + k, none⟩ = some (.slice au x.length cu)) (by kernel_rfl) ⟨z0r, hc⟩ (fun hS => ?_)
                have z0s := hS.1
                have hE20 := Lib.hid ((hE6.out.stay (stay_of_below hbd.out)).mono hbd.out.size)
                have hpt2 := Lib.hid ((hpt.stay (stay_of_below hbd.out)).mono hbd.out.size)
                have hb20 := Lib.hid (hb9.out.trans (hbd.out.mono hb9.out.size))
                clear hpt hbd z0r x2r hc hE6 hb9
                generalize wq.drew = V at *
                refine wpAnyH_take (i := 0) (v := ?_) rfl (by kernel_rfl) (by kernel_rfl) (by kernel_rfl) (fun _ _ _ h => h) (.inl ⟨by kernel_rfl, fun w' hS => ?_⟩) hS ?_
                rotate_left
                ·
                  obtain ⟨q1, q2⟩ := hS
                  go_simp
                  try with_reducible rfl
                simp only [List.getElem_toArray, List.getElem_cons_succ, List.getElem_cons_zero, Act.put, List.setIfInBounds_toArray, List.set_cons_zero, List.set_cons_succ]
                refine wpAnyH_take (i := 1) (v := ?_) rfl (by kernel_rfl) (by kernel_rfl) (by kernel_rfl) (fun _ _ _ h => h) (.inl ⟨by kernel_rfl, fun w' hS => ?_⟩) hS ?_
                rotate_left
                ·
                  obtain ⟨q1, q2⟩ := hS
                  go_simp
                  try with_reducible rfl
                simp only [List.getElem_toArray, List.getElem_cons_succ, List.getElem_cons_zero, Act.put, List.setIfInBounds_toArray, List.set_cons_zero, List.set_cons_succ]
                refine wpAnyH_take (i := 2) (v := ?_) rfl (by kernel_rfl) (by kernel_rfl) (by kernel_rfl) (fun _ _ _ h => h) (.inl ⟨by kernel_rfl, fun w' hS => ?_⟩) hS ?_
                rotate_left
                ·
                  obtain ⟨q1, q2⟩ := hS
                  go_simp
                  try with_reducible rfl
                simp only [List.getElem_toArray, List.getElem_cons_succ, List.getElem_cons_zero, Act.put, List.setIfInBounds_toArray, List.set_cons_zero, List.set_cons_succ]
                refine wpAnyH_take (i := 3) (v := ?_) rfl (by kernel_rfl) (by kernel_rfl) (by kernel_rfl) (fun _ _ _ h => h) (.inl ⟨by kernel_rfl, fun w' hS => ?_⟩) hS ?_
                rotate_left
                ·
                  obtain ⟨q1, q2⟩ := hS
                  go_simp
                  try with_reducible rfl
                simp only [List.getElem_toArray, List.getElem_cons_succ, List.getElem_cons_zero, Act.put, List.setIfInBounds_toArray, List.set_cons_zero, List.set_cons_succ]
                refine wpAnyH_take (i := 4) (v := ?_) rfl (by kernel_rfl) (by kernel_rfl) (by kernel_rfl) (fun _ _ _ h => h) (.inl ⟨by kernel_rfl, fun w' hS => ?_⟩) hS ?_
                rotate_left
                ·
                  obtain ⟨q1, q2⟩ := hS
                  go_simp
                  try with_reducible rfl
                simp only [List.getElem_toArray, List.getElem_cons_succ, List.getElem_cons_zero, Act.put, List.setIfInBounds_toArray, List.set_cons_zero, List.set_cons_succ]
                refine wpAnyH_take (i := 5) (v := ?_) rfl (by kernel_rfl) (by kernel_rfl) (by kernel_rfl) (fun _ _ _ h => h) (.inl ⟨by kernel_rfl, fun w' hS => ?_⟩) hS ?_
                rotate_left
                ·
                  obtain ⟨q1, q2⟩ := hS
                  go_simp
                  try with_reducible rfl
                simp only [List.getElem_toArray, List.getElem_cons_succ, List.getElem_cons_zero, Act.put, List.setIfInBounds_toArray, List.set_cons_zero, List.set_cons_succ]
                refine wpAnyH_take (i := 6) (v := ?_) rfl (by kernel_rfl) (by kernel_rfl) (by kernel_rfl) (fun _ _ _ h => h) (.inl ⟨by kernel_rfl, fun w' hS => ?_⟩) hS ?_
                rotate_left
                ·
                  obtain ⟨q1, q2⟩ := hS
                  go_simp
                  try with_reducible rfl
                simp only [List.getElem_toArray, List.getElem_cons_succ, List.getElem_cons_zero, Act.put, List.setIfInBounds_toArray, List.set_cons_zero, List.set_cons_succ]
                refine wpAnyH_take (i := 7) (v := ?_) rfl (by kernel_rfl) (by kernel_rfl) (by kernel_rfl) (fun _ _ _ h => h) (.inl ⟨by kernel_rfl, fun w' hS => ?_⟩) hS ?_
                rotate_left
                ·
                  obtain ⟨q1, q2⟩ := hS
                  go_simp
                  try with_reducible rfl
                simp only [List.getElem_toArray, List.getElem_cons_succ, List.getElem_cons_zero, Act.put, List.setIfInBounds_toArray, List.set_cons_zero, List.set_cons_succ]
                refine wpAnyH_take (i := 8) (v := ?_) rfl (by kernel_rfl) (by kernel_rfl) (by kernel_rfl) (fun _ _ _ h => h) (.inl ⟨by kernel_rfl, fun w' hS => ?_⟩) hS ?_
                rotate_left
                ·
                  obtain ⟨q1, q2⟩ := hS
                  go_simp
                  try with_reducible rfl
                simp only [List.getElem_toArray, List.getElem_cons_succ, List.getElem_cons_zero, Act.put, List.setIfInBounds_toArray, List.set_cons_zero, List.set_cons_succ]
                refine wpAnyH_take (i := 9) (v := ?_) rfl (by kernel_rfl) (by kernel_rfl) (by kernel_rfl) (fun _ _ _ h => h) (.inl ⟨by kernel_rfl, fun w' hS => ?_⟩) hS ?_
                rotate_left
                ·
                  obtain ⟨q1, q2⟩ := hS
                  go_simp
                  try with_reducible rfl
                simp only [List.getElem_toArray, List.getElem_cons_succ, List.getElem_cons_zero, Act.put, List.setIfInBounds_toArray, List.set_cons_zero, List.set_cons_succ]
                refine wpAnyH_take (i := 10) (v := ?_) rfl (by kernel_rfl) (by kernel_rfl) (by kernel_rfl) (fun _ _ _ h => h) (.inl ⟨by kernel_rfl, fun w' hS => ?_⟩) hS ?_
                rotate_left
                ·
                  obtain ⟨q1, q2⟩ := hS
                  go_simp
                  try with_reducible rfl
                simp only [List.getElem_toArray, List.getElem_cons_succ, List.getElem_cons_zero, Act.put, List.setIfInBounds_toArray, List.set_cons_zero, List.set_cons_succ]
                refine wpAnyH_take (i := 11) (v := ?_) rfl (by kernel_rfl) (by kernel_rfl) (by kernel_rfl) (fun _ _ _ h => h) (.inl ⟨by kernel_rfl, fun w' hS => ?_⟩) hS ?_
                rotate_left
                ·
                  obtain ⟨q1, q2⟩ := hS
                  go_simp
                  try with_reducible rfl
                simp only [List.getElem_toArray, List.getElem_cons_succ, List.getElem_cons_zero, Act.put, List.setIfInBounds_toArray, List.set_cons_zero, List.set_cons_succ]
                refine wpAnyH_take (i := 12) (v := ?_) rfl (by kernel_rfl) (by kernel_rfl) (by kernel_rfl) (fun _ _ _ h => h) (.inl ⟨by kernel_rfl, fun w' hS => ?_⟩) hS ?_
                rotate_left
                ·
                  obtain ⟨q1, q2⟩ := hS
                  go_simp
                  try with_reducible rfl
                simp only [List.getElem_toArray, List.getElem_cons_succ, List.getElem_cons_zero, Act.put, List.setIfInBounds_toArray, List.set_cons_zero, List.set_cons_succ]
                refine wpAnyH_take (i := 13) (v := ?_) rfl (by kernel_rfl) (by kernel_rfl) (by kernel_rfl) (fun _ _ _ h => h) (.inl ⟨by kernel_rfl, fun w' hS => ?_⟩) hS ?_
                rotate_left
                ·
                  obtain ⟨q1, q2⟩ := hS
                  go_simp
                  try with_reducible rfl
                simp only [List.getElem_toArray, List.getElem_cons_succ, List.getElem_cons_zero, Act.put, List.setIfInBounds_toArray, List.set_cons_zero, List.set_cons_succ]
                refine wpAnyH_done (by kernel_rfl) ?_ _
                clear hS hm1 hm2 hm4
                have hcp := Lib.hid (copied_any V (some ⟨b, off, none⟩) cap E hE20.out hl hle)
                go_wp2_with fail
                refine hcp.out.mono ?_
                rintro e wc1 ⟨vc, rfl, hCE⟩
                obtain ⟨xs, -, hown, -⟩ := id hCE.own
                have hszc := hCE.below.size
                clear hcp
                go_wp2_with (at_builtin; refine wpList_append_own _ rfl _ _ 22 rfl V.heap.size 35 i1 (.slice none 0 0) 1 24 Try.underlying22 hi1.out hy0.out hy1.out hy2.out rfl (by decide) _ E.length xs rfl (hown.alloc _) _ 1 _ [.slice au m cu] rfl rfl ?f1 ?f2 ?f3 ?f4 ?f5 ?f6)
                case f1 => exact news_one _ _ _
                case f2 => simp [Value.oneCell']
                case f3 => simp only [maxLen]; omega
                case f4 => omega
                case f5 => simp; omega
                case f6 =>
                  intro v9 w9 h1 h2 _
                  obtain ⟨hEA, hb9a⟩ := edges_snoc hCE (.cells #[.slice au m cu] 35) hown hpt2.out hsm h1 h2
                  obtain ⟨a9, c9, rfl, -⟩ := hEA.form
                  have hlen9 : (E ++ [x.take m]).length = E.length + 1 := by simp
                  have hwp := Lib.hid (width_any w9 a9 c9 _ (by omega) (fun e he => by
                    rcases List.mem_append.1 he with he | he
                    · exact hle e he
                    · rw [List.mem_singleton.1 he, List.length_take]; omega) hEA)
                  clear hEA hown h1 h2 hCE hszc
                  rw [hlen9] at hwp ⊢
                  go_wp2_with fail
                  refine hwp.out.mono ?_
                  rintro e w10 ⟨hb10a, rfl⟩
                  rw [hf1]
                  simp only []
                  have hbV := hb9a.trans (hb10a.mono hb9a.size)
                  have z0t := (stay_of_below hbV).cell z0s
                  have hE21 := Lib.hid ((hE20.out.stay (stay_of_below hbV)).mono hbV.size)
                  have hb21 := Lib.hid (hb20.out.trans (hbV.mono hb20.out.size))
                  clear hb9a hb10a hbV hwp hf1 hE20 hb20 z0s hpt2
                  have hvr := Lib.hid (vars_any w10 (some ⟨b, off, none⟩) cap E hE21.out (by omega) hl)
                  go_wp2_with fail
                  refine hvr.out.mono ?_
                  rintro e w11 ⟨vv, rfl, hW⟩
                  have z0u := (stay_of_below hW.below).cell z0t
                  have hE22 := Lib.hid ((hE21.out.stay (stay_of_below hW.below)).mono hW.below.size)
                  have hb22 := Lib.hid (hb21.out.trans (hW.below.mono hb21.out.size))
                  have hvt : TextsA w11 w11.heap.size vv (varsR E) := ⟨hW.row, fun s hs => by
                    obtain ⟨e, he, hv⟩ := vars_mem hs
                    exact hsm e he s hv⟩
                  obtain ⟨a12, c12, rfl, -⟩ := hvt.form
                  replace hvt := Lib.hid hvt
                  clear hW hvr z0t hE21 hb21
                  have hcp := Lib.hid (copied_any w11 (some ⟨b, off, none⟩) cap E hE22.out hl hle)
                  have hvl := (may_parts hm.out).2.2
                  go_wp2_with fail
                  refine hcp.out.mono ?_
                  rintro e wc2 ⟨vc2, rfl, hCE⟩
                  obtain ⟨xs2, -, hown, -⟩ := id hCE.own
                  have hszc := hCE.below.size
                  clear hcp
                  go_wp2_with (at_builtin; refine wpList_append_own _ rfl _ _ 22 rfl w11.heap.size 35 i1 (.slice none 0 0) 1 24 Try.underlying22 hi1.out hy0.out hy1.out hy2.out rfl (by decide) _ E.length xs2 rfl (hown.alloc _) _ 1 _ [.slice a12 (varsR E).length c12] rfl rfl ?g1 ?g2 ?g3 ?g4 ?g5 ?g6)
                  case g1 => exact news_one _ _ _
                  case g2 => simp [Value.oneCell']
                  case g3 => simp only [maxLen]; omega
                  case g4 => omega
                  case g5 => simp; omega
                  case g6 =>
                    intro v13 w13 h1 h2 _
                    obtain ⟨hEA, hb13a⟩ := edges_snoc hCE (.cells #[.slice a12 (varsR E).length c12] 35) hown hvt.out hsm h1 h2
                    obtain ⟨a13, c13, rfl, -⟩ := hEA.form
                    have hlen13 : (E ++ [varsR E]).length = E.length + 1 := by simp
                    have hwp := Lib.hid (width_any w13 a13 c13 _ (by omega) (fun e he => by
                      rcases List.mem_append.1 he with he | he
                      · exact hle e he
                      · rw [List.mem_singleton.1 he]; omega) hEA)
                    have hb23 := Lib.hid (hb22.out.trans (hb13a.mono hb22.out.size))
                    clear hEA hown h1 h2 hCE hszc hb13a hvt hE22 hb22 z0u
                    rw [hlen13] at hwp ⊢
                    go_wp2_with fail
                    refine hwp.out.mono ?_
                    rintro e w14 ⟨hb14a, rfl⟩
                    rw [hf2]
                    simp only []
                    have hb24 := Lib.hid (hb23.out.trans (hb14a.mono hb23.out.size))
                    clear hb14a hwp hf2 hb23
                    by_cases hv0 : varsR E = []
                    · have hvl0 : (((varsR E).length : Int) == 0) = true := by rw [hv0]; rfl
                      rw [if_pos hv0]
                      replace hv0 := Lib.hid hv0
                      go_wp2_with fail
                      refine (wakes_any _).mono ?_
                      rintro e wz ⟨rfl, hbz⟩
                      have hbzz := Lib.hid (hb24.out.trans (hbz.mono hb24.out.size))
                      clear hbz
                      go_wp2
                      go_ret
                      exact ⟨rfl, hbzz.out⟩
                    · have hvl0 : (((varsR E).length : Int) == 0) = false := beq_eq_false_iff_ne.2 (by have := List.length_pos_iff.2 hv0; omega)
                      rw [if_neg hv0]
                      replace hv0 := Lib.hid hv0
                      go_wp2_with fail
                      refine (wakes_any _).mono ?_
                      rintro e wz ⟨rfl, hbz⟩
                      have hbzz := Lib.hid (hb24.out.trans (hbz.mono hb24.out.size))
                      clear hbz
                      go_wp2
                      go_ret
                      exact ⟨rfl, hbzz.out⟩
          · have hn1i : (1 : Int) ≤ (n : Int) := by omega
            have hde := Lib.hid (decompose_any w6 ao cap E n seed hl hle hE6.out)
            go_wp2_with fail
            refine hde.out.mono ?_
            intro e w7 hdo
            obtain ⟨hb10, lv2, bs2, rfl, -⟩ := hdo.checked hm.out hn1i (by rw [htn]; omega)
            replace z0r := (stay_of_below hb10).cell z0r
            replace x2r := (stay_of_below hb10).cell x2r
            have hE7 := Lib.hid ((hE6.out.stay (stay_of_below hb10)).mono hb10.size)
            have hb11 := Lib.hid (hb9.out.trans (hb10.mono hb9.out.size))
            clear hde hdo hb10 hE6 hb9
            by_cases hn2 : n < 2
            · have hn2i : ¬ (2 : Int) ≤ (n : Int) := by omega
              by_cases he0 : E.length = 0
              · have hl0 : ((E.length : Int) == 0) = true := by rw [he0]; rfl
                replace he0 := Lib.hid he0
                go_wp2_with fail
                refine (wakes_any _).mono ?_
                rintro e wz ⟨rfl, hbz⟩
                have hbzz := Lib.hid (hb11.out.trans (hbz.mono hb11.out.size))
                clear hbz
                go_wp2
                go_ret
                exact ⟨rfl, hbzz.out⟩
              · have hl0 : ((E.length : Int) == 0) = false := beq_eq_false_iff_ne.2 (by omega)
                by_cases he8 : 8 ≤ E.length
                · have hl8 : (8 : Int) ≤ (E.length : Int) := by omega
                  go_wp2_with fail
                  refine (wakes_any _).mono ?_
                  rintro e wz ⟨rfl, hbz⟩
                  have hbzz := Lib.hid (hb11.out.trans (hbz.mono hb11.out.size))
                  clear hbz
                  go_wp2
                  go_ret
                  exact ⟨rfl, hbzz.out⟩
                · have hl8 : ¬ (8 : Int) ≤ (E.length : Int) := by omega
                  have hwi := Lib.hid (within_num w7 seed E.length hsw (by omega) hl)
                  go_wp2_with fail
                  refine hwi.out.mono ?_
                  rintro e wq ⟨⟨k, hk, rfl⟩, rfl⟩
                  obtain ⟨hf1, hf2⟩ := tail_ok hm.out hn.out (by omega) hk
                  have hsm : ∀ e ∈ E, ∀ s ∈ e, s.size ≤ maxLen := fun e he => by
                    obtain ⟨vs, h1, h2, h3⟩ := hE7.out
                    obtain ⟨j, hj, rfl⟩ := List.getElem_of_mem he
                    exact (h3 j hj (by omega)).size
                  obtain ⟨ao3, cap3, hv3, hec3⟩ := hE7.out.form
                  obtain ⟨b, off, u, hao3, -, hc, ht⟩ := hec3 k hk
                  have hao : ao = some ⟨b, off, none⟩ := by injection hv3 with h1 h2 h3; exact h1.trans hao3
                  obtain ⟨au, cu, rfl, -⟩ := ht.form
                  have hpt := ht.part (m := E[k].length / 2) (by omega)
                  have hcap : E[k].length / 2 ≤ cu := by
                    rcases ht.row with ⟨_, _, he, h1⟩ | ⟨_, _, c, he, -, h1, -⟩
                    · have := congrArg List.length h1; rw [textsV_length, List.length_nil] at this; omega
                    · injection he with e1 e2 e3
                      rw [textsV_length] at h1
                      omega
                  have hx10 := hle _ (List.getElem_mem hk)
                  clear hec3 hv3 hao3 ht hwi
                  subst hao
                  generalize E[k] = x at *
                  obtain ⟨m, hmx⟩ : ∃ m, x.length / 2 = m := ⟨_, rfl⟩
                  rw [hmx] at hpt hcap hf1
                  have hm1 : (x.length : Int) / 2 = (m : Int) := by omega
                  have hm2 : (x.length : Int).tdiv 2 = (m : Int) := by rw [Int.tdiv_eq_ediv_of_nonneg (by omega)]; exact hm1
                  have hm3 : (m : Int) ≤ (cu : Int) := by omega
                  have hm4 : IntKind.i64.wrap (m : Int) = (m : Int) := IntWalk.i64_in _ (by omega)
                  have hk3 : (k : Int) < (E.length : Int) := by omega
                  replace hmx := Lib.hid hmx
                  have hbd : Hid (Below wq.heap.size wq wq.drew) := Lib.hid ⟨rfl, rfl, rfl, Nat.le_refl _, fun _ _ => rfl⟩
                  go_wp2_with fail
                  refine wp_region_held_drew (S := fun V => V.cell? ⟨w.heap.size, 0, none⟩ = some (.slice (some ⟨b, off, none⟩) E.length cap) ∧ V.cell? ⟨b, off + k, none⟩ = some (.slice au x.length cu)) (by kernel_rfl) ⟨z0r, hc⟩ (fun hS => ?_)
                  have z0s := hS.1
                  have hE20 := Lib.hid ((hE7.out.stay (stay_of_below hbd.out)).mono hbd.out.size)
                  have hpt2 := Lib.hid ((hpt.stay (stay_of_below hbd.out)).mono hbd.out.size)
                  have hb20 := Lib.hid (hb11.out.trans (hbd.out.mono hb11.out.size))
                  clear hpt hbd z0r x2r hc hE7 hb11
                  generalize wq.drew = V at *
                  refine wpAnyH_take (i := 0) (v := ?_) rfl (by kernel_rfl) (by kernel_rfl) (by kernel_rfl) (fun _ _ _ h => h) (.inl ⟨by kernel_rfl, fun w' hS => ?_⟩) hS ?_
                  rotate_left
                  ·
                    obtain ⟨q1, q2⟩ := hS
                    go_simp
                    try with_reducible rfl
                  simp only [List.getElem_toArray, List.getElem_cons_succ, List.getElem_cons_zero, Act.put, List.setIfInBounds_toArray, List.set_cons_zero, List.set_cons_succ]
                  refine wpAnyH_take (i := 1) (v := ?_) rfl (by kernel_rfl) (by kernel_rfl) (by kernel_rfl) (fun _ _ _ h => h) (.inl ⟨by kernel_rfl, fun w' hS => ?_⟩) hS ?_
                  rotate_left
                  ·
                    obtain ⟨q1, q2⟩ := hS
                    go_simp
                    try with_reducible rfl
                  simp only [List.getElem_toArray, List.getElem_cons_succ, List.getElem_cons_zero, Act.put, List.setIfInBounds_toArray, List.set_cons_zero, List.set_cons_succ]
                  refine wpAnyH_take (i := 2) (v := ?_) rfl (by kernel_rfl) (by kernel_rfl) (by kernel_rfl) (fun _ _ _ h => h) (.inl ⟨by kernel_rfl, fun w' hS => ?_⟩) hS ?_
                  rotate_left
                  ·
                    obtain ⟨q1, q2⟩ := hS
                    go_simp
                    try with_reducible rfl
                  simp only [List.getElem_toArray, List.getElem_cons_succ, List.getElem_cons_zero, Act.put, List.setIfInBounds_toArray, List.set_cons_zero, List.set_cons_succ]
                  refine wpAnyH_take (i := 3) (v := ?_) rfl (by kernel_rfl) (by kernel_rfl) (by kernel_rfl) (fun _ _ _ h => h) (.inl ⟨by kernel_rfl, fun w' hS => ?_⟩) hS ?_
                  rotate_left
                  ·
                    obtain ⟨q1, q2⟩ := hS
                    go_simp
                    try with_reducible rfl
                  simp only [List.getElem_toArray, List.getElem_cons_succ, List.getElem_cons_zero, Act.put, List.setIfInBounds_toArray, List.set_cons_zero, List.set_cons_succ]
                  refine wpAnyH_take (i := 4) (v := ?_) rfl (by kernel_rfl) (by kernel_rfl) (by kernel_rfl) (fun _ _ _ h => h) (.inl ⟨by kernel_rfl, fun w' hS => ?_⟩) hS ?_
                  rotate_left
                  ·
                    obtain ⟨q1, q2⟩ := hS
                    go_simp
                    try with_reducible rfl
                  simp only [List.getElem_toArray, List.getElem_cons_succ, List.getElem_cons_zero, Act.put, List.setIfInBounds_toArray, List.set_cons_zero, List.set_cons_succ]
                  refine wpAnyH_take (i := 5) (v := ?_) rfl (by kernel_rfl) (by kernel_rfl) (by kernel_rfl) (fun _ _ _ h => h) (.inl ⟨by kernel_rfl, fun w' hS => ?_⟩) hS ?_
                  rotate_left
                  ·
                    obtain ⟨q1, q2⟩ := hS
                    go_simp
                    try with_reducible rfl
                  simp only [List.getElem_toArray, List.getElem_cons_succ, List.getElem_cons_zero, Act.put, List.setIfInBounds_toArray, List.set_cons_zero, List.set_cons_succ]
                  refine wpAnyH_take (i := 6) (v := ?_) rfl (by kernel_rfl) (by kernel_rfl) (by kernel_rfl) (fun _ _ _ h => h) (.inl ⟨by kernel_rfl, fun w' hS => ?_⟩) hS ?_
                  rotate_left
                  ·
                    obtain ⟨q1, q2⟩ := hS
                    go_simp
                    try with_reducible rfl
                  simp only [List.getElem_toArray, List.getElem_cons_succ, List.getElem_cons_zero, Act.put, List.setIfInBounds_toArray, List.set_cons_zero, List.set_cons_succ]
                  refine wpAnyH_take (i := 7) (v := ?_) rfl (by kernel_rfl) (by kernel_rfl) (by kernel_rfl) (fun _ _ _ h => h) (.inl ⟨by kernel_rfl, fun w' hS => ?_⟩) hS ?_
                  rotate_left
                  ·
                    obtain ⟨q1, q2⟩ := hS
                    go_simp
                    try with_reducible rfl
                  simp only [List.getElem_toArray, List.getElem_cons_succ, List.getElem_cons_zero, Act.put, List.setIfInBounds_toArray, List.set_cons_zero, List.set_cons_succ]
                  refine wpAnyH_take (i := 8) (v := ?_) rfl (by kernel_rfl) (by kernel_rfl) (by kernel_rfl) (fun _ _ _ h => h) (.inl ⟨by kernel_rfl, fun w' hS => ?_⟩) hS ?_
                  rotate_left
                  ·
                    obtain ⟨q1, q2⟩ := hS
                    go_simp
                    try with_reducible rfl
                  simp only [List.getElem_toArray, List.getElem_cons_succ, List.getElem_cons_zero, Act.put, List.setIfInBounds_toArray, List.set_cons_zero, List.set_cons_succ]
                  refine wpAnyH_take (i := 9) (v := ?_) rfl (by kernel_rfl) (by kernel_rfl) (by kernel_rfl) (fun _ _ _ h => h) (.inl ⟨by kernel_rfl, fun w' hS => ?_⟩) hS ?_
                  rotate_left
                  ·
                    obtain ⟨q1, q2⟩ := hS
                    go_simp
                    try with_reducible rfl
                  simp only [List.getElem_toArray, List.getElem_cons_succ, List.getElem_cons_zero, Act.put, List.setIfInBounds_toArray, List.set_cons_zero, List.set_cons_succ]
                  refine wpAnyH_take (i := 10) (v := ?_) rfl (by kernel_rfl) (by kernel_rfl) (by kernel_rfl) (fun _ _ _ h => h) (.inl ⟨by kernel_rfl, fun w' hS => ?_⟩) hS ?_
                  rotate_left
                  ·
                    obtain ⟨q1, q2⟩ := hS
                    go_simp
                    try with_reducible rfl
                  simp only [List.getElem_toArray, List.getElem_cons_succ, List.getElem_cons_zero, Act.put, List.setIfInBounds_toArray, List.set_cons_zero, List.set_cons_succ]
                  refine wpAnyH_take (i := 11) (v := ?_) rfl (by kernel_rfl) (by kernel_rfl) (by kernel_rfl) (fun _ _ _ h => h) (.inl ⟨by kernel_rfl, fun w' hS => ?_⟩) hS ?_
                  rotate_left
                  ·
                    obtain ⟨q1, q2⟩ := hS
                    go_simp
                    try with_reducible rfl
                  simp only [List.getElem_toArray, List.getElem_cons_succ, List.getElem_cons_zero, Act.put, List.setIfInBounds_toArray, List.set_cons_zero, List.set_cons_succ]
                  refine wpAnyH_take (i := 12) (v := ?_) rfl (by kernel_rfl) (by kernel_rfl) (by kernel_rfl) (fun _ _ _ h => h) (.inl ⟨by kernel_rfl, fun w' hS => ?_⟩) hS ?_
                  rotate_left
                  ·
                    obtain ⟨q1, q2⟩ := hS
                    go_simp
                    try with_reducible rfl
                  simp only [List.getElem_toArray, List.getElem_cons_succ, List.getElem_cons_zero, Act.put, List.setIfInBounds_toArray, List.set_cons_zero, List.set_cons_succ]
                  refine wpAnyH_take (i := 13) (v := ?_) rfl (by kernel_rfl) (by kernel_rfl) (by kernel_rfl) (fun _ _ _ h => h) (.inl ⟨by kernel_rfl, fun w' hS => ?_⟩) hS ?_
                  rotate_left
                  ·
                    obtain ⟨q1, q2⟩ := hS
                    go_simp
                    try with_reducible rfl
                  simp only [List.getElem_toArray, List.getElem_cons_succ, List.getElem_cons_zero, Act.put, List.setIfInBounds_toArray, List.set_cons_zero, List.set_cons_succ]
                  refine wpAnyH_done (by kernel_rfl) ?_ _
                  clear hS hm1 hm2 hm4
                  have hcp := Lib.hid (copied_any V (some ⟨b, off, none⟩) cap E hE20.out hl hle)
                  go_wp2_with fail
                  refine hcp.out.mono ?_
                  rintro e wc1 ⟨vc, rfl, hCE⟩
                  obtain ⟨xs, -, hown, -⟩ := id hCE.own
                  have hszc := hCE.below.size
                  clear hcp
                  go_wp2_with (at_builtin; refine wpList_append_own _ rfl _ _ 22 rfl V.heap.size 35 i1 (.slice none 0 0) 1 24 Try.underlying22 hi1.out hy0.out hy1.out hy2.out rfl (by decide) _ E.length xs rfl (hown.alloc _) _ 1 _ [.slice au m cu] rfl rfl ?j1 ?j2 ?j3 ?j4 ?j5 ?j6)
                  case j1 => exact news_one _ _ _
                  case j2 => simp [Value.oneCell']
                  case j3 => simp only [maxLen]; omega
                  case j4 => omega
                  case j5 => simp; omega
                  case j6 =>
                    intro v9 w9 h1 h2 _
                    obtain ⟨hEA, hb9a⟩ := edges_snoc hCE (.cells #[.slice au m cu] 35) hown hpt2.out hsm h1 h2
                    obtain ⟨a9, c9, rfl, -⟩ := hEA.form
                    have hlen9 : (E ++ [x.take m]).length = E.length + 1 := by simp
                    have hwp := Lib.hid (width_any w9 a9 c9 _ (by omega) (fun e he => by
                      rcases List.mem_append.1 he with he | he
                      · exact hle e he
                      · rw [List.mem_singleton.1 he, List.length_take]; omega) hEA)
                    clear hEA hown h1 h2 hCE hszc
                    rw [hlen9] at hwp ⊢
                    go_wp2_with fail
                    refine hwp.out.mono ?_
                    rintro e w10 ⟨hb10a, rfl⟩
                    rw [hf1]
                    simp only []
                    have hbV := hb9a.trans (hb10a.mono hb9a.size)
                    have z0t := (stay_of_below hbV).cell z0s
                    have hE21 := Lib.hid ((hE20.out.stay (stay_of_below hbV)).mono hbV.size)
                    have hb21 := Lib.hid (hb20.out.trans (hbV.mono hb20.out.size))
                    clear hb9a hb10a hbV hwp hf1 hE20 hb20 z0s hpt2
                    have hvr := Lib.hid (vars_any w10 (some ⟨b, off, none⟩) cap E hE21.out (by omega) hl)
                    go_wp2_with fail
                    refine hvr.out.mono ?_
                    rintro e w11 ⟨vv, rfl, hW⟩
                    have z0u := (stay_of_below hW.below).cell z0t
                    have hE22 := Lib.hid ((hE21.out.stay (stay_of_below hW.below)).mono hW.below.size)
                    have hb22 := Lib.hid (hb21.out.trans (hW.below.mono hb21.out.size))
                    have hvt : TextsA w11 w11.heap.size vv (varsR E) := ⟨hW.row, fun s hs => by
                      obtain ⟨e, he, hv⟩ := vars_mem hs
                      exact hsm e he s hv⟩
                    obtain ⟨a12, c12, rfl, -⟩ := hvt.form
                    replace hvt := Lib.hid hvt
                    clear hW hvr z0t hE21 hb21
                    have hcp := Lib.hid (copied_any w11 (some ⟨b, off, none⟩) cap E hE22.out hl hle)
                    have hvl := (may_parts hm.out).2.2
                    go_wp2_with fail
                    refine hcp.out.mono ?_
                    rintro e wc2 ⟨vc2, rfl, hCE⟩
                    obtain ⟨xs2, -, hown, -⟩ := id hCE.own
                    have hszc := hCE.below.size
                    clear hcp
                    go_wp2_with (at_builtin; refine wpList_append_own _ rfl _ _ 22 rfl w11.heap.size 35 i1 (.slice none 0 0) 1 24 Try.underlying22 hi1.out hy0.out hy1.out hy2.out rfl (by decide) _ E.length xs2 rfl (hown.alloc _) _ 1 _ [.slice a12 (varsR E).length c12] rfl rfl ?l1 ?l2 ?l3 ?l4 ?l5 ?l6)
                    case l1 => exact news_one _ _ _
                    case l2 => simp [Value.oneCell']
                    case l3 => simp only [maxLen]; omega
                    case l4 => omega
                    case l5 => simp; omega
                    case l6 =>
                      intro v13 w13 h1 h2 _
                      obtain ⟨hEA, hb13a⟩ := edges_snoc hCE (.cells #[.slice a12 (varsR E).length c12] 35) hown hvt.out hsm h1 h2
                      obtain ⟨a13, c13, rfl, -⟩ := hEA.form
                      have hlen13 : (E ++ [varsR E]).length = E.length + 1 := by simp
                      have hwp := Lib.hid (width_any w13 a13 c13 _ (by omega) (fun e he => by
                        rcases List.mem_append.1 he with he | he
                        · exact hle e he
                        · rw [List.mem_singleton.1 he]; omega) hEA)
                      have hb23 := Lib.hid (hb22.out.trans (hb13a.mono hb22.out.size))
                      clear hEA hown h1 h2 hCE hszc hb13a hvt hE22 hb22 z0u
                      rw [hlen13] at hwp ⊢
                      go_wp2_with fail
                      refine hwp.out.mono ?_
                      rintro e w14 ⟨hb14a, rfl⟩
                      rw [hf2]
                      simp only []
                      have hb24 := Lib.hid (hb23.out.trans (hb14a.mono hb23.out.size))
                      clear hb14a hwp hf2 hb23
                      by_cases hv0 : varsR E = []
                      · have hvl0 : (((varsR E).length : Int) == 0) = true := by rw [hv0]; rfl
                        rw [if_pos hv0]
                        replace hv0 := Lib.hid hv0
                        go_wp2_with fail
                        refine (wakes_any _).mono ?_
                        rintro e wz ⟨rfl, hbz⟩
                        have hbzz := Lib.hid (hb24.out.trans (hbz.mono hb24.out.size))
                        clear hbz
                        go_wp2
                        go_ret
                        exact ⟨rfl, hbzz.out⟩
                      · have hvl0 : (((varsR E).length : Int) == 0) = false := beq_eq_false_iff_ne.2 (by have := List.length_pos_iff.2 hv0; omega)
                        rw [if_neg hv0]
                        replace hv0 := Lib.hid hv0
                        go_wp2_with fail
                        refine (wakes_any _).mono ?_
                        rintro e wz ⟨rfl, hbz⟩
                        have hbzz := Lib.hid (hb24.out.trans (hbz.mono hb24.out.size))
                        clear hbz
                        go_wp2
                        go_ret
                        exact ⟨rfl, hbzz.out⟩
            · have hn2i : (2 : Int) ≤ (n : Int) := by omega
              have hde := Lib.hid (decompose_any w7 ao cap E ((n : Int) - 1) seed hl hle hE7.out)
              go_wp2_with fail
              refine hde.out.mono ?_
              intro e w8 hdo
              obtain ⟨hb12, h | h | h⟩ := hdo
              · exact absurd ⟨hm.out, by omega⟩ h.1
              · obtain ⟨-, -, rfl⟩ := h
                replace z0r := (stay_of_below hb12).cell z0r
                replace x2r := (stay_of_below hb12).cell x2r
                have hE8 := Lib.hid ((hE7.out.stay (stay_of_below hb12)).mono hb12.size)
                have hb13 := Lib.hid (hb11.out.trans (hb12.mono hb11.out.size))
                clear hde hb12 hE7 hb11
                by_cases he0 : E.length = 0
                · have hl0 : ((E.length : Int) == 0) = true := by rw [he0]; rfl
                  replace he0 := Lib.hid he0
                  go_wp2_with fail
                  refine (wakes_any _).mono ?_
                  rintro e wz ⟨rfl, hbz⟩
                  have hbzz := Lib.hid (hb13.out.trans (hbz.mono hb13.out.size))
                  clear hbz
                  go_wp2
                  go_ret
                  exact ⟨rfl, hbzz.out⟩
                · have hl0 : ((E.length : Int) == 0) = false := beq_eq_false_iff_ne.2 (by omega)
                  by_cases he8 : 8 ≤ E.length
                  · have hl8 : (8 : Int) ≤ (E.length : Int) := by omega
                    go_wp2_with fail
                    refine (wakes_any _).mono ?_
                    rintro e wz ⟨rfl, hbz⟩
                    have hbzz := Lib.hid (hb13.out.trans (hbz.mono hb13.out.size))
                    clear hbz
                    go_wp2
                    go_ret
                    exact ⟨rfl, hbzz.out⟩
                  · have hl8 : ¬ (8 : Int) ≤ (E.length : Int) := by omega
                    have hwi := Lib.hid (within_num w8 seed E.length hsw (by omega) hl)
                    go_wp2_with fail
                    refine hwi.out.mono ?_
                    rintro e wq ⟨⟨k, hk, rfl⟩, rfl⟩
                    obtain ⟨hf1, hf2⟩ := tail_ok hm.out hn.out (by omega) hk
                    have hsm : ∀ e ∈ E, ∀ s ∈ e, s.size ≤ maxLen := fun e he => by
                      obtain ⟨vs, h1, h2, h3⟩ := hE8.out
                      obtain ⟨j, hj, rfl⟩ := List.getElem_of_mem he
                      exact (h3 j hj (by omega)).size
                    obtain ⟨ao3, cap3, hv3, hec3⟩ := hE8.out.form
                    obtain ⟨b, off, u, hao3, -, hc, ht⟩ := hec3 k hk
                    have hao : ao = some ⟨b, off, none⟩ := by injection hv3 with h1 h2 h3; exact h1.trans hao3
                    obtain ⟨au, cu, rfl, -⟩ := ht.form
                    have hpt := ht.part (m := E[k].length / 2) (by omega)
                    have hcap : E[k].length / 2 ≤ cu := by
                      rcases ht.row with ⟨_, _, he, h1⟩ | ⟨_, _, c, he, -, h1, -⟩
                      · have := congrArg List.length h1; rw [textsV_length, List.length_nil] at this; omega
                      · injection he with e1 e2 e3
                        rw [textsV_length] at h1
                        omega
                    have hx10 := hle _ (List.getElem_mem hk)
                    clear hec3 hv3 hao3 ht hwi
                    subst hao
                    generalize E[k] = x at *
                    obtain ⟨m, hmx⟩ : ∃ m, x.length / 2 = m := ⟨_, rfl⟩
                    rw [hmx] at hpt hcap hf1
                    have hm1 : (x.length : Int) / 2 = (m : Int) := by omega
                    have hm2 : (x.length : Int).tdiv 2 = (m : Int) := by rw [Int.tdiv_eq_ediv_of_nonneg (by omega)]; exact hm1
                    have hm3 : (m : Int) ≤ (cu : Int) := by omega
                    have hm4 : IntKind.i64.wrap (m : Int) = (m : Int) := IntWalk.i64_in _ (by omega)
                    have hk3 : (k : Int) < (E.length : Int) := by omega
                    replace hmx := Lib.hid hmx
                    have hbd : Hid (Below wq.heap.size wq wq.drew) := Lib.hid ⟨rfl, rfl, rfl, Nat.le_refl _, fun _ _ => rfl⟩
                    go_wp2_with fail
                    refine wp_region_held_drew (S := fun V => V.cell? ⟨w.heap.size, 0, none⟩ = some (.slice (some ⟨b, off, none⟩) E.length cap) ∧ V.cell? ⟨b, off + k, none⟩ = some (.slice au x.length cu)) (by kernel_rfl) ⟨z0r, hc⟩ (fun hS => ?_)
                    have z0s := hS.1
                    have hE20 := Lib.hid ((hE8.out.stay (stay_of_below hbd.out)).mono hbd.out.size)
                    have hpt2 := Lib.hid ((hpt.stay (stay_of_below hbd.out)).mono hbd.out.size)
                    have hb20 := Lib.hid (hb13.out.trans (hbd.out.mono hb13.out.size))
                    clear hpt hbd z0r x2r hc hE8 hb13
                    generalize wq.drew = V at *
                    refine wpAnyH_take (i := 0) (v := ?_) rfl (by kernel_rfl) (by kernel_rfl) (by kernel_rfl) (fun _ _ _ h => h) (.inl ⟨by kernel_rfl, fun w' hS => ?_⟩) hS ?_
                    rotate_left
                    ·
                      obtain ⟨q1, q2⟩ := hS
                      go_simp
                      try with_reducible rfl
                    simp only [List.getElem_toArray, List.getElem_cons_succ, List.getElem_cons_zero, Act.put, List.setIfInBounds_toArray, List.set_cons_zero, List.set_cons_succ]
                    refine wpAnyH_take (i := 1) (v := ?_) rfl (by kernel_rfl) (by kernel_rfl) (by kernel_rfl) (fun _ _ _ h => h) (.inl ⟨by kernel_rfl, fun w' hS => ?_⟩) hS ?_
                    rotate_left
                    ·
                      obtain ⟨q1, q2⟩ := hS
                      go_simp
                      try with_reducible rfl
                    simp only [List.getElem_toArray, List.getElem_cons_succ, List.getElem_cons_zero, Act.put, List.setIfInBounds_toArray, List.set_cons_zero, List.set_cons_succ]
                    refine wpAnyH_take (i := 2) (v := ?_) rfl (by kernel_rfl) (by kernel_rfl) (by kernel_rfl) (fun _ _ _ h => h) (.inl ⟨by kernel_rfl, fun w' hS => ?_⟩) hS ?_
                    rotate_left
                    ·
                      obtain ⟨q1, q2⟩ := hS
                      go_simp
                      try with_reducible rfl
                    simp only [List.getElem_toArray, List.getElem_cons_succ, List.getElem_cons_zero, Act.put, List.setIfInBounds_toArray, List.set_cons_zero, List.set_cons_succ]
                    refine wpAnyH_take (i := 3) (v := ?_) rfl (by kernel_rfl) (by kernel_rfl) (by kernel_rfl) (fun _ _ _ h => h) (.inl ⟨by kernel_rfl, fun w' hS => ?_⟩) hS ?_
                    rotate_left
                    ·
                      obtain ⟨q1, q2⟩ := hS
                      go_simp
                      try with_reducible rfl
                    simp only [List.getElem_toArray, List.getElem_cons_succ, List.getElem_cons_zero, Act.put, List.setIfInBounds_toArray, List.set_cons_zero, List.set_cons_succ]
                    refine wpAnyH_take (i := 4) (v := ?_) rfl (by kernel_rfl) (by kernel_rfl) (by kernel_rfl) (fun _ _ _ h => h) (.inl ⟨by kernel_rfl, fun w' hS => ?_⟩) hS ?_
                    rotate_left
                    ·
                      obtain ⟨q1, q2⟩ := hS
                      go_simp
                      try with_reducible rfl
                    simp only [List.getElem_toArray, List.getElem_cons_succ, List.getElem_cons_zero, Act.put, List.setIfInBounds_toArray, List.set_cons_zero, List.set_cons_succ]
                    refine wpAnyH_take (i := 5) (v := ?_) rfl (by kernel_rfl) (by kernel_rfl) (by kernel_rfl) (fun _ _ _ h => h) (.inl ⟨by kernel_rfl, fun w' hS => ?_⟩) hS ?_
                    rotate_left
                    ·
                      obtain ⟨q1, q2⟩ := hS
                      go_simp
                      try with_reducible rfl
                    simp only [List.getElem_toArray, List.getElem_cons_succ, List.getElem_cons_zero, Act.put, List.setIfInBounds_toArray, List.set_cons_zero, List.set_cons_succ]
                    refine wpAnyH_take (i := 6) (v := ?_) rfl (by kernel_rfl) (by kernel_rfl) (by kernel_rfl) (fun _ _ _ h => h) (.inl ⟨by kernel_rfl, fun w' hS => ?_⟩) hS ?_
                    rotate_left
                    ·
                      obtain ⟨q1, q2⟩ := hS
                      go_simp
                      try with_reducible rfl
                    simp only [List.getElem_toArray, List.getElem_cons_succ, List.getElem_cons_zero, Act.put, List.setIfInBounds_toArray, List.set_cons_zero, List.set_cons_succ]
                    refine wpAnyH_take (i := 7) (v := ?_) rfl (by kernel_rfl) (by kernel_rfl) (by kernel_rfl) (fun _ _ _ h => h) (.inl ⟨by kernel_rfl, fun w' hS => ?_⟩) hS ?_
                    rotate_left
                    ·
                      obtain ⟨q1, q2⟩ := hS
                      go_simp
                      try with_reducible rfl
                    simp only [List.getElem_toArray, List.getElem_cons_succ, List.getElem_cons_zero, Act.put, List.setIfInBounds_toArray, List.set_cons_zero, List.set_cons_succ]
                    refine wpAnyH_take (i := 8) (v := ?_) rfl (by kernel_rfl) (by kernel_rfl) (by kernel_rfl) (fun _ _ _ h => h) (.inl ⟨by kernel_rfl, fun w' hS => ?_⟩) hS ?_
                    rotate_left
                    ·
                      obtain ⟨q1, q2⟩ := hS
                      go_simp
                      try with_reducible rfl
                    simp only [List.getElem_toArray, List.getElem_cons_succ, List.getElem_cons_zero, Act.put, List.setIfInBounds_toArray, List.set_cons_zero, List.set_cons_succ]
                    refine wpAnyH_take (i := 9) (v := ?_) rfl (by kernel_rfl) (by kernel_rfl) (by kernel_rfl) (fun _ _ _ h => h) (.inl ⟨by kernel_rfl, fun w' hS => ?_⟩) hS ?_
                    rotate_left
                    ·
                      obtain ⟨q1, q2⟩ := hS
                      go_simp
                      try with_reducible rfl
                    simp only [List.getElem_toArray, List.getElem_cons_succ, List.getElem_cons_zero, Act.put, List.setIfInBounds_toArray, List.set_cons_zero, List.set_cons_succ]
                    refine wpAnyH_take (i := 10) (v := ?_) rfl (by kernel_rfl) (by kernel_rfl) (by kernel_rfl) (fun _ _ _ h => h) (.inl ⟨by kernel_rfl, fun w' hS => ?_⟩) hS ?_
                    rotate_left
                    ·
                      obtain ⟨q1, q2⟩ := hS
                      go_simp
                      try with_reducible rfl
                    simp only [List.getElem_toArray, List.getElem_cons_succ, List.getElem_cons_zero, Act.put, List.setIfInBounds_toArray, List.set_cons_zero, List.set_cons_succ]
                    refine wpAnyH_take (i := 11) (v := ?_) rfl (by kernel_rfl) (by kernel_rfl) (by kernel_rfl) (fun _ _ _ h => h) (.inl ⟨by kernel_rfl, fun w' hS => ?_⟩) hS ?_
                    rotate_left
                    ·
                      obtain ⟨q1, q2⟩ := hS
                      go_simp
                      try with_reducible rfl
                    simp only [List.getElem_toArray, List.getElem_cons_succ, List.getElem_cons_zero, Act.put, List.setIfInBounds_toArray, List.set_cons_zero, List.set_cons_succ]
                    refine wpAnyH_take (i := 12) (v := ?_) rfl (by kernel_rfl) (by kernel_rfl) (by kernel_rfl) (fun _ _ _ h => h) (.inl ⟨by kernel_rfl, fun w' hS => ?_⟩) hS ?_
                    rotate_left
                    ·
                      obtain ⟨q1, q2⟩ := hS
                      go_simp
                      try with_reducible rfl
                    simp only [List.getElem_toArray, List.getElem_cons_succ, List.getElem_cons_zero, Act.put, List.setIfInBounds_toArray, List.set_cons_zero, List.set_cons_succ]
                    refine wpAnyH_take (i := 13) (v := ?_) rfl (by kernel_rfl) (by kernel_rfl) (by kernel_rfl) (fun _ _ _ h => h) (.inl ⟨by kernel_rfl, fun w' hS => ?_⟩) hS ?_
                    rotate_left
                    ·
                      obtain ⟨q1, q2⟩ := hS
                      go_simp
                      try with_reducible rfl
                    simp only [List.getElem_toArray, List.getElem_cons_succ, List.getElem_cons_zero, Act.put, List.setIfInBounds_toArray, List.set_cons_zero, List.set_cons_succ]
                    refine wpAnyH_done (by kernel_rfl) ?_ _
                    clear hS hm1 hm2 hm4
                    have hcp := Lib.hid (copied_any V (some ⟨b, off, none⟩) cap E hE20.out hl hle)
                    go_wp2_with fail
                    refine hcp.out.mono ?_
                    rintro e wc1 ⟨vc, rfl, hCE⟩
                    obtain ⟨xs, -, hown, -⟩ := id hCE.own
                    have hszc := hCE.below.size
                    clear hcp
                    go_wp2_with (at_builtin; refine wpList_append_own _ rfl _ _ 22 rfl V.heap.size 35 i1 (.slice none 0 0) 1 24 Try.underlying22 hi1.out hy0.out hy1.out hy2.out rfl (by decide) _ E.length xs rfl (hown.alloc _) _ 1 _ [.slice au m cu] rfl rfl ?o1 ?o2 ?o3 ?o4 ?o5 ?o6)
                    case o1 => exact news_one _ _ _
                    case o2 => simp [Value.oneCell']
                    case o3 => simp only [maxLen]; omega
                    case o4 => omega
                    case o5 => simp; omega
                    case o6 =>
                      intro v9 w9 h1 h2 _
                      obtain ⟨hEA, hb9a⟩ := edges_snoc hCE (.cells #[.slice au m cu] 35) hown hpt2.out hsm h1 h2
                      obtain ⟨a9, c9, rfl, -⟩ := hEA.form
                      have hlen9 : (E ++ [x.take m]).length = E.length + 1 := by simp
                      have hwp := Lib.hid (width_any w9 a9 c9 _ (by omega) (fun e he => by
                        rcases List.mem_append.1 he with he | he
                        · exact hle e he
                        · rw [List.mem_singleton.1 he, List.length_take]; omega) hEA)
                      clear hEA hown h1 h2 hCE hszc
                      rw [hlen9] at hwp ⊢
                      go_wp2_with fail
                      refine hwp.out.mono ?_
                      rintro e w10 ⟨hb10a, rfl⟩
                      rw [hf1]
                      simp only []
                      have hbV := hb9a.trans (hb10a.mono hb9a.size)
                      have z0t := (stay_of_below hbV).cell z0s
                      have hE21 := Lib.hid ((hE20.out.stay (stay_of_below hbV)).mono hbV.size)
                      have hb21 := Lib.hid (hb20.out.trans (hbV.mono hb20.out.size))
                      clear hb9a hb10a hbV hwp hf1 hE20 hb20 z0s hpt2
                      have hvr := Lib.hid (vars_any w10 (some ⟨b, off, none⟩) cap E hE21.out (by omega) hl)
                      go_wp2_with fail
                      refine hvr.out.mono ?_
                      rintro e w11 ⟨vv, rfl, hW⟩
                      have z0u := (stay_of_below hW.below).cell z0t
                      have hE22 := Lib.hid ((hE21.out.stay (stay_of_below hW.below)).mono hW.below.size)
                      have hb22 := Lib.hid (hb21.out.trans (hW.below.mono hb21.out.size))
                      have hvt : TextsA w11 w11.heap.size vv (varsR E) := ⟨hW.row, fun s hs => by
                        obtain ⟨e, he, hv⟩ := vars_mem hs
                        exact hsm e he s hv⟩
                      obtain ⟨a12, c12, rfl, -⟩ := hvt.form
                      replace hvt := Lib.hid hvt
                      clear hW hvr z0t hE21 hb21
                      have hcp := Lib.hid (copied_any w11 (some ⟨b, off, none⟩) cap E hE22.out hl hle)
                      have hvl := (may_parts hm.out).2.2
                      go_wp2_with fail
                      refine hcp.out.mono ?_
                      rintro e wc2 ⟨vc2, rfl, hCE⟩
                      obtain ⟨xs2, -, hown, -⟩ := id hCE.own
                      have hszc := hCE.below.size
                      clear hcp
                      go_wp2_with (at_builtin; refine wpList_append_own _ rfl _ _ 22 rfl w11.heap.size 35 i1 (.slice none 0 0) 1 24 Try.underlying22 hi1.out hy0.out hy1.out hy2.out rfl (by decide) _ E.length xs2 rfl (hown.alloc _) _ 1 _ [.slice a12 (varsR E).length c12] rfl rfl ?r1 ?r2 ?r3 ?r4 ?r5 ?r6)
                      case r1 => exact news_one _ _ _
                      case r2 => simp [Value.oneCell']
                      case r3 => simp only [maxLen]; omega
                      case r4 => omega
                      case r5 => simp; omega
                      case r6 =>
                        intro v13 w13 h1 h2 _
                        obtain ⟨hEA, hb13a⟩ := edges_snoc hCE (.cells #[.slice a12 (varsR E).length c12] 35) hown hvt.out hsm h1 h2
                        obtain ⟨a13, c13, rfl, -⟩ := hEA.form
                        have hlen13 : (E ++ [varsR E]).length = E.length + 1 := by simp
                        have hwp := Lib.hid (width_any w13 a13 c13 _ (by omega) (fun e he => by
                          rcases List.mem_append.1 he with he | he
                          · exact hle e he
                          · rw [List.mem_singleton.1 he]; omega) hEA)
                        have hb23 := Lib.hid (hb22.out.trans (hb13a.mono hb22.out.size))
                        clear hEA hown h1 h2 hCE hszc hb13a hvt hE22 hb22 z0u
                        rw [hlen13] at hwp ⊢
                        go_wp2_with fail
                        refine hwp.out.mono ?_
                        rintro e w14 ⟨hb14a, rfl⟩
                        rw [hf2]
                        simp only []
                        have hb24 := Lib.hid (hb23.out.trans (hb14a.mono hb23.out.size))
                        clear hb14a hwp hf2 hb23
                        by_cases hv0 : varsR E = []
                        · have hvl0 : (((varsR E).length : Int) == 0) = true := by rw [hv0]; rfl
                          rw [if_pos hv0]
                          replace hv0 := Lib.hid hv0
                          go_wp2_with fail
                          refine (wakes_any _).mono ?_
                          rintro e wz ⟨rfl, hbz⟩
                          have hbzz := Lib.hid (hb24.out.trans (hbz.mono hb24.out.size))
                          clear hbz
                          go_wp2
                          go_ret
                          exact ⟨rfl, hbzz.out⟩
                        · have hvl0 : (((varsR E).length : Int) == 0) = false := beq_eq_false_iff_ne.2 (by have := List.length_pos_iff.2 hv0; omega)
                          rw [if_neg hv0]
                          replace hv0 := Lib.hid hv0
                          go_wp2_with fail
                          refine (wakes_any _).mono ?_
                          rintro e wz ⟨rfl, hbz⟩
                          have hbzz := Lib.hid (hb24.out.trans (hbz.mono hb24.out.size))
                          clear hbz
                          go_wp2
                          go_ret
                          exact ⟨rfl, hbzz.out⟩
              · have h2 := h.2.1
                rw [htn] at h2
                omega
end Go.Proofs.Ytnocncmjdhlmkaa.hyp
