/- The reference: bagged. -/
import Derived.Test.YtnocncmjdhlmkaaHRefPA
import Derived.Test.YtnocncmjdhlmkaaHRefPA
namespace Go.Proofs.Ytnocncmjdhlmkaa.hyp
open Go.ChangeShapes Go.WideShapes Go.ChangeAt Go.RowKit kit
set_option linter.unusedVariables false
set_option linter.unusedSimpArgs false
theorem cell_lt {w : World} {k i : Nat} {v : Value} (h : w.cell? ⟨k, i, none⟩ = some v) : k < w.heap.size := by
  obtain ⟨o, ho, _⟩ := cells_of_cell h
  exact (Array.getElem?_eq_some_iff.1 ho).1
theorem covered_succ {E : List (List ByteArray)} {es : List Int} {j : Nat} (h : j < es.length) : coveredR E (es.take (j + 1)) = coveredR E (es.take j) ++ E.getD es[j].toNat [] := by
  unfold coveredR
  rw [List.take_succ_eq_append_getElem h, List.flatMap_append]
  simp
theorem covered_len {E : List (List ByteArray)} (hE : ∀ e ∈ E, e.length ≤ 400) : ∀ es : List Int, (coveredR E es).length ≤ es.length * 400
  | [] => by simp [coveredR]
  | e :: es => by
    have ih := covered_len hE es
    have h1 : (E.getD e.toNat []).length ≤ 400 := by
      rw [List.getD_eq_getElem?_getD]
      cases hx : E[e.toNat]? with
      | none => simp
      | some y => exact hE y (List.mem_of_getElem? hx)
    have h2 : coveredR E (e :: es) = E.getD e.toNat [] ++ coveredR E es := rfl
    rw [h2, List.length_append, List.length_cons, Nat.add_mul]
    omega
theorem OW.stepN {e : TypeId} {W W1 w' : World} {B : Nat} {v v' : Value} {L M : List Value} (h : OW e W B v L W1) (hB : B ≤ W1.heap.size) (h1 : w'.ownsRow B e 1 v' (L.length + M.length) (L ++ M)) (h2 : W1.grownBy w' v.ownBlock) : OW e W B v' (L ++ M) w' :=
  ⟨h.below.grown h2 hB (fun k hk => (h.own.lt k hk).1), by rw [List.length_append]; exact h1⟩
set_option maxRecDepth 100000 in
set_option maxHeartbeats 8000000 in
theorem bagged_any (w : World) (ao : Option Addr) (cap : Nat) (E : List (List ByteArray)) (hE : EdgesA w w.heap.size (.slice ao E.length cap) E) (an : Option Addr) (cn : Nat) (ns : List ByteArray) (hn : TextsA w w.heap.size (.slice an ns.length cn) ns) (vv ve : Value) (p : Int) (names : List ByteArray) (edges : List Int) (hv : TextsA w w.heap.size vv names) (he : RowA w w.heap.size ve (numsV edges))
    (i : Nat) (width : Int) (hi : i ≤ 1000) (hnl : ns.length ≤ 1000) (hvl : names.length ≤ 1000) (hel : edges.length ≤ 400) (hEl : E.length ≤ 8) (hEe : ∀ e ∈ E, e.length ≤ 400) :
    Calls Try.prog 42 #[.slice ao E.length cap, .slice an ns.length cn, .agg #[vv, ve, .int .i64 p], .int .i64 (i : Int), .int .i64 width] w fun e w' => e = .returned (.bool (baggedR E ns ⟨names, edges, p⟩ i width)) ∧ Below w.heap.size w w' := by
  obtain ⟨q, hq⟩ : ∃ q, baggedR E ns ⟨names, edges, p⟩ i width = q := ⟨_, rfl⟩
  rw [hq]
  obtain ⟨av, cv, rfl, hvc⟩ := hv.form
  obtain ⟨ae, ce, rfl, -, hnc⟩ := he.form
  rw [numsV_length]
  obtain ⟨ao2, cap2, hvv, hec0⟩ := hE.form
  obtain ⟨rfl, rfl⟩ : ao = ao2 ∧ cap = cap2 := by injection hvv with h1 h2 h3; exact ⟨h1, h3⟩
  obtain ⟨an2, cn2, hvv2, hnn⟩ := hn.form
  obtain ⟨rfl, rfl⟩ : an = an2 ∧ cn = cn2 := by injection hvv2 with h1 h2 h3; exact ⟨h1, h3⟩
  unfold baggedR at hq
  simp only [Bool.and_assoc] at hq
  have hq2 : ((parOK i p && decide ((edges.length : Int) ≤ width)) && (riseB ns names (-1) && (riseE E.length edges (-1) && withinB names (coveredR E edges)))) = q := by rw [← hq]; simp only [Bool.and_assoc]
  have hbad : Hid ((parOK i p && decide ((edges.length : Int) ≤ width)) = false → q = false) := Lib.hid fun h => by rw [← hq2, h]; rfl
  have hq3 : Hid ((parOK i p && decide ((edges.length : Int) ≤ width)) = true → (riseB ns names (-1) && (riseE E.length edges (-1) && withinB names (coveredR E edges))) = q) := Lib.hid fun h => by rw [← hq2, h, Bool.true_and]
  have hbw : Hid (Below w.heap.size w (w.alloc (.cells #[.slice av names.length cv, .slice ae edges.length ce, .int .i64 p] 45))) := Lib.hid ((Below.refl _ _).alloc (Nat.le_refl _) _)
  have hst := stay_of_below hbw.out
  have hqB := Blk.new w #[.slice av names.length cv, .slice ae edges.length ce, .int .i64 p] 45
  have y0 := hqB.cell 0 rfl
  have y1 := hqB.cell 1 rfl
  have y2 := hqB.cell 2 rfl
  have hxv : Hid (∀ j (hj : j < names.length), ∃ b off, av = some ⟨b, off, none⟩ ∧ (w.alloc (.cells #[.slice av names.length cv, .slice ae edges.length ce, .int .i64 p] 45)).cell? ⟨b, off + j, none⟩ = some (.string names[j])) := Lib.hid fun j hj => by
    obtain ⟨b, off, h1, -, h2⟩ := hvc j hj
    exact ⟨b, off, h1, hst.cell h2⟩
  have hxe : Hid (∀ j (hj : j < edges.length), ∃ b off, ae = some ⟨b, off, none⟩ ∧ (w.alloc (.cells #[.slice av names.length cv, .slice ae edges.length ce, .int .i64 p] 45)).cell? ⟨b, off + j, none⟩ = some (.int .i64 edges[j])) := Lib.hid fun j hj => by
    obtain ⟨b, off, h1, -, h2⟩ := hnc j (by simpa using hj)
    exact ⟨b, off, h1, by rw [hst.cell h2]; simp [numsV]⟩
  have hec : Hid (EdgesA (w.alloc (.cells #[.slice av names.length cv, .slice ae edges.length ce, .int .i64 p] 45)) (w.alloc (.cells #[.slice av names.length cv, .slice ae edges.length ce, .int .i64 p] 45)).heap.size (.slice ao E.length cap) E) := Lib.hid ((hE.stay hst).mono hbw.out.size)
  have hix := Lib.hid (fun s => rindex_any (w.alloc (.cells #[.slice av names.length cv, .slice ae edges.length ce, .int .i64 p] 45)) an cn ns s (by omega) (fun j hj => by
    obtain ⟨b, off, h1, h2, h3⟩ := hnn j hj
    exact ⟨b, off, h1, Nat.lt_of_lt_of_le h2 hbw.out.size, hst.cell h3⟩))
  clear hq hq2 hE hn hv he hvc hnc hvv hec0 hvv2 hnn hst hqB
  by_cases hw1 : width < (edges.length : Int)
  · by_cases hk0 : i = 0
    · have hk0i : ((i : Int) == 0) = true := by rw [hk0]; rfl
      have hk0j : ¬ (0 : Int) < (i : Int) := by omega
      by_cases hp : p = -1
      · have hpi : (p != -1) = false := by rw [hp]; rfl
        have hqf := Lib.hid (hbad.out (by rw [decide_eq_false (by omega), Bool.and_false]))
        try replace hp := Lib.hid hp
        try replace hk0 := Lib.hid hk0
        clear hbad hq3 hxv hxe hec hix
        go_enter Try.func42, Try.ntmps42
        go_wp2
        go_ret
        exact ⟨ret_bool hqf.out.symm, hbw.out⟩
      · have hpi : (p != -1) = true := by simpa using hp
        have hqf := Lib.hid (hbad.out (by rw [decide_eq_false (by omega), Bool.and_false]))
        try replace hp := Lib.hid hp
        try replace hk0 := Lib.hid hk0
        clear hbad hq3 hxv hxe hec hix
        go_enter Try.func42, Try.ntmps42
        go_wp2
        go_ret
        exact ⟨ret_bool hqf.out.symm, hbw.out⟩
    · have hk0i : ((i : Int) == 0) = false := beq_eq_false_iff_ne.2 (by omega)
      have hk0j : (0 : Int) < (i : Int) := by omega
      by_cases hp1 : p < 0
      · skip
        have hqf := Lib.hid (hbad.out (by rw [decide_eq_false (by omega), Bool.and_false]))
        try replace hp := Lib.hid hp
        try replace hk0 := Lib.hid hk0
        clear hbad hq3 hxv hxe hec hix
        go_enter Try.func42, Try.ntmps42
        go_wp2
        go_ret
        exact ⟨ret_bool hqf.out.symm, hbw.out⟩
      · by_cases hp2 : (i : Int) ≤ p
        · skip
          have hqf := Lib.hid (hbad.out (by rw [decide_eq_false (by omega), Bool.and_false]))
          try replace hp := Lib.hid hp
          try replace hk0 := Lib.hid hk0
          clear hbad hq3 hxv hxe hec hix
          go_enter Try.func42, Try.ntmps42
          go_wp2
          go_ret
          exact ⟨ret_bool hqf.out.symm, hbw.out⟩
        · skip
          have hqf := Lib.hid (hbad.out (by rw [decide_eq_false (by omega), Bool.and_false]))
          try replace hp := Lib.hid hp
          try replace hk0 := Lib.hid hk0
          clear hbad hq3 hxv hxe hec hix
          go_enter Try.func42, Try.ntmps42
          go_wp2
          go_ret
          exact ⟨ret_bool hqf.out.symm, hbw.out⟩
  · have hwel : decide ((edges.length : Int) ≤ width) = true := decide_eq_true (by omega)
    by_cases hk0 : i = 0
    · have hk0i : ((i : Int) == 0) = true := by rw [hk0]; rfl
      have hk0j : ¬ (0 : Int) < (i : Int) := by omega
      by_cases hp : p = -1
      · have hpi : (p != -1) = false := by rw [hp]; rfl
        have hpar : parOK i p = true := by unfold parOK; rw [if_pos hk0, decide_eq_true hp]
        have hq4 := Lib.hid (hq3.out (by rw [hpar, hwel]; rfl))
        clear hbad hq3
        replace hpar := Lib.hid hpar
        replace hk0 := Lib.hid hk0
        try replace hp := Lib.hid hp
        go_enter Try.func42, Try.ntmps42
        go_wp2
        generalize w.alloc (.cells #[.slice av names.length cv, .slice ae edges.length ce, .int .i64 p] 45) = w1 at *
        obtain ⟨R1, hR1⟩ : ∃ R, riseB ns names (-1) = R := ⟨_, rfl⟩
        rw [hR1] at hq4
        have hR1b : Hid (riseB ns (names.drop 0) (-1) = R1) := hR1
        clear hR1
        go_loop [11, 12] (fun la k => ∃ (j : Nat) (l : Int), j ≤ names.length ∧ k = .int .i64 (j : Int) ∧ la = .int .i64 l ∧ -1 ≤ l ∧ Hid (riseB ns (names.drop j) l = R1)) (fun _ k => names.length - (intOf k).toNat)
        case atStart => exact ⟨0, -1, by omega, rfl, rfl, by omega, hR1b⟩
        case round =>
          clear hR1b
          obtain ⟨j, l, hj, rfl, rfl, hl, hr⟩ := hrel
          by_cases hlt : j < names.length
          · have hji : (j : Int) < (names.length : Int) := by omega
            have hj1 := Lib.hid (show j + 1 ≤ names.length from hlt)
            obtain ⟨b, off, rfl, hc⟩ := hxv.out j hlt
            have hdr : names.drop j = names[j] :: names.drop (j + 1) := List.drop_eq_getElem_cons hlt
            rw [hdr, riseB] at hr
            generalize names[j] = x at *
            clear hdr hlt
            have hi2 := Lib.hid (hix.out x)
            have hge := idxI_ge ns x
            generalize idxI ns x = ix at *
            by_cases hle : ix ≤ l
            · rw [if_pos hle] at hr
              have hqf : Hid (q = false) := Lib.hid (by rw [← hq4.out, ← hr.out]; rfl)
              clear hr
              go_wp2_with fail
              refine hi2.out.mono ?_
              rintro e1 w4 ⟨rfl, rfl⟩
              go_wp2
              go_ret
              exact ⟨ret_bool hqf.out.symm, hbw.out⟩
            · rw [if_neg hle] at hr
              go_wp2_with fail
              refine hi2.out.mono ?_
              rintro e1 w4 ⟨rfl, rfl⟩
              go_wp2
              go_round
              case rel => exact ⟨j + 1, ix, hj1.out, by go_num, rfl, hge, hr⟩
              case measure => have := hj1.out; simp [intOf]; omega
          · have hji : ¬ (j : Int) < (names.length : Int) := by omega
            obtain rfl : j = names.length := by omega
            rw [List.drop_length, riseB] at hr
            have hq5 := hq4.out
            rw [← hr.out, Bool.true_and] at hq5
            obtain ⟨R2, hR2⟩ : ∃ R, riseE E.length edges (-1) = R := ⟨_, rfl⟩
            rw [hR2] at hq5
            have hR2b : Hid (riseE E.length (edges.drop 0) (-1) = R2) := hR2
            replace hq5 := Lib.hid hq5
            clear hq4 hr hlt hR2 hix
            go_wp2
            go_loopw [14, 15] (fun cv2 k wr => ∃ (j : Nat) (l : Int), j ≤ edges.length ∧ k = .int .i64 (j : Int) ∧ Hid (-1 ≤ l ∧ (j = 0 → l = -1) ∧ (0 < j → ∃ h : j - 1 < edges.length, edges[j - 1] = l)) ∧ Hid (OW 9 w1 w1.heap.size cv2 (textsV (coveredR E (edges.take j))) wr) ∧ Hid (riseE E.length (edges.drop j) l = R2)) (fun _ k _ => edges.length - (intOf k).toNat)
            case atStart => exact ⟨0, -1, by omega, rfl, Lib.hid ⟨by omega, fun _ => rfl, fun h => by omega⟩, Lib.hid (OW.start _ _ _), hR2b⟩
            case round =>
              clear hR2b
              obtain ⟨j, l, hj, rfl, hll, hW, hr⟩ := hrel
              have hst := stay_of_below hW.out.below
              have y0r := hst.cell y0
              have y1r := hst.cell y1
              have hbr := Lib.hid (hbw.out.trans (hW.out.below.mono hbw.out.size))
              by_cases hlt : j < edges.length
              · have hji : (j : Int) < (edges.length : Int) := by omega
                have hj1 := Lib.hid (show j + 1 ≤ edges.length from hlt)
                obtain ⟨b2, off2, hae, hc⟩ := hxe.out j hlt
                replace hc := hst.cell hc
                have hdr : edges.drop j = edges[j] :: edges.drop (j + 1) := List.drop_eq_getElem_cons hlt
                rw [hdr, riseE] at hr
                have hcs := Lib.hid (covered_succ (E := E) hlt)
                have hcl := covered_len hEe (edges.take j)
                rw [show (edges.take j).length = j by rw [List.length_take]; omega] at hcl
                have hprev : Hid (0 < j → ae = some ⟨b2, off2, none⟩ → wr.cell? ⟨b2, off2 + (j - 1), none⟩ = some (.int .i64 l)) := Lib.hid fun h0 h1 => by
                  obtain ⟨h2, h3⟩ := hll.out.2.2 h0
                  obtain ⟨b3, off3, h4, h5⟩ := hxe.out (j - 1) h2
                  rw [h1] at h4
                  cases h4
                  rw [hst.cell h5, h3]
                subst hae
                generalize hxx : edges[j] = x at *
                have hll2 : Hid (-1 ≤ x → -1 ≤ x ∧ (j + 1 = 0 → x = -1) ∧ (0 < j + 1 → ∃ h : j + 1 - 1 < edges.length, edges[j + 1 - 1] = x)) := Lib.hid fun h => ⟨h, fun h => by omega, fun _ => ⟨by simpa using hlt, hxx⟩⟩
                have hl1 := hll.out.1
                have hbd : Hid (Below w.heap.size w wr.drew) := Lib.hid (hbr.out.trans ⟨rfl, rfl, rfl, Nat.le_refl _, fun _ _ => rfl⟩)
                have hWd : Hid (OW 9 w1 w1.heap.size u14 (textsV (coveredR E (edges.take j))) wr.drew) := Lib.hid (hW.out.on hW.out.below.size ⟨rfl, rfl, rfl, Nat.le_refl _, fun _ _ => rfl⟩)
                clear hdr hxx
                by_cases hx0 : x < 0
                · have hqf : Hid (q = false) := Lib.hid (by
                    rw [if_pos (.inl (by omega))] at hr
                    rw [← hq5.out, ← hr.out]; rfl)
                  clear hr hcs hprev hll2 hll hcl
                  go_wp2_with fail
                  refine wp_region_held_drew (S := fun V => V.cell? ⟨w.heap.size, 1, none⟩ = some (.slice (some ⟨b2, off2, none⟩) edges.length ce) ∧ V.cell? ⟨b2, off2 + j, none⟩ = some (.int .i64 x)) (by kernel_rfl) ⟨y1r, hc⟩ (fun hS => ?_)
                  generalize wr.drew = V0 at *
                  refine wpAnyH_take (i := 0) (v := ?_) rfl (by kernel_rfl) (by kernel_rfl) (by kernel_rfl) (fun _ _ _ h => h) (.inl ⟨by kernel_rfl, fun w' hS => ?_⟩) hS ?_
                  rotate_left
                  ·
                    obtain ⟨q1, q2⟩ := hS; skip
                    go_simp
                    try with_reducible rfl
                  simp only [List.getElem_toArray, List.getElem_cons_succ, List.getElem_cons_zero, Act.put, List.setIfInBounds_toArray, List.set_cons_zero, List.set_cons_succ]
                  refine wpAnyH_take (i := 1) (v := ?_) rfl (by kernel_rfl) (by kernel_rfl) (by kernel_rfl) (fun _ _ _ h => h) (.inl ⟨by kernel_rfl, fun w' hS => ?_⟩) hS ?_
                  rotate_left
                  ·
                    obtain ⟨q1, q2⟩ := hS; skip
                    go_simp
                    try with_reducible rfl
                  simp only [List.getElem_toArray, List.getElem_cons_succ, List.getElem_cons_zero, Act.put, List.setIfInBounds_toArray, List.set_cons_zero, List.set_cons_succ]
                  refine wpAnyH_take (i := 2) (v := ?_) rfl (by kernel_rfl) (by kernel_rfl) (by kernel_rfl) (fun _ _ _ h => h) (.inl ⟨by kernel_rfl, fun w' hS => ?_⟩) hS ?_
                  rotate_left
                  ·
                    obtain ⟨q1, q2⟩ := hS; skip
                    go_simp
                    try with_reducible rfl
                  simp only [List.getElem_toArray, List.getElem_cons_succ, List.getElem_cons_zero, Act.put, List.setIfInBounds_toArray, List.set_cons_zero, List.set_cons_succ]
                  refine wpAnyH_take (i := 3) (v := ?_) rfl (by kernel_rfl) (by kernel_rfl) (by kernel_rfl) (fun _ _ _ h => h) (.inl ⟨by kernel_rfl, fun w' hS => ?_⟩) hS ?_
                  rotate_left
                  ·
                    obtain ⟨q1, q2⟩ := hS; skip
                    go_simp
                    try with_reducible rfl
                  simp only [List.getElem_toArray, List.getElem_cons_succ, List.getElem_cons_zero, Act.put, List.setIfInBounds_toArray, List.set_cons_zero, List.set_cons_succ]
                  refine wpAnyH_take (i := 4) (v := ?_) rfl (by kernel_rfl) (by kernel_rfl) (by kernel_rfl) (fun _ _ _ h => h) (.inl ⟨by kernel_rfl, fun w' hS => ?_⟩) hS ?_
                  rotate_left
                  ·
                    obtain ⟨q1, q2⟩ := hS; skip
                    go_simp
                    try with_reducible rfl
                  simp only [List.getElem_toArray, List.getElem_cons_succ, List.getElem_cons_zero, Act.put, List.setIfInBounds_toArray, List.set_cons_zero, List.set_cons_succ]
                  refine wpAnyH_take (i := 5) (v := ?_) rfl (by kernel_rfl) (by kernel_rfl) (by kernel_rfl) (fun _ _ _ h => h) (.inl ⟨by kernel_rfl, fun w' hS => ?_⟩) hS ?_
                  rotate_left
                  ·
                    obtain ⟨q1, q2⟩ := hS; skip
                    go_simp
                    try with_reducible rfl
                  simp only [List.getElem_toArray, List.getElem_cons_succ, List.getElem_cons_zero, Act.put, List.setIfInBounds_toArray, List.set_cons_zero, List.set_cons_succ]
                  refine wpAnyH_take (i := 6) (v := ?_) rfl (by kernel_rfl) (by kernel_rfl) (by kernel_rfl) (fun _ _ _ h => h) (.inl ⟨by kernel_rfl, fun w' hS => ?_⟩) hS ?_
                  rotate_left
                  ·
                    obtain ⟨q1, q2⟩ := hS; skip
                    go_simp
                    try with_reducible rfl
                  simp only [List.getElem_toArray, List.getElem_cons_succ, List.getElem_cons_zero, Act.put, List.setIfInBounds_toArray, List.set_cons_zero, List.set_cons_succ]
                  refine wpAnyH_take (i := 7) (v := undef) rfl (by kernel_rfl) (by kernel_rfl) (by kernel_rfl) (fun _ _ _ h => h) (.inr ⟨by kernel_rfl, rfl⟩) hS ?_
                  simp only [List.getElem_toArray, List.getElem_cons_succ, List.getElem_cons_zero, Act.put, List.setIfInBounds_toArray, List.set_cons_zero, List.set_cons_succ]
                  refine wpAnyH_take (i := 8) (v := undef) rfl (by kernel_rfl) (by kernel_rfl) (by kernel_rfl) (fun _ _ _ h => h) (.inr ⟨by kernel_rfl, rfl⟩) hS ?_
                  simp only [List.getElem_toArray, List.getElem_cons_succ, List.getElem_cons_zero, Act.put, List.setIfInBounds_toArray, List.set_cons_zero, List.set_cons_succ]
                  refine wpAnyH_take (i := 9) (v := undef) rfl (by kernel_rfl) (by kernel_rfl) (by kernel_rfl) (fun _ _ _ h => h) (.inr ⟨by kernel_rfl, rfl⟩) hS ?_
                  simp only [List.getElem_toArray, List.getElem_cons_succ, List.getElem_cons_zero, Act.put, List.setIfInBounds_toArray, List.set_cons_zero, List.set_cons_succ]
                  refine wpAnyH_take (i := 10) (v := undef) rfl (by kernel_rfl) (by kernel_rfl) (by kernel_rfl) (fun _ _ _ h => h) (.inr ⟨by kernel_rfl, rfl⟩) hS ?_
                  simp only [List.getElem_toArray, List.getElem_cons_succ, List.getElem_cons_zero, Act.put, List.setIfInBounds_toArray, List.set_cons_zero, List.set_cons_succ]
                  refine wpAnyH_take (i := 11) (v := undef) rfl (by kernel_rfl) (by kernel_rfl) (by kernel_rfl) (fun _ _ _ h => h) (.inr ⟨by kernel_rfl, rfl⟩) hS ?_
                  simp only [List.getElem_toArray, List.getElem_cons_succ, List.getElem_cons_zero, Act.put, List.setIfInBounds_toArray, List.set_cons_zero, List.set_cons_succ]
                  refine wpAnyH_take (i := 12) (v := undef) rfl (by kernel_rfl) (by kernel_rfl) (by kernel_rfl) (fun _ _ _ h => h) (.inr ⟨by kernel_rfl, rfl⟩) hS ?_
                  simp only [List.getElem_toArray, List.getElem_cons_succ, List.getElem_cons_zero, Act.put, List.setIfInBounds_toArray, List.set_cons_zero, List.set_cons_succ]
                  refine wpAnyH_take (i := 13) (v := undef) rfl (by kernel_rfl) (by kernel_rfl) (by kernel_rfl) (fun _ _ _ h => h) (.inr ⟨by kernel_rfl, rfl⟩) hS ?_
                  simp only [List.getElem_toArray, List.getElem_cons_succ, List.getElem_cons_zero, Act.put, List.setIfInBounds_toArray, List.set_cons_zero, List.set_cons_succ]
                  refine wpAnyH_take (i := 14) (v := undef) rfl (by kernel_rfl) (by kernel_rfl) (by kernel_rfl) (fun _ _ _ h => h) (.inr ⟨by kernel_rfl, rfl⟩) hS ?_
                  simp only [List.getElem_toArray, List.getElem_cons_succ, List.getElem_cons_zero, Act.put, List.setIfInBounds_toArray, List.set_cons_zero, List.set_cons_succ]
                  refine wpAnyH_take (i := 15) (v := ?_) rfl (by kernel_rfl) (by kernel_rfl) (by kernel_rfl) (fun _ _ _ h => h) (.inl ⟨by kernel_rfl, fun w' hS => ?_⟩) hS ?_
                  rotate_left
                  ·
                    obtain ⟨q1, q2⟩ := hS; skip
                    go_simp
                    try with_reducible rfl
                  simp only [List.getElem_toArray, List.getElem_cons_succ, List.getElem_cons_zero, Act.put, List.setIfInBounds_toArray, List.set_cons_zero, List.set_cons_succ]
                  refine wpAnyH_take (i := 16) (v := ?_) rfl (by kernel_rfl) (by kernel_rfl) (by kernel_rfl) (fun _ _ _ h => h) (.inl ⟨by kernel_rfl, fun w' hS => ?_⟩) hS ?_
                  rotate_left
                  ·
                    obtain ⟨q1, q2⟩ := hS; skip
                    go_simp
                    try with_reducible rfl
                  simp only [List.getElem_toArray, List.getElem_cons_succ, List.getElem_cons_zero, Act.put, List.setIfInBounds_toArray, List.set_cons_zero, List.set_cons_succ]
                  refine wpAnyH_take (i := 17) (v := undef) rfl (by kernel_rfl) (by kernel_rfl) (by kernel_rfl) (fun _ _ _ h => h) (.inr ⟨by kernel_rfl, rfl⟩) hS ?_
                  simp only [List.getElem_toArray, List.getElem_cons_succ, List.getElem_cons_zero, Act.put, List.setIfInBounds_toArray, List.set_cons_zero, List.set_cons_succ]
                  refine wpAnyH_take (i := 18) (v := undef) rfl (by kernel_rfl) (by kernel_rfl) (by kernel_rfl) (fun _ _ _ h => h) (.inr ⟨by kernel_rfl, rfl⟩) hS ?_
                  simp only [List.getElem_toArray, List.getElem_cons_succ, List.getElem_cons_zero, Act.put, List.setIfInBounds_toArray, List.set_cons_zero, List.set_cons_succ]
                  refine wpAnyH_take (i := 19) (v := undef) rfl (by kernel_rfl) (by kernel_rfl) (by kernel_rfl) (fun _ _ _ h => h) (.inr ⟨by kernel_rfl, rfl⟩) hS ?_
                  simp only [List.getElem_toArray, List.getElem_cons_succ, List.getElem_cons_zero, Act.put, List.setIfInBounds_toArray, List.set_cons_zero, List.set_cons_succ]
                  refine wpAnyH_take (i := 20) (v := undef) rfl (by kernel_rfl) (by kernel_rfl) (by kernel_rfl) (fun _ _ _ h => h) (.inr ⟨by kernel_rfl, rfl⟩) hS ?_
                  simp only [List.getElem_toArray, List.getElem_cons_succ, List.getElem_cons_zero, Act.put, List.setIfInBounds_toArray, List.set_cons_zero, List.set_cons_succ]
                  refine wpAnyH_take (i := 21) (v := undef) rfl (by kernel_rfl) (by kernel_rfl) (by kernel_rfl) (fun _ _ _ h => h) (.inr ⟨by kernel_rfl, rfl⟩) hS ?_
                  simp only [List.getElem_toArray, List.getElem_cons_succ, List.getElem_cons_zero, Act.put, List.setIfInBounds_toArray, List.set_cons_zero, List.set_cons_succ]
                  refine wpAnyH_take (i := 22) (v := undef) rfl (by kernel_rfl) (by kernel_rfl) (by kernel_rfl) (fun _ _ _ h => h) (.inr ⟨by kernel_rfl, rfl⟩) hS ?_
                  simp only [List.getElem_toArray, List.getElem_cons_succ, List.getElem_cons_zero, Act.put, List.setIfInBounds_toArray, List.set_cons_zero, List.set_cons_succ]
                  refine wpAnyH_take (i := 23) (v := undef) rfl (by kernel_rfl) (by kernel_rfl) (by kernel_rfl) (fun _ _ _ h => h) (.inr ⟨by kernel_rfl, rfl⟩) hS ?_
                  simp only [List.getElem_toArray, List.getElem_cons_succ, List.getElem_cons_zero, Act.put, List.setIfInBounds_toArray, List.set_cons_zero, List.set_cons_succ]
                  refine wpAnyH_take (i := 24) (v := undef) rfl (by kernel_rfl) (by kernel_rfl) (by kernel_rfl) (fun _ _ _ h => h) (.inr ⟨by kernel_rfl, rfl⟩) hS ?_
                  simp only [List.getElem_toArray, List.getElem_cons_succ, List.getElem_cons_zero, Act.put, List.setIfInBounds_toArray, List.set_cons_zero, List.set_cons_succ]
                  refine wpAnyH_take (i := 25) (v := undef) rfl (by kernel_rfl) (by kernel_rfl) (by kernel_rfl) (fun _ _ _ h => h) (.inr ⟨by kernel_rfl, rfl⟩) hS ?_
                  simp only [List.getElem_toArray, List.getElem_cons_succ, List.getElem_cons_zero, Act.put, List.setIfInBounds_toArray, List.set_cons_zero, List.set_cons_succ]
                  refine wpAnyH_take (i := 26) (v := undef) rfl (by kernel_rfl) (by kernel_rfl) (by kernel_rfl) (fun _ _ _ h => h) (.inr ⟨by kernel_rfl, rfl⟩) hS ?_
                  simp only [List.getElem_toArray, List.getElem_cons_succ, List.getElem_cons_zero, Act.put, List.setIfInBounds_toArray, List.set_cons_zero, List.set_cons_succ]
                  refine wpAnyH_take (i := 27) (v := undef) rfl (by kernel_rfl) (by kernel_rfl) (by kernel_rfl) (fun _ _ _ h => h) (.inr ⟨by kernel_rfl, rfl⟩) hS ?_
                  simp only [List.getElem_toArray, List.getElem_cons_succ, List.getElem_cons_zero, Act.put, List.setIfInBounds_toArray, List.set_cons_zero, List.set_cons_succ]
                  refine wpAnyH_take (i := 28) (v := undef) rfl (by kernel_rfl) (by kernel_rfl) (by kernel_rfl) (fun _ _ _ h => h) (.inr ⟨by kernel_rfl, rfl⟩) hS ?_
                  simp only [List.getElem_toArray, List.getElem_cons_succ, List.getElem_cons_zero, Act.put, List.setIfInBounds_toArray, List.set_cons_zero, List.set_cons_succ]
                  refine wpAnyH_take (i := 29) (v := undef) rfl (by kernel_rfl) (by kernel_rfl) (by kernel_rfl) (fun _ _ _ h => h) (.inr ⟨by kernel_rfl, rfl⟩) hS ?_
                  simp only [List.getElem_toArray, List.getElem_cons_succ, List.getElem_cons_zero, Act.put, List.setIfInBounds_toArray, List.set_cons_zero, List.set_cons_succ]
                  refine wpAnyH_take (i := 30) (v := undef) rfl (by kernel_rfl) (by kernel_rfl) (by kernel_rfl) (fun _ _ _ h => h) (.inr ⟨by kernel_rfl, rfl⟩) hS ?_
                  simp only [List.getElem_toArray, List.getElem_cons_succ, List.getElem_cons_zero, Act.put, List.setIfInBounds_toArray, List.set_cons_zero, List.set_cons_succ]
                  refine wpAnyH_take (i := 31) (v := undef) rfl (by kernel_rfl) (by kernel_rfl) (by kernel_rfl) (fun _ _ _ h => h) (.inr ⟨by kernel_rfl, rfl⟩) hS ?_
                  simp only [List.getElem_toArray, List.getElem_cons_succ, List.getElem_cons_zero, Act.put, List.setIfInBounds_toArray, List.set_cons_zero, List.set_cons_succ]
                  refine wpAnyH_take (i := 32) (v := undef) rfl (by kernel_rfl) (by kernel_rfl) (by kernel_rfl) (fun _ _ _ h => h) (.inr ⟨by kernel_rfl, rfl⟩) hS ?_
                  simp only [List.getElem_toArray, List.getElem_cons_succ, List.getElem_cons_zero, Act.put, List.setIfInBounds_toArray, List.set_cons_zero, List.set_cons_succ]
                  refine wpAnyH_take (i := 33) (v := ?_) rfl (by kernel_rfl) (by kernel_rfl) (by kernel_rfl) (fun _ _ _ h => h) (.inl ⟨by kernel_rfl, fun w' hS => ?_⟩) hS ?_
                  rotate_left
                  ·
                    obtain ⟨q1, q2⟩ := hS; skip
                    go_simp
                    try with_reducible rfl
                  simp only [List.getElem_toArray, List.getElem_cons_succ, List.getElem_cons_zero, Act.put, List.setIfInBounds_toArray, List.set_cons_zero, List.set_cons_succ]
                  refine wpAnyH_done (by kernel_rfl) ?_ _
                  clear hS
                  go_wp2
                  go_ret
                  exact ⟨ret_bool hqf.out.symm, hbd.out⟩
                · obtain ⟨n, rfl⟩ := Int.eq_ofNat_of_zero_le (show 0 ≤ x by omega)
                  by_cases hxm : (E.length : Int) ≤ (n : Int)
                  · have hqf : Hid (q = false) := Lib.hid (by
                      rw [if_pos (.inr hxm)] at hr
                      rw [← hq5.out, ← hr.out]; rfl)
                    clear hr hcs hprev hll2 hll hcl
                    go_wp2_with fail
                    refine wp_region_held_drew (S := fun V => V.cell? ⟨w.heap.size, 1, none⟩ = some (.slice (some ⟨b2, off2, none⟩) edges.length ce) ∧ V.cell? ⟨b2, off2 + j, none⟩ = some (.int .i64 n)) (by kernel_rfl) ⟨y1r, hc⟩ (fun hS => ?_)
                    generalize wr.drew = V0 at *
                    refine wpAnyH_take (i := 0) (v := ?_) rfl (by kernel_rfl) (by kernel_rfl) (by kernel_rfl) (fun _ _ _ h => h) (.inl ⟨by kernel_rfl, fun w' hS => ?_⟩) hS ?_
                    rotate_left
                    ·
                      obtain ⟨q1, q2⟩ := hS; have hd1 : E.length ≤ n := (by omega); have hd2 : (E.length : Int) ≤ (n : Int) := (by omega)
                      go_simp
                      try with_reducible rfl
                    simp only [List.getElem_toArray, List.getElem_cons_succ, List.getElem_cons_zero, Act.put, List.setIfInBounds_toArray, List.set_cons_zero, List.set_cons_succ]
                    refine wpAnyH_take (i := 1) (v := ?_) rfl (by kernel_rfl) (by kernel_rfl) (by kernel_rfl) (fun _ _ _ h => h) (.inl ⟨by kernel_rfl, fun w' hS => ?_⟩) hS ?_
                    rotate_left
                    ·
                      obtain ⟨q1, q2⟩ := hS; have hd1 : E.length ≤ n := (by omega); have hd2 : (E.length : Int) ≤ (n : Int) := (by omega)
                      go_simp
                      try with_reducible rfl
                    simp only [List.getElem_toArray, List.getElem_cons_succ, List.getElem_cons_zero, Act.put, List.setIfInBounds_toArray, List.set_cons_zero, List.set_cons_succ]
                    refine wpAnyH_take (i := 2) (v := ?_) rfl (by kernel_rfl) (by kernel_rfl) (by kernel_rfl) (fun _ _ _ h => h) (.inl ⟨by kernel_rfl, fun w' hS => ?_⟩) hS ?_
                    rotate_left
                    ·
                      obtain ⟨q1, q2⟩ := hS; have hd1 : E.length ≤ n := (by omega); have hd2 : (E.length : Int) ≤ (n : Int) := (by omega)
                      go_simp
                      try with_reducible rfl
                    simp only [List.getElem_toArray, List.getElem_cons_succ, List.getElem_cons_zero, Act.put, List.setIfInBounds_toArray, List.set_cons_zero, List.set_cons_succ]
                    refine wpAnyH_take (i := 3) (v := ?_) rfl (by kernel_rfl) (by kernel_rfl) (by kernel_rfl) (fun _ _ _ h => h) (.inl ⟨by kernel_rfl, fun w' hS => ?_⟩) hS ?_
                    rotate_left
                    ·
                      obtain ⟨q1, q2⟩ := hS; have hd1 : E.length ≤ n := (by omega); have hd2 : (E.length : Int) ≤ (n : Int) := (by omega)
                      go_simp
                      try with_reducible rfl
                    simp only [List.getElem_toArray, List.getElem_cons_succ, List.getElem_cons_zero, Act.put, List.setIfInBounds_toArray, List.set_cons_zero, List.set_cons_succ]
                    refine wpAnyH_take (i := 4) (v := ?_) rfl (by kernel_rfl) (by kernel_rfl) (by kernel_rfl) (fun _ _ _ h => h) (.inl ⟨by kernel_rfl, fun w' hS => ?_⟩) hS ?_
                    rotate_left
                    ·
                      obtain ⟨q1, q2⟩ := hS; have hd1 : E.length ≤ n := (by omega); have hd2 : (E.length : Int) ≤ (n : Int) := (by omega)
                      go_simp
                      try with_reducible rfl
                    simp only [List.getElem_toArray, List.getElem_cons_succ, List.getElem_cons_zero, Act.put, List.setIfInBounds_toArray, List.set_cons_zero, List.set_cons_succ]
                    refine wpAnyH_take (i := 5) (v := ?_) rfl (by kernel_rfl) (by kernel_rfl) (by kernel_rfl) (fun _ _ _ h => h) (.inl ⟨by kernel_rfl, fun w' hS => ?_⟩) hS ?_
                    rotate_left
                    ·
                      obtain ⟨q1, q2⟩ := hS; have hd1 : E.length ≤ n := (by omega); have hd2 : (E.length : Int) ≤ (n : Int) := (by omega)
                      go_simp
                      try with_reducible rfl
                    simp only [List.getElem_toArray, List.getElem_cons_succ, List.getElem_cons_zero, Act.put, List.setIfInBounds_toArray, List.set_cons_zero, List.set_cons_succ]
                    refine wpAnyH_take (i := 6) (v := ?_) rfl (by kernel_rfl) (by kernel_rfl) (by kernel_rfl) (fun _ _ _ h => h) (.inl ⟨by kernel_rfl, fun w' hS => ?_⟩) hS ?_
                    rotate_left
                    ·
                      obtain ⟨q1, q2⟩ := hS; have hd1 : E.length ≤ n := (by omega); have hd2 : (E.length : Int) ≤ (n : Int) := (by omega)
                      go_simp
                      try with_reducible rfl
                    simp only [List.getElem_toArray, List.getElem_cons_succ, List.getElem_cons_zero, Act.put, List.setIfInBounds_toArray, List.set_cons_zero, List.set_cons_succ]
                    refine wpAnyH_take (i := 7) (v := ?_) rfl (by kernel_rfl) (by kernel_rfl) (by kernel_rfl) (fun _ _ _ h => h) (.inl ⟨by kernel_rfl, fun w' hS => ?_⟩) hS ?_
                    rotate_left
                    ·
                      obtain ⟨q1, q2⟩ := hS; have hd1 : E.length ≤ n := (by omega); have hd2 : (E.length : Int) ≤ (n : Int) := (by omega)
                      go_simp
                      try with_reducible rfl
                    simp only [List.getElem_toArray, List.getElem_cons_succ, List.getElem_cons_zero, Act.put, List.setIfInBounds_toArray, List.set_cons_zero, List.set_cons_succ]
                    refine wpAnyH_take (i := 8) (v := ?_) rfl (by kernel_rfl) (by kernel_rfl) (by kernel_rfl) (fun _ _ _ h => h) (.inl ⟨by kernel_rfl, fun w' hS => ?_⟩) hS ?_
                    rotate_left
                    ·
                      obtain ⟨q1, q2⟩ := hS; have hd1 : E.length ≤ n := (by omega); have hd2 : (E.length : Int) ≤ (n : Int) := (by omega)
                      go_simp
                      try with_reducible rfl
                    simp only [List.getElem_toArray, List.getElem_cons_succ, List.getElem_cons_zero, Act.put, List.setIfInBounds_toArray, List.set_cons_zero, List.set_cons_succ]
                    refine wpAnyH_take (i := 9) (v := ?_) rfl (by kernel_rfl) (by kernel_rfl) (by kernel_rfl) (fun _ _ _ h => h) (.inl ⟨by kernel_rfl, fun w' hS => ?_⟩) hS ?_
                    rotate_left
                    ·
                      obtain ⟨q1, q2⟩ := hS; have hd1 : E.length ≤ n := (by omega); have hd2 : (E.length : Int) ≤ (n : Int) := (by omega)
                      go_simp
                      try with_reducible rfl
                    simp only [List.getElem_toArray, List.getElem_cons_succ, List.getElem_cons_zero, Act.put, List.setIfInBounds_toArray, List.set_cons_zero, List.set_cons_succ]
                    refine wpAnyH_take (i := 10) (v := ?_) rfl (by kernel_rfl) (by kernel_rfl) (by kernel_rfl) (fun _ _ _ h => h) (.inl ⟨by kernel_rfl, fun w' hS => ?_⟩) hS ?_
                    rotate_left
                    ·
                      obtain ⟨q1, q2⟩ := hS; have hd1 : E.length ≤ n := (by omega); have hd2 : (E.length : Int) ≤ (n : Int) := (by omega)
                      go_simp
                      try with_reducible rfl
                    simp only [List.getElem_toArray, List.getElem_cons_succ, List.getElem_cons_zero, Act.put, List.setIfInBounds_toArray, List.set_cons_zero, List.set_cons_succ]
                    refine wpAnyH_take (i := 11) (v := ?_) rfl (by kernel_rfl) (by kernel_rfl) (by kernel_rfl) (fun _ _ _ h => h) (.inl ⟨by kernel_rfl, fun w' hS => ?_⟩) hS ?_
                    rotate_left
                    ·
                      obtain ⟨q1, q2⟩ := hS; have hd1 : E.length ≤ n := (by omega); have hd2 : (E.length : Int) ≤ (n : Int) := (by omega)
                      go_simp
                      try with_reducible rfl
                    simp only [List.getElem_toArray, List.getElem_cons_succ, List.getElem_cons_zero, Act.put, List.setIfInBounds_toArray, List.set_cons_zero, List.set_cons_succ]
                    refine wpAnyH_take (i := 12) (v := ?_) rfl (by kernel_rfl) (by kernel_rfl) (by kernel_rfl) (fun _ _ _ h => h) (.inl ⟨by kernel_rfl, fun w' hS => ?_⟩) hS ?_
                    rotate_left
                    ·
                      obtain ⟨q1, q2⟩ := hS; have hd1 : E.length ≤ n := (by omega); have hd2 : (E.length : Int) ≤ (n : Int) := (by omega)
                      go_simp
                      try with_reducible rfl
                    simp only [List.getElem_toArray, List.getElem_cons_succ, List.getElem_cons_zero, Act.put, List.setIfInBounds_toArray, List.set_cons_zero, List.set_cons_succ]
                    refine wpAnyH_take (i := 13) (v := ?_) rfl (by kernel_rfl) (by kernel_rfl) (by kernel_rfl) (fun _ _ _ h => h) (.inl ⟨by kernel_rfl, fun w' hS => ?_⟩) hS ?_
                    rotate_left
                    ·
                      obtain ⟨q1, q2⟩ := hS; have hd1 : E.length ≤ n := (by omega); have hd2 : (E.length : Int) ≤ (n : Int) := (by omega)
                      go_simp
                      try with_reducible rfl
                    simp only [List.getElem_toArray, List.getElem_cons_succ, List.getElem_cons_zero, Act.put, List.setIfInBounds_toArray, List.set_cons_zero, List.set_cons_succ]
                    refine wpAnyH_take (i := 14) (v := ?_) rfl (by kernel_rfl) (by kernel_rfl) (by kernel_rfl) (fun _ _ _ h => h) (.inl ⟨by kernel_rfl, fun w' hS => ?_⟩) hS ?_
                    rotate_left
                    ·
                      obtain ⟨q1, q2⟩ := hS; have hd1 : E.length ≤ n := (by omega); have hd2 : (E.length : Int) ≤ (n : Int) := (by omega)
                      go_simp
                      try with_reducible rfl
                    simp only [List.getElem_toArray, List.getElem_cons_succ, List.getElem_cons_zero, Act.put, List.setIfInBounds_toArray, List.set_cons_zero, List.set_cons_succ]
                    refine wpAnyH_take (i := 15) (v := ?_) rfl (by kernel_rfl) (by kernel_rfl) (by kernel_rfl) (fun _ _ _ h => h) (.inl ⟨by kernel_rfl, fun w' hS => ?_⟩) hS ?_
                    rotate_left
                    ·
                      obtain ⟨q1, q2⟩ := hS; have hd1 : E.length ≤ n := (by omega); have hd2 : (E.length : Int) ≤ (n : Int) := (by omega)
                      go_simp
                      try with_reducible rfl
                    simp only [List.getElem_toArray, List.getElem_cons_succ, List.getElem_cons_zero, Act.put, List.setIfInBounds_toArray, List.set_cons_zero, List.set_cons_succ]
                    refine wpAnyH_take (i := 16) (v := ?_) rfl (by kernel_rfl) (by kernel_rfl) (by kernel_rfl) (fun _ _ _ h => h) (.inl ⟨by kernel_rfl, fun w' hS => ?_⟩) hS ?_
                    rotate_left
                    ·
                      obtain ⟨q1, q2⟩ := hS; have hd1 : E.length ≤ n := (by omega); have hd2 : (E.length : Int) ≤ (n : Int) := (by omega)
                      go_simp
                      try with_reducible rfl
                    simp only [List.getElem_toArray, List.getElem_cons_succ, List.getElem_cons_zero, Act.put, List.setIfInBounds_toArray, List.set_cons_zero, List.set_cons_succ]
                    refine wpAnyH_take (i := 17) (v := undef) rfl (by kernel_rfl) (by kernel_rfl) (by kernel_rfl) (fun _ _ _ h => h) (.inr ⟨by kernel_rfl, rfl⟩) hS ?_
                    simp only [List.getElem_toArray, List.getElem_cons_succ, List.getElem_cons_zero, Act.put, List.setIfInBounds_toArray, List.set_cons_zero, List.set_cons_succ]
                    refine wpAnyH_take (i := 18) (v := undef) rfl (by kernel_rfl) (by kernel_rfl) (by kernel_rfl) (fun _ _ _ h => h) (.inr ⟨by kernel_rfl, rfl⟩) hS ?_
                    simp only [List.getElem_toArray, List.getElem_cons_succ, List.getElem_cons_zero, Act.put, List.setIfInBounds_toArray, List.set_cons_zero, List.set_cons_succ]
                    refine wpAnyH_take (i := 19) (v := undef) rfl (by kernel_rfl) (by kernel_rfl) (by kernel_rfl) (fun _ _ _ h => h) (.inr ⟨by kernel_rfl, rfl⟩) hS ?_
                    simp only [List.getElem_toArray, List.getElem_cons_succ, List.getElem_cons_zero, Act.put, List.setIfInBounds_toArray, List.set_cons_zero, List.set_cons_succ]
                    refine wpAnyH_take (i := 20) (v := undef) rfl (by kernel_rfl) (by kernel_rfl) (by kernel_rfl) (fun _ _ _ h => h) (.inr ⟨by kernel_rfl, rfl⟩) hS ?_
                    simp only [List.getElem_toArray, List.getElem_cons_succ, List.getElem_cons_zero, Act.put, List.setIfInBounds_toArray, List.set_cons_zero, List.set_cons_succ]
                    refine wpAnyH_take (i := 21) (v := undef) rfl (by kernel_rfl) (by kernel_rfl) (by kernel_rfl) (fun _ _ _ h => h) (.inr ⟨by kernel_rfl, rfl⟩) hS ?_
                    simp only [List.getElem_toArray, List.getElem_cons_succ, List.getElem_cons_zero, Act.put, List.setIfInBounds_toArray, List.set_cons_zero, List.set_cons_succ]
                    refine wpAnyH_take (i := 22) (v := undef) rfl (by kernel_rfl) (by kernel_rfl) (by kernel_rfl) (fun _ _ _ h => h) (.inr ⟨by kernel_rfl, rfl⟩) hS ?_
                    simp only [List.getElem_toArray, List.getElem_cons_succ, List.getElem_cons_zero, Act.put, List.setIfInBounds_toArray, List.set_cons_zero, List.set_cons_succ]
                    refine wpAnyH_take (i := 23) (v := undef) rfl (by kernel_rfl) (by kernel_rfl) (by kernel_rfl) (fun _ _ _ h => h) (.inr ⟨by kernel_rfl, rfl⟩) hS ?_
                    simp only [List.getElem_toArray, List.getElem_cons_succ, List.getElem_cons_zero, Act.put, List.setIfInBounds_toArray, List.set_cons_zero, List.set_cons_succ]
                    refine wpAnyH_take (i := 24) (v := undef) rfl (by kernel_rfl) (by kernel_rfl) (by kernel_rfl) (fun _ _ _ h => h) (.inr ⟨by kernel_rfl, rfl⟩) hS ?_
                    simp only [List.getElem_toArray, List.getElem_cons_succ, List.getElem_cons_zero, Act.put, List.setIfInBounds_toArray, List.set_cons_zero, List.set_cons_succ]
                    refine wpAnyH_take (i := 25) (v := undef) rfl (by kernel_rfl) (by kernel_rfl) (by kernel_rfl) (fun _ _ _ h => h) (.inr ⟨by kernel_rfl, rfl⟩) hS ?_
                    simp only [List.getElem_toArray, List.getElem_cons_succ, List.getElem_cons_zero, Act.put, List.setIfInBounds_toArray, List.set_cons_zero, List.set_cons_succ]
                    refine wpAnyH_take (i := 26) (v := undef) rfl (by kernel_rfl) (by kernel_rfl) (by kernel_rfl) (fun _ _ _ h => h) (.inr ⟨by kernel_rfl, rfl⟩) hS ?_
                    simp only [List.getElem_toArray, List.getElem_cons_succ, List.getElem_cons_zero, Act.put, List.setIfInBounds_toArray, List.set_cons_zero, List.set_cons_succ]
                    refine wpAnyH_take (i := 27) (v := undef) rfl (by kernel_rfl) (by kernel_rfl) (by kernel_rfl) (fun _ _ _ h => h) (.inr ⟨by kernel_rfl, rfl⟩) hS ?_
                    simp only [List.getElem_toArray, List.getElem_cons_succ, List.getElem_cons_zero, Act.put, List.setIfInBounds_toArray, List.set_cons_zero, List.set_cons_succ]
                    refine wpAnyH_take (i := 28) (v := undef) rfl (by kernel_rfl) (by kernel_rfl) (by kernel_rfl) (fun _ _ _ h => h) (.inr ⟨by kernel_rfl, rfl⟩) hS ?_
                    simp only [List.getElem_toArray, List.getElem_cons_succ, List.getElem_cons_zero, Act.put, List.setIfInBounds_toArray, List.set_cons_zero, List.set_cons_succ]
                    refine wpAnyH_take (i := 29) (v := undef) rfl (by kernel_rfl) (by kernel_rfl) (by kernel_rfl) (fun _ _ _ h => h) (.inr ⟨by kernel_rfl, rfl⟩) hS ?_
                    simp only [List.getElem_toArray, List.getElem_cons_succ, List.getElem_cons_zero, Act.put, List.setIfInBounds_toArray, List.set_cons_zero, List.set_cons_succ]
                    refine wpAnyH_take (i := 30) (v := undef) rfl (by kernel_rfl) (by kernel_rfl) (by kernel_rfl) (fun _ _ _ h => h) (.inr ⟨by kernel_rfl, rfl⟩) hS ?_
                    simp only [List.getElem_toArray, List.getElem_cons_succ, List.getElem_cons_zero, Act.put, List.setIfInBounds_toArray, List.set_cons_zero, List.set_cons_succ]
                    refine wpAnyH_take (i := 31) (v := undef) rfl (by kernel_rfl) (by kernel_rfl) (by kernel_rfl) (fun _ _ _ h => h) (.inr ⟨by kernel_rfl, rfl⟩) hS ?_
                    simp only [List.getElem_toArray, List.getElem_cons_succ, List.getElem_cons_zero, Act.put, List.setIfInBounds_toArray, List.set_cons_zero, List.set_cons_succ]
                    refine wpAnyH_take (i := 32) (v := undef) rfl (by kernel_rfl) (by kernel_rfl) (by kernel_rfl) (fun _ _ _ h => h) (.inr ⟨by kernel_rfl, rfl⟩) hS ?_
                    simp only [List.getElem_toArray, List.getElem_cons_succ, List.getElem_cons_zero, Act.put, List.setIfInBounds_toArray, List.set_cons_zero, List.set_cons_succ]
                    refine wpAnyH_take (i := 33) (v := ?_) rfl (by kernel_rfl) (by kernel_rfl) (by kernel_rfl) (fun _ _ _ h => h) (.inl ⟨by kernel_rfl, fun w' hS => ?_⟩) hS ?_
                    rotate_left
                    ·
                      obtain ⟨q1, q2⟩ := hS; have hd1 : E.length ≤ n := (by omega); have hd2 : (E.length : Int) ≤ (n : Int) := (by omega)
                      go_simp
                      try with_reducible rfl
                    simp only [List.getElem_toArray, List.getElem_cons_succ, List.getElem_cons_zero, Act.put, List.setIfInBounds_toArray, List.set_cons_zero, List.set_cons_succ]
                    refine wpAnyH_done (by kernel_rfl) ?_ _
                    clear hS
                    go_wp2
                    go_ret
                    exact ⟨ret_bool hqf.out.symm, hbd.out⟩
                  · have hnE : n < E.length := by omega
                    by_cases hj0 : j = 0
                    · have hj0i : ¬ (0 : Int) < (j : Int) := by omega
                      have hl0 := hll.out.2.1 hj0
                      rw [if_neg (by omega)] at hr
                      have hll3 := Lib.hid (hll2.out (by omega))
                      clear hprev hll2 hll
                      replace hj0 := Lib.hid hj0
                      go_wp2_with fail
                      refine wp_region_held_drew (S := fun V => V.cell? ⟨w.heap.size, 1, none⟩ = some (.slice (some ⟨b2, off2, none⟩) edges.length ce) ∧ V.cell? ⟨b2, off2 + j, none⟩ = some (.int .i64 n)) (by kernel_rfl) ⟨y1r, hc⟩ (fun hS => ?_)
                      generalize wr.drew = V0 at *
                      refine wpAnyH_take (i := 0) (v := ?_) rfl (by kernel_rfl) (by kernel_rfl) (by kernel_rfl) (fun _ _ _ h => h) (.inl ⟨by kernel_rfl, fun w' hS => ?_⟩) hS ?_
                      rotate_left
                      ·
                        obtain ⟨q1, q2⟩ := hS; have hd1 : ¬ E.length ≤ n := (by omega); have hd2 : ¬ (E.length : Int) ≤ (n : Int) := (by omega); have hd3 : ¬ 0 < j := (by have := hj0.out; omega); have hd4 : ¬ (0 : Int) < (j : Int) := (by have := hj0.out; omega)
                        go_simp
                        try with_reducible rfl
                      simp only [List.getElem_toArray, List.getElem_cons_succ, List.getElem_cons_zero, Act.put, List.setIfInBounds_toArray, List.set_cons_zero, List.set_cons_succ]
                      refine wpAnyH_take (i := 1) (v := ?_) rfl (by kernel_rfl) (by kernel_rfl) (by kernel_rfl) (fun _ _ _ h => h) (.inl ⟨by kernel_rfl, fun w' hS => ?_⟩) hS ?_
                      rotate_left
                      ·
                        obtain ⟨q1, q2⟩ := hS; have hd1 : ¬ E.length ≤ n := (by omega); have hd2 : ¬ (E.length : Int) ≤ (n : Int) := (by omega); have hd3 : ¬ 0 < j := (by have := hj0.out; omega); have hd4 : ¬ (0 : Int) < (j : Int) := (by have := hj0.out; omega)
                        go_simp
                        try with_reducible rfl
                      simp only [List.getElem_toArray, List.getElem_cons_succ, List.getElem_cons_zero, Act.put, List.setIfInBounds_toArray, List.set_cons_zero, List.set_cons_succ]
                      refine wpAnyH_take (i := 2) (v := ?_) rfl (by kernel_rfl) (by kernel_rfl) (by kernel_rfl) (fun _ _ _ h => h) (.inl ⟨by kernel_rfl, fun w' hS => ?_⟩) hS ?_
                      rotate_left
                      ·
                        obtain ⟨q1, q2⟩ := hS; have hd1 : ¬ E.length ≤ n := (by omega); have hd2 : ¬ (E.length : Int) ≤ (n : Int) := (by omega); have hd3 : ¬ 0 < j := (by have := hj0.out; omega); have hd4 : ¬ (0 : Int) < (j : Int) := (by have := hj0.out; omega)
                        go_simp
                        try with_reducible rfl
                      simp only [List.getElem_toArray, List.getElem_cons_succ, List.getElem_cons_zero, Act.put, List.setIfInBounds_toArray, List.set_cons_zero, List.set_cons_succ]
                      refine wpAnyH_take (i := 3) (v := ?_) rfl (by kernel_rfl) (by kernel_rfl) (by kernel_rfl) (fun _ _ _ h => h) (.inl ⟨by kernel_rfl, fun w' hS => ?_⟩) hS ?_
                      rotate_left
                      ·
                        obtain ⟨q1, q2⟩ := hS; have hd1 : ¬ E.length ≤ n := (by omega); have hd2 : ¬ (E.length : Int) ≤ (n : Int) := (by omega); have hd3 : ¬ 0 < j := (by have := hj0.out; omega); have hd4 : ¬ (0 : Int) < (j : Int) := (by have := hj0.out; omega)
                        go_simp
                        try with_reducible rfl
                      simp only [List.getElem_toArray, List.getElem_cons_succ, List.getElem_cons_zero, Act.put, List.setIfInBounds_toArray, List.set_cons_zero, List.set_cons_succ]
                      refine wpAnyH_take (i := 4) (v := ?_) rfl (by kernel_rfl) (by kernel_rfl) (by kernel_rfl) (fun _ _ _ h => h) (.inl ⟨by kernel_rfl, fun w' hS => ?_⟩) hS ?_
                      rotate_left
                      ·
                        obtain ⟨q1, q2⟩ := hS; have hd1 : ¬ E.length ≤ n := (by omega); have hd2 : ¬ (E.length : Int) ≤ (n : Int) := (by omega); have hd3 : ¬ 0 < j := (by have := hj0.out; omega); have hd4 : ¬ (0 : Int) < (j : Int) := (by have := hj0.out; omega)
                        go_simp
                        try with_reducible rfl
                      simp only [List.getElem_toArray, List.getElem_cons_succ, List.getElem_cons_zero, Act.put, List.setIfInBounds_toArray, List.set_cons_zero, List.set_cons_succ]
                      refine wpAnyH_take (i := 5) (v := ?_) rfl (by kernel_rfl) (by kernel_rfl) (by kernel_rfl) (fun _ _ _ h => h) (.inl ⟨by kernel_rfl, fun w' hS => ?_⟩) hS ?_
                      rotate_left
                      ·
                        obtain ⟨q1, q2⟩ := hS; have hd1 : ¬ E.length ≤ n := (by omega); have hd2 : ¬ (E.length : Int) ≤ (n : Int) := (by omega); have hd3 : ¬ 0 < j := (by have := hj0.out; omega); have hd4 : ¬ (0 : Int) < (j : Int) := (by have := hj0.out; omega)
                        go_simp
                        try with_reducible rfl
                      simp only [List.getElem_toArray, List.getElem_cons_succ, List.getElem_cons_zero, Act.put, List.setIfInBounds_toArray, List.set_cons_zero, List.set_cons_succ]
                      refine wpAnyH_take (i := 6) (v := ?_) rfl (by kernel_rfl) (by kernel_rfl) (by kernel_rfl) (fun _ _ _ h => h) (.inl ⟨by kernel_rfl, fun w' hS => ?_⟩) hS ?_
                      rotate_left
                      ·
                        obtain ⟨q1, q2⟩ := hS; have hd1 : ¬ E.length ≤ n := (by omega); have hd2 : ¬ (E.length : Int) ≤ (n : Int) := (by omega); have hd3 : ¬ 0 < j := (by have := hj0.out; omega); have hd4 : ¬ (0 : Int) < (j : Int) := (by have := hj0.out; omega)
                        go_simp
                        try with_reducible rfl
                      simp only [List.getElem_toArray, List.getElem_cons_succ, List.getElem_cons_zero, Act.put, List.setIfInBounds_toArray, List.set_cons_zero, List.set_cons_succ]
                      refine wpAnyH_take (i := 7) (v := ?_) rfl (by kernel_rfl) (by kernel_rfl) (by kernel_rfl) (fun _ _ _ h => h) (.inl ⟨by kernel_rfl, fun w' hS => ?_⟩) hS ?_
                      rotate_left
                      ·
                        obtain ⟨q1, q2⟩ := hS; have hd1 : ¬ E.length ≤ n := (by omega); have hd2 : ¬ (E.length : Int) ≤ (n : Int) := (by omega); have hd3 : ¬ 0 < j := (by have := hj0.out; omega); have hd4 : ¬ (0 : Int) < (j : Int) := (by have := hj0.out; omega)
                        go_simp
                        try with_reducible rfl
                      simp only [List.getElem_toArray, List.getElem_cons_succ, List.getElem_cons_zero, Act.put, List.setIfInBounds_toArray, List.set_cons_zero, List.set_cons_succ]
                      refine wpAnyH_take (i := 8) (v := ?_) rfl (by kernel_rfl) (by kernel_rfl) (by kernel_rfl) (fun _ _ _ h => h) (.inl ⟨by kernel_rfl, fun w' hS => ?_⟩) hS ?_
                      rotate_left
                      ·
                        obtain ⟨q1, q2⟩ := hS; have hd1 : ¬ E.length ≤ n := (by omega); have hd2 : ¬ (E.length : Int) ≤ (n : Int) := (by omega); have hd3 : ¬ 0 < j := (by have := hj0.out; omega); have hd4 : ¬ (0 : Int) < (j : Int) := (by have := hj0.out; omega)
                        go_simp
                        try with_reducible rfl
                      simp only [List.getElem_toArray, List.getElem_cons_succ, List.getElem_cons_zero, Act.put, List.setIfInBounds_toArray, List.set_cons_zero, List.set_cons_succ]
                      refine wpAnyH_take (i := 9) (v := ?_) rfl (by kernel_rfl) (by kernel_rfl) (by kernel_rfl) (fun _ _ _ h => h) (.inl ⟨by kernel_rfl, fun w' hS => ?_⟩) hS ?_
                      rotate_left
                      ·
                        obtain ⟨q1, q2⟩ := hS; have hd1 : ¬ E.length ≤ n := (by omega); have hd2 : ¬ (E.length : Int) ≤ (n : Int) := (by omega); have hd3 : ¬ 0 < j := (by have := hj0.out; omega); have hd4 : ¬ (0 : Int) < (j : Int) := (by have := hj0.out; omega)
                        go_simp
                        try with_reducible rfl
                      simp only [List.getElem_toArray, List.getElem_cons_succ, List.getElem_cons_zero, Act.put, List.setIfInBounds_toArray, List.set_cons_zero, List.set_cons_succ]
                      refine wpAnyH_take (i := 10) (v := ?_) rfl (by kernel_rfl) (by kernel_rfl) (by kernel_rfl) (fun _ _ _ h => h) (.inl ⟨by kernel_rfl, fun w' hS => ?_⟩) hS ?_
                      rotate_left
                      ·
                        obtain ⟨q1, q2⟩ := hS; have hd1 : ¬ E.length ≤ n := (by omega); have hd2 : ¬ (E.length : Int) ≤ (n : Int) := (by omega); have hd3 : ¬ 0 < j := (by have := hj0.out; omega); have hd4 : ¬ (0 : Int) < (j : Int) := (by have := hj0.out; omega)
                        go_simp
                        try with_reducible rfl
                      simp only [List.getElem_toArray, List.getElem_cons_succ, List.getElem_cons_zero, Act.put, List.setIfInBounds_toArray, List.set_cons_zero, List.set_cons_succ]
                      refine wpAnyH_take (i := 11) (v := ?_) rfl (by kernel_rfl) (by kernel_rfl) (by kernel_rfl) (fun _ _ _ h => h) (.inl ⟨by kernel_rfl, fun w' hS => ?_⟩) hS ?_
                      rotate_left
                      ·
                        obtain ⟨q1, q2⟩ := hS; have hd1 : ¬ E.length ≤ n := (by omega); have hd2 : ¬ (E.length : Int) ≤ (n : Int) := (by omega); have hd3 : ¬ 0 < j := (by have := hj0.out; omega); have hd4 : ¬ (0 : Int) < (j : Int) := (by have := hj0.out; omega)
                        go_simp
                        try with_reducible rfl
                      simp only [List.getElem_toArray, List.getElem_cons_succ, List.getElem_cons_zero, Act.put, List.setIfInBounds_toArray, List.set_cons_zero, List.set_cons_succ]
                      refine wpAnyH_take (i := 12) (v := ?_) rfl (by kernel_rfl) (by kernel_rfl) (by kernel_rfl) (fun _ _ _ h => h) (.inl ⟨by kernel_rfl, fun w' hS => ?_⟩) hS ?_
                      rotate_left
                      ·
                        obtain ⟨q1, q2⟩ := hS; have hd1 : ¬ E.length ≤ n := (by omega); have hd2 : ¬ (E.length : Int) ≤ (n : Int) := (by omega); have hd3 : ¬ 0 < j := (by have := hj0.out; omega); have hd4 : ¬ (0 : Int) < (j : Int) := (by have := hj0.out; omega)
                        go_simp
                        try with_reducible rfl
                      simp only [List.getElem_toArray, List.getElem_cons_succ, List.getElem_cons_zero, Act.put, List.setIfInBounds_toArray, List.set_cons_zero, List.set_cons_succ]
                      refine wpAnyH_take (i := 13) (v := ?_) rfl (by kernel_rfl) (by kernel_rfl) (by kernel_rfl) (fun _ _ _ h => h) (.inl ⟨by kernel_rfl, fun w' hS => ?_⟩) hS ?_
                      rotate_left
                      ·
                        obtain ⟨q1, q2⟩ := hS; have hd1 : ¬ E.length ≤ n := (by omega); have hd2 : ¬ (E.length : Int) ≤ (n : Int) := (by omega); have hd3 : ¬ 0 < j := (by have := hj0.out; omega); have hd4 : ¬ (0 : Int) < (j : Int) := (by have := hj0.out; omega)
                        go_simp
                        try with_reducible rfl
                      simp only [List.getElem_toArray, List.getElem_cons_succ, List.getElem_cons_zero, Act.put, List.setIfInBounds_toArray, List.set_cons_zero, List.set_cons_succ]
                      refine wpAnyH_take (i := 14) (v := ?_) rfl (by kernel_rfl) (by kernel_rfl) (by kernel_rfl) (fun _ _ _ h => h) (.inl ⟨by kernel_rfl, fun w' hS => ?_⟩) hS ?_
                      rotate_left
                      ·
                        obtain ⟨q1, q2⟩ := hS; have hd1 : ¬ E.length ≤ n := (by omega); have hd2 : ¬ (E.length : Int) ≤ (n : Int) := (by omega); have hd3 : ¬ 0 < j := (by have := hj0.out; omega); have hd4 : ¬ (0 : Int) < (j : Int) := (by have := hj0.out; omega)
                        go_simp
                        try with_reducible rfl
                      simp only [List.getElem_toArray, List.getElem_cons_succ, List.getElem_cons_zero, Act.put, List.setIfInBounds_toArray, List.set_cons_zero, List.set_cons_succ]
                      refine wpAnyH_take (i := 15) (v := ?_) rfl (by kernel_rfl) (by kernel_rfl) (by kernel_rfl) (fun _ _ _ h => h) (.inl ⟨by kernel_rfl, fun w' hS => ?_⟩) hS ?_
                      rotate_left
                      ·
                        obtain ⟨q1, q2⟩ := hS; have hd1 : ¬ E.length ≤ n := (by omega); have hd2 : ¬ (E.length : Int) ≤ (n : Int) := (by omega); have hd3 : ¬ 0 < j := (by have := hj0.out; omega); have hd4 : ¬ (0 : Int) < (j : Int) := (by have := hj0.out; omega)
                        go_simp
                        try with_reducible rfl
                      simp only [List.getElem_toArray, List.getElem_cons_succ, List.getElem_cons_zero, Act.put, List.setIfInBounds_toArray, List.set_cons_zero, List.set_cons_succ]
                      refine wpAnyH_take (i := 16) (v := ?_) rfl (by kernel_rfl) (by kernel_rfl) (by kernel_rfl) (fun _ _ _ h => h) (.inl ⟨by kernel_rfl, fun w' hS => ?_⟩) hS ?_
                      rotate_left
                      ·
                        obtain ⟨q1, q2⟩ := hS; have hd1 : ¬ E.length ≤ n := (by omega); have hd2 : ¬ (E.length : Int) ≤ (n : Int) := (by omega); have hd3 : ¬ 0 < j := (by have := hj0.out; omega); have hd4 : ¬ (0 : Int) < (j : Int) := (by have := hj0.out; omega)
                        go_simp
                        try with_reducible rfl
                      simp only [List.getElem_toArray, List.getElem_cons_succ, List.getElem_cons_zero, Act.put, List.setIfInBounds_toArray, List.set_cons_zero, List.set_cons_succ]
                      refine wpAnyH_take (i := 17) (v := ?_) rfl (by kernel_rfl) (by kernel_rfl) (by kernel_rfl) (fun _ _ _ h => h) (.inl ⟨by kernel_rfl, fun w' hS => ?_⟩) hS ?_
                      rotate_left
                      ·
                        obtain ⟨q1, q2⟩ := hS; have hd1 : ¬ E.length ≤ n := (by omega); have hd2 : ¬ (E.length : Int) ≤ (n : Int) := (by omega); have hd3 : ¬ 0 < j := (by have := hj0.out; omega); have hd4 : ¬ (0 : Int) < (j : Int) := (by have := hj0.out; omega)
                        go_simp
                        try with_reducible rfl
                      simp only [List.getElem_toArray, List.getElem_cons_succ, List.getElem_cons_zero, Act.put, List.setIfInBounds_toArray, List.set_cons_zero, List.set_cons_succ]
                      refine wpAnyH_take (i := 18) (v := ?_) rfl (by kernel_rfl) (by kernel_rfl) (by kernel_rfl) (fun _ _ _ h => h) (.inl ⟨by kernel_rfl, fun w' hS => ?_⟩) hS ?_
                      rotate_left
                      ·
                        obtain ⟨q1, q2⟩ := hS; have hd1 : ¬ E.length ≤ n := (by omega); have hd2 : ¬ (E.length : Int) ≤ (n : Int) := (by omega); have hd3 : ¬ 0 < j := (by have := hj0.out; omega); have hd4 : ¬ (0 : Int) < (j : Int) := (by have := hj0.out; omega)
                        go_simp
                        try with_reducible rfl
                      simp only [List.getElem_toArray, List.getElem_cons_succ, List.getElem_cons_zero, Act.put, List.setIfInBounds_toArray, List.set_cons_zero, List.set_cons_succ]
                      refine wpAnyH_take (i := 19) (v := ?_) rfl (by kernel_rfl) (by kernel_rfl) (by kernel_rfl) (fun _ _ _ h => h) (.inl ⟨by kernel_rfl, fun w' hS => ?_⟩) hS ?_
                      rotate_left
                      ·
                        obtain ⟨q1, q2⟩ := hS; have hd1 : ¬ E.length ≤ n := (by omega); have hd2 : ¬ (E.length : Int) ≤ (n : Int) := (by omega); have hd3 : ¬ 0 < j := (by have := hj0.out; omega); have hd4 : ¬ (0 : Int) < (j : Int) := (by have := hj0.out; omega)
                        go_simp
                        try with_reducible rfl
                      simp only [List.getElem_toArray, List.getElem_cons_succ, List.getElem_cons_zero, Act.put, List.setIfInBounds_toArray, List.set_cons_zero, List.set_cons_succ]
                      refine wpAnyH_take (i := 20) (v := undef) rfl (by kernel_rfl) (by kernel_rfl) (by kernel_rfl) (fun _ _ _ h => h) (.inr ⟨by kernel_rfl, rfl⟩) hS ?_
                      simp only [List.getElem_toArray, List.getElem_cons_succ, List.getElem_cons_zero, Act.put, List.setIfInBounds_toArray, List.set_cons_zero, List.set_cons_succ]
                      refine wpAnyH_take (i := 21) (v := undef) rfl (by kernel_rfl) (by kernel_rfl) (by kernel_rfl) (fun _ _ _ h => h) (.inr ⟨by kernel_rfl, rfl⟩) hS ?_
                      simp only [List.getElem_toArray, List.getElem_cons_succ, List.getElem_cons_zero, Act.put, List.setIfInBounds_toArray, List.set_cons_zero, List.set_cons_succ]
                      refine wpAnyH_take (i := 22) (v := undef) rfl (by kernel_rfl) (by kernel_rfl) (by kernel_rfl) (fun _ _ _ h => h) (.inr ⟨by kernel_rfl, rfl⟩) hS ?_
                      simp only [List.getElem_toArray, List.getElem_cons_succ, List.getElem_cons_zero, Act.put, List.setIfInBounds_toArray, List.set_cons_zero, List.set_cons_succ]
                      refine wpAnyH_take (i := 23) (v := undef) rfl (by kernel_rfl) (by kernel_rfl) (by kernel_rfl) (fun _ _ _ h => h) (.inr ⟨by kernel_rfl, rfl⟩) hS ?_
                      simp only [List.getElem_toArray, List.getElem_cons_succ, List.getElem_cons_zero, Act.put, List.setIfInBounds_toArray, List.set_cons_zero, List.set_cons_succ]
                      refine wpAnyH_take (i := 24) (v := undef) rfl (by kernel_rfl) (by kernel_rfl) (by kernel_rfl) (fun _ _ _ h => h) (.inr ⟨by kernel_rfl, rfl⟩) hS ?_
                      simp only [List.getElem_toArray, List.getElem_cons_succ, List.getElem_cons_zero, Act.put, List.setIfInBounds_toArray, List.set_cons_zero, List.set_cons_succ]
                      refine wpAnyH_take (i := 25) (v := undef) rfl (by kernel_rfl) (by kernel_rfl) (by kernel_rfl) (fun _ _ _ h => h) (.inr ⟨by kernel_rfl, rfl⟩) hS ?_
                      simp only [List.getElem_toArray, List.getElem_cons_succ, List.getElem_cons_zero, Act.put, List.setIfInBounds_toArray, List.set_cons_zero, List.set_cons_succ]
                      refine wpAnyH_take (i := 26) (v := undef) rfl (by kernel_rfl) (by kernel_rfl) (by kernel_rfl) (fun _ _ _ h => h) (.inr ⟨by kernel_rfl, rfl⟩) hS ?_
                      simp only [List.getElem_toArray, List.getElem_cons_succ, List.getElem_cons_zero, Act.put, List.setIfInBounds_toArray, List.set_cons_zero, List.set_cons_succ]
                      refine wpAnyH_take (i := 27) (v := undef) rfl (by kernel_rfl) (by kernel_rfl) (by kernel_rfl) (fun _ _ _ h => h) (.inr ⟨by kernel_rfl, rfl⟩) hS ?_
                      simp only [List.getElem_toArray, List.getElem_cons_succ, List.getElem_cons_zero, Act.put, List.setIfInBounds_toArray, List.set_cons_zero, List.set_cons_succ]
                      refine wpAnyH_take (i := 28) (v := undef) rfl (by kernel_rfl) (by kernel_rfl) (by kernel_rfl) (fun _ _ _ h => h) (.inr ⟨by kernel_rfl, rfl⟩) hS ?_
                      simp only [List.getElem_toArray, List.getElem_cons_succ, List.getElem_cons_zero, Act.put, List.setIfInBounds_toArray, List.set_cons_zero, List.set_cons_succ]
                      refine wpAnyH_take (i := 29) (v := undef) rfl (by kernel_rfl) (by kernel_rfl) (by kernel_rfl) (fun _ _ _ h => h) (.inr ⟨by kernel_rfl, rfl⟩) hS ?_
                      simp only [List.getElem_toArray, List.getElem_cons_succ, List.getElem_cons_zero, Act.put, List.setIfInBounds_toArray, List.set_cons_zero, List.set_cons_succ]
                      refine wpAnyH_take (i := 30) (v := undef) rfl (by kernel_rfl) (by kernel_rfl) (by kernel_rfl) (fun _ _ _ h => h) (.inr ⟨by kernel_rfl, rfl⟩) hS ?_
                      simp only [List.getElem_toArray, List.getElem_cons_succ, List.getElem_cons_zero, Act.put, List.setIfInBounds_toArray, List.set_cons_zero, List.set_cons_succ]
                      refine wpAnyH_take (i := 31) (v := undef) rfl (by kernel_rfl) (by kernel_rfl) (by kernel_rfl) (fun _ _ _ h => h) (.inr ⟨by kernel_rfl, rfl⟩) hS ?_
                      simp only [List.getElem_toArray, List.getElem_cons_succ, List.getElem_cons_zero, Act.put, List.setIfInBounds_toArray, List.set_cons_zero, List.set_cons_succ]
                      refine wpAnyH_take (i := 32) (v := ?_) rfl (by kernel_rfl) (by kernel_rfl) (by kernel_rfl) (fun _ _ _ h => h) (.inl ⟨by kernel_rfl, fun w' hS => ?_⟩) hS ?_
                      rotate_left
                      ·
                        obtain ⟨q1, q2⟩ := hS; have hd1 : ¬ E.length ≤ n := (by omega); have hd2 : ¬ (E.length : Int) ≤ (n : Int) := (by omega); have hd3 : ¬ 0 < j := (by have := hj0.out; omega); have hd4 : ¬ (0 : Int) < (j : Int) := (by have := hj0.out; omega)
                        go_simp
                        try with_reducible rfl
                      simp only [List.getElem_toArray, List.getElem_cons_succ, List.getElem_cons_zero, Act.put, List.setIfInBounds_toArray, List.set_cons_zero, List.set_cons_succ]
                      refine wpAnyH_take (i := 33) (v := ?_) rfl (by kernel_rfl) (by kernel_rfl) (by kernel_rfl) (fun _ _ _ h => h) (.inl ⟨by kernel_rfl, fun w' hS => ?_⟩) hS ?_
                      rotate_left
                      ·
                        obtain ⟨q1, q2⟩ := hS; have hd1 : ¬ E.length ≤ n := (by omega); have hd2 : ¬ (E.length : Int) ≤ (n : Int) := (by omega); have hd3 : ¬ 0 < j := (by have := hj0.out; omega); have hd4 : ¬ (0 : Int) < (j : Int) := (by have := hj0.out; omega)
                        go_simp
                        try with_reducible rfl
                      simp only [List.getElem_toArray, List.getElem_cons_succ, List.getElem_cons_zero, Act.put, List.setIfInBounds_toArray, List.set_cons_zero, List.set_cons_succ]
                      refine wpAnyH_done (by kernel_rfl) ?_ _
                      obtain ⟨q1, q2⟩ : V0.cell? ⟨w.heap.size, 1, none⟩ = some (.slice (some ⟨b2, off2, none⟩) edges.length ce) ∧ V0.cell? ⟨b2, off2 + j, none⟩ = some (.int .i64 (n : Int)) := ⟨hS.1, hS.2⟩
                      clear hS
                      have hst4 := stay_of_below hWd.out.below
                      have hec3 := (hec.out.stay hst4).mono hWd.out.below.size
                      obtain ⟨ao3, cap3, hvv3, hec4⟩ := hec3.form
                      obtain ⟨rfl, rfl⟩ : ao = ao3 ∧ cap = cap3 := by injection hvv3 with h1 h2 h3; exact ⟨h1, h3⟩
                      obtain ⟨b3, off3, u3, rfl, -, hEc, hEt⟩ := hec4 n hnE
                      have hcd : coveredR E (edges.take (j + 1)) = coveredR E (edges.take j) ++ E[n] := by
                        rw [hcs.out, Int.toNat_natCast, List.getD_eq_getElem?_getD, List.getElem?_eq_getElem hnE, Option.getD_some]
                      have hEl2 := hEe _ (List.getElem_mem hnE)
                      have hrow3 := hEt.row
                      have hone3 : ∀ u ∈ textsV E[n], u.oneCell' = true := fun u hu => by
                        obtain ⟨s, -, rfl⟩ := List.mem_map.1 hu
                        rfl
                      have hown3 := hWd.out.own
                      have hsz3 := hWd.out.below.size
                      have hnEi : (n : Int) < (E.length : Int) := by omega
                      have hnE0 : (0 : Int) ≤ (n : Int) := by omega
                      clear hec3 hec4 hvv3 hEt hcs hst4
                      replace hcd := Lib.hid hcd
                      replace hec := Lib.hid hec
                      go_wp2_with (at_builtin; refine wpList_app_texts rfl _ _ rfl w1.heap.size _ u3 _ _ (textsV E[n]) rfl hown3 rfl hrow3 hone3 ?cxa1 hsz3 ?cya1)
                      case cxa1 => simp only [textsV_length]; omega
                      case cya1 =>
                        intro v' w' g1 g2
                        have g3 : w'.ownsRow w1.heap.size 9 1 v' ((textsV (coveredR E (edges.take j))).length + (textsV E[n]).length) (textsV (coveredR E (edges.take j)) ++ textsV E[n]) := by rw [textsV_length, textsV_length]; exact g1
                        have hW5 := Lib.hid (hWd.out.stepN hsz3 g3 g2)
                        have hb5 : Hid (OW 9 w1 w1.heap.size v' (textsV (coveredR E (edges.take (j + 1)))) w') := by
                          rw [hcd.out]
                          have := hW5.out
                          unfold textsV at this ⊢
                          rw [List.map_append]
                          exact Lib.hid this
                        clear hW5 hWd hown3 g1 g2 g3
                        go_wp2
                        go_round
                        case rel => exact ⟨j + 1, n, hj1.out, by go_num, hll3, hb5, hr⟩
                        case measure => have := hj1.out; simp [intOf]; omega
                    · have hj0i : (0 : Int) < (j : Int) := by omega
                      have hpc := hprev.out (by omega) rfl
                      have ejm : IntKind.i64.wrap ((j : Int) - 1) = (j : Int) - 1 := IntWalk.i64_in _ (by omega)
                      have ejn : ((j : Int) - 1).toNat = j - 1 := by omega
                      have ej1 : (1 : Int) ≤ (j : Int) := by omega
                      have ej2 : (j : Int) - 1 < (edges.length : Int) := by omega
                      by_cases hle : (n : Int) ≤ l
                      · have hqf : Hid (q = false) := Lib.hid (by
                          rw [if_pos (.inl hle)] at hr
                          rw [← hq5.out, ← hr.out]; rfl)
                        clear hr hcs hprev hll2 hll hcl
                        go_wp2_with fail
                        refine wp_region_held_drew (S := fun V => V.cell? ⟨w.heap.size, 1, none⟩ = some (.slice (some ⟨b2, off2, none⟩) edges.length ce) ∧ V.cell? ⟨b2, off2 + j, none⟩ = some (.int .i64 n)∧ V.cell? ⟨b2, off2 + (j - 1), none⟩ = some (.int .i64 l)) (by kernel_rfl) ⟨y1r, hc, hpc⟩ (fun hS => ?_)
                        generalize wr.drew = V0 at *
                        refine wpAnyH_take (i := 0) (v := ?_) rfl (by kernel_rfl) (by kernel_rfl) (by kernel_rfl) (fun _ _ _ h => h) (.inl ⟨by kernel_rfl, fun w' hS => ?_⟩) hS ?_
                        rotate_left
                        ·
                          obtain ⟨q1, q2, q3⟩ := hS; have hd1 : ¬ E.length ≤ n := (by omega); have hd2 : ¬ (E.length : Int) ≤ (n : Int) := (by omega); have hd3 : (n : Int) ≤ l := (by omega); have hd5 : 0 < j := (by omega); have hd6 : (0 : Int) < (j : Int) := (by omega)
                          go_simp
                          try with_reducible rfl
                        simp only [List.getElem_toArray, List.getElem_cons_succ, List.getElem_cons_zero, Act.put, List.setIfInBounds_toArray, List.set_cons_zero, List.set_cons_succ]
                        refine wpAnyH_take (i := 1) (v := ?_) rfl (by kernel_rfl) (by kernel_rfl) (by kernel_rfl) (fun _ _ _ h => h) (.inl ⟨by kernel_rfl, fun w' hS => ?_⟩) hS ?_
                        rotate_left
                        ·
                          obtain ⟨q1, q2, q3⟩ := hS; have hd1 : ¬ E.length ≤ n := (by omega); have hd2 : ¬ (E.length : Int) ≤ (n : Int) := (by omega); have hd3 : (n : Int) ≤ l := (by omega); have hd5 : 0 < j := (by omega); have hd6 : (0 : Int) < (j : Int) := (by omega)
                          go_simp
                          try with_reducible rfl
                        simp only [List.getElem_toArray, List.getElem_cons_succ, List.getElem_cons_zero, Act.put, List.setIfInBounds_toArray, List.set_cons_zero, List.set_cons_succ]
                        refine wpAnyH_take (i := 2) (v := ?_) rfl (by kernel_rfl) (by kernel_rfl) (by kernel_rfl) (fun _ _ _ h => h) (.inl ⟨by kernel_rfl, fun w' hS => ?_⟩) hS ?_
                        rotate_left
                        ·
                          obtain ⟨q1, q2, q3⟩ := hS; have hd1 : ¬ E.length ≤ n := (by omega); have hd2 : ¬ (E.length : Int) ≤ (n : Int) := (by omega); have hd3 : (n : Int) ≤ l := (by omega); have hd5 : 0 < j := (by omega); have hd6 : (0 : Int) < (j : Int) := (by omega)
                          go_simp
                          try with_reducible rfl
                        simp only [List.getElem_toArray, List.getElem_cons_succ, List.getElem_cons_zero, Act.put, List.setIfInBounds_toArray, List.set_cons_zero, List.set_cons_succ]
                        refine wpAnyH_take (i := 3) (v := ?_) rfl (by kernel_rfl) (by kernel_rfl) (by kernel_rfl) (fun _ _ _ h => h) (.inl ⟨by kernel_rfl, fun w' hS => ?_⟩) hS ?_
                        rotate_left
                        ·
                          obtain ⟨q1, q2, q3⟩ := hS; have hd1 : ¬ E.length ≤ n := (by omega); have hd2 : ¬ (E.length : Int) ≤ (n : Int) := (by omega); have hd3 : (n : Int) ≤ l := (by omega); have hd5 : 0 < j := (by omega); have hd6 : (0 : Int) < (j : Int) := (by omega)
                          go_simp
                          try with_reducible rfl
                        simp only [List.getElem_toArray, List.getElem_cons_succ, List.getElem_cons_zero, Act.put, List.setIfInBounds_toArray, List.set_cons_zero, List.set_cons_succ]
                        refine wpAnyH_take (i := 4) (v := ?_) rfl (by kernel_rfl) (by kernel_rfl) (by kernel_rfl) (fun _ _ _ h => h) (.inl ⟨by kernel_rfl, fun w' hS => ?_⟩) hS ?_
                        rotate_left
                        ·
                          obtain ⟨q1, q2, q3⟩ := hS; have hd1 : ¬ E.length ≤ n := (by omega); have hd2 : ¬ (E.length : Int) ≤ (n : Int) := (by omega); have hd3 : (n : Int) ≤ l := (by omega); have hd5 : 0 < j := (by omega); have hd6 : (0 : Int) < (j : Int) := (by omega)
                          go_simp
                          try with_reducible rfl
                        simp only [List.getElem_toArray, List.getElem_cons_succ, List.getElem_cons_zero, Act.put, List.setIfInBounds_toArray, List.set_cons_zero, List.set_cons_succ]
                        refine wpAnyH_take (i := 5) (v := ?_) rfl (by kernel_rfl) (by kernel_rfl) (by kernel_rfl) (fun _ _ _ h => h) (.inl ⟨by kernel_rfl, fun w' hS => ?_⟩) hS ?_
                        rotate_left
                        ·
                          obtain ⟨q1, q2, q3⟩ := hS; have hd1 : ¬ E.length ≤ n := (by omega); have hd2 : ¬ (E.length : Int) ≤ (n : Int) := (by omega); have hd3 : (n : Int) ≤ l := (by omega); have hd5 : 0 < j := (by omega); have hd6 : (0 : Int) < (j : Int) := (by omega)
                          go_simp
                          try with_reducible rfl
                        simp only [List.getElem_toArray, List.getElem_cons_succ, List.getElem_cons_zero, Act.put, List.setIfInBounds_toArray, List.set_cons_zero, List.set_cons_succ]
                        refine wpAnyH_take (i := 6) (v := ?_) rfl (by kernel_rfl) (by kernel_rfl) (by kernel_rfl) (fun _ _ _ h => h) (.inl ⟨by kernel_rfl, fun w' hS => ?_⟩) hS ?_
                        rotate_left
                        ·
                          obtain ⟨q1, q2, q3⟩ := hS; have hd1 : ¬ E.length ≤ n := (by omega); have hd2 : ¬ (E.length : Int) ≤ (n : Int) := (by omega); have hd3 : (n : Int) ≤ l := (by omega); have hd5 : 0 < j := (by omega); have hd6 : (0 : Int) < (j : Int) := (by omega)
                          go_simp
                          try with_reducible rfl
                        simp only [List.getElem_toArray, List.getElem_cons_succ, List.getElem_cons_zero, Act.put, List.setIfInBounds_toArray, List.set_cons_zero, List.set_cons_succ]
                        refine wpAnyH_take (i := 7) (v := ?_) rfl (by kernel_rfl) (by kernel_rfl) (by kernel_rfl) (fun _ _ _ h => h) (.inl ⟨by kernel_rfl, fun w' hS => ?_⟩) hS ?_
                        rotate_left
                        ·
                          obtain ⟨q1, q2, q3⟩ := hS; have hd1 : ¬ E.length ≤ n := (by omega); have hd2 : ¬ (E.length : Int) ≤ (n : Int) := (by omega); have hd3 : (n : Int) ≤ l := (by omega); have hd5 : 0 < j := (by omega); have hd6 : (0 : Int) < (j : Int) := (by omega)
                          go_simp
                          try with_reducible rfl
                        simp only [List.getElem_toArray, List.getElem_cons_succ, List.getElem_cons_zero, Act.put, List.setIfInBounds_toArray, List.set_cons_zero, List.set_cons_succ]
                        refine wpAnyH_take (i := 8) (v := ?_) rfl (by kernel_rfl) (by kernel_rfl) (by kernel_rfl) (fun _ _ _ h => h) (.inl ⟨by kernel_rfl, fun w' hS => ?_⟩) hS ?_
                        rotate_left
                        ·
                          obtain ⟨q1, q2, q3⟩ := hS; have hd1 : ¬ E.length ≤ n := (by omega); have hd2 : ¬ (E.length : Int) ≤ (n : Int) := (by omega); have hd3 : (n : Int) ≤ l := (by omega); have hd5 : 0 < j := (by omega); have hd6 : (0 : Int) < (j : Int) := (by omega)
                          go_simp
                          try with_reducible rfl
                        simp only [List.getElem_toArray, List.getElem_cons_succ, List.getElem_cons_zero, Act.put, List.setIfInBounds_toArray, List.set_cons_zero, List.set_cons_succ]
                        refine wpAnyH_take (i := 9) (v := ?_) rfl (by kernel_rfl) (by kernel_rfl) (by kernel_rfl) (fun _ _ _ h => h) (.inl ⟨by kernel_rfl, fun w' hS => ?_⟩) hS ?_
                        rotate_left
                        ·
                          obtain ⟨q1, q2, q3⟩ := hS; have hd1 : ¬ E.length ≤ n := (by omega); have hd2 : ¬ (E.length : Int) ≤ (n : Int) := (by omega); have hd3 : (n : Int) ≤ l := (by omega); have hd5 : 0 < j := (by omega); have hd6 : (0 : Int) < (j : Int) := (by omega)
                          go_simp
                          try with_reducible rfl
                        simp only [List.getElem_toArray, List.getElem_cons_succ, List.getElem_cons_zero, Act.put, List.setIfInBounds_toArray, List.set_cons_zero, List.set_cons_succ]
                        refine wpAnyH_take (i := 10) (v := ?_) rfl (by kernel_rfl) (by kernel_rfl) (by kernel_rfl) (fun _ _ _ h => h) (.inl ⟨by kernel_rfl, fun w' hS => ?_⟩) hS ?_
                        rotate_left
                        ·
                          obtain ⟨q1, q2, q3⟩ := hS; have hd1 : ¬ E.length ≤ n := (by omega); have hd2 : ¬ (E.length : Int) ≤ (n : Int) := (by omega); have hd3 : (n : Int) ≤ l := (by omega); have hd5 : 0 < j := (by omega); have hd6 : (0 : Int) < (j : Int) := (by omega)
                          go_simp
                          try with_reducible rfl
                        simp only [List.getElem_toArray, List.getElem_cons_succ, List.getElem_cons_zero, Act.put, List.setIfInBounds_toArray, List.set_cons_zero, List.set_cons_succ]
                        refine wpAnyH_take (i := 11) (v := ?_) rfl (by kernel_rfl) (by kernel_rfl) (by kernel_rfl) (fun _ _ _ h => h) (.inl ⟨by kernel_rfl, fun w' hS => ?_⟩) hS ?_
                        rotate_left
                        ·
                          obtain ⟨q1, q2, q3⟩ := hS; have hd1 : ¬ E.length ≤ n := (by omega); have hd2 : ¬ (E.length : Int) ≤ (n : Int) := (by omega); have hd3 : (n : Int) ≤ l := (by omega); have hd5 : 0 < j := (by omega); have hd6 : (0 : Int) < (j : Int) := (by omega)
                          go_simp
                          try with_reducible rfl
                        simp only [List.getElem_toArray, List.getElem_cons_succ, List.getElem_cons_zero, Act.put, List.setIfInBounds_toArray, List.set_cons_zero, List.set_cons_succ]
                        refine wpAnyH_take (i := 12) (v := ?_) rfl (by kernel_rfl) (by kernel_rfl) (by kernel_rfl) (fun _ _ _ h => h) (.inl ⟨by kernel_rfl, fun w' hS => ?_⟩) hS ?_
                        rotate_left
                        ·
                          obtain ⟨q1, q2, q3⟩ := hS; have hd1 : ¬ E.length ≤ n := (by omega); have hd2 : ¬ (E.length : Int) ≤ (n : Int) := (by omega); have hd3 : (n : Int) ≤ l := (by omega); have hd5 : 0 < j := (by omega); have hd6 : (0 : Int) < (j : Int) := (by omega)
                          go_simp
                          try with_reducible rfl
                        simp only [List.getElem_toArray, List.getElem_cons_succ, List.getElem_cons_zero, Act.put, List.setIfInBounds_toArray, List.set_cons_zero, List.set_cons_succ]
                        refine wpAnyH_take (i := 13) (v := ?_) rfl (by kernel_rfl) (by kernel_rfl) (by kernel_rfl) (fun _ _ _ h => h) (.inl ⟨by kernel_rfl, fun w' hS => ?_⟩) hS ?_
                        rotate_left
                        ·
                          obtain ⟨q1, q2, q3⟩ := hS; have hd1 : ¬ E.length ≤ n := (by omega); have hd2 : ¬ (E.length : Int) ≤ (n : Int) := (by omega); have hd3 : (n : Int) ≤ l := (by omega); have hd5 : 0 < j := (by omega); have hd6 : (0 : Int) < (j : Int) := (by omega)
                          go_simp
                          try with_reducible rfl
                        simp only [List.getElem_toArray, List.getElem_cons_succ, List.getElem_cons_zero, Act.put, List.setIfInBounds_toArray, List.set_cons_zero, List.set_cons_succ]
                        refine wpAnyH_take (i := 14) (v := ?_) rfl (by kernel_rfl) (by kernel_rfl) (by kernel_rfl) (fun _ _ _ h => h) (.inl ⟨by kernel_rfl, fun w' hS => ?_⟩) hS ?_
                        rotate_left
                        ·
                          obtain ⟨q1, q2, q3⟩ := hS; have hd1 : ¬ E.length ≤ n := (by omega); have hd2 : ¬ (E.length : Int) ≤ (n : Int) := (by omega); have hd3 : (n : Int) ≤ l := (by omega); have hd5 : 0 < j := (by omega); have hd6 : (0 : Int) < (j : Int) := (by omega)
                          go_simp
                          try with_reducible rfl
                        simp only [List.getElem_toArray, List.getElem_cons_succ, List.getElem_cons_zero, Act.put, List.setIfInBounds_toArray, List.set_cons_zero, List.set_cons_succ]
                        refine wpAnyH_take (i := 15) (v := ?_) rfl (by kernel_rfl) (by kernel_rfl) (by kernel_rfl) (fun _ _ _ h => h) (.inl ⟨by kernel_rfl, fun w' hS => ?_⟩) hS ?_
                        rotate_left
                        ·
                          obtain ⟨q1, q2, q3⟩ := hS; have hd1 : ¬ E.length ≤ n := (by omega); have hd2 : ¬ (E.length : Int) ≤ (n : Int) := (by omega); have hd3 : (n : Int) ≤ l := (by omega); have hd5 : 0 < j := (by omega); have hd6 : (0 : Int) < (j : Int) := (by omega)
                          go_simp
                          try with_reducible rfl
                        simp only [List.getElem_toArray, List.getElem_cons_succ, List.getElem_cons_zero, Act.put, List.setIfInBounds_toArray, List.set_cons_zero, List.set_cons_succ]
                        refine wpAnyH_take (i := 16) (v := ?_) rfl (by kernel_rfl) (by kernel_rfl) (by kernel_rfl) (fun _ _ _ h => h) (.inl ⟨by kernel_rfl, fun w' hS => ?_⟩) hS ?_
                        rotate_left
                        ·
                          obtain ⟨q1, q2, q3⟩ := hS; have hd1 : ¬ E.length ≤ n := (by omega); have hd2 : ¬ (E.length : Int) ≤ (n : Int) := (by omega); have hd3 : (n : Int) ≤ l := (by omega); have hd5 : 0 < j := (by omega); have hd6 : (0 : Int) < (j : Int) := (by omega)
                          go_simp
                          try with_reducible rfl
                        simp only [List.getElem_toArray, List.getElem_cons_succ, List.getElem_cons_zero, Act.put, List.setIfInBounds_toArray, List.set_cons_zero, List.set_cons_succ]
                        refine wpAnyH_take (i := 17) (v := ?_) rfl (by kernel_rfl) (by kernel_rfl) (by kernel_rfl) (fun _ _ _ h => h) (.inl ⟨by kernel_rfl, fun w' hS => ?_⟩) hS ?_
                        rotate_left
                        ·
                          obtain ⟨q1, q2, q3⟩ := hS; have hd1 : ¬ E.length ≤ n := (by omega); have hd2 : ¬ (E.length : Int) ≤ (n : Int) := (by omega); have hd3 : (n : Int) ≤ l := (by omega); have hd5 : 0 < j := (by omega); have hd6 : (0 : Int) < (j : Int) := (by omega)
                          go_simp
                          try with_reducible rfl
                        simp only [List.getElem_toArray, List.getElem_cons_succ, List.getElem_cons_zero, Act.put, List.setIfInBounds_toArray, List.set_cons_zero, List.set_cons_succ]
                        refine wpAnyH_take (i := 18) (v := ?_) rfl (by kernel_rfl) (by kernel_rfl) (by kernel_rfl) (fun _ _ _ h => h) (.inl ⟨by kernel_rfl, fun w' hS => ?_⟩) hS ?_
                        rotate_left
                        ·
                          obtain ⟨q1, q2, q3⟩ := hS; have hd1 : ¬ E.length ≤ n := (by omega); have hd2 : ¬ (E.length : Int) ≤ (n : Int) := (by omega); have hd3 : (n : Int) ≤ l := (by omega); have hd5 : 0 < j := (by omega); have hd6 : (0 : Int) < (j : Int) := (by omega)
                          go_simp
                          try with_reducible rfl
                        simp only [List.getElem_toArray, List.getElem_cons_succ, List.getElem_cons_zero, Act.put, List.setIfInBounds_toArray, List.set_cons_zero, List.set_cons_succ]
                        refine wpAnyH_take (i := 19) (v := ?_) rfl (by kernel_rfl) (by kernel_rfl) (by kernel_rfl) (fun _ _ _ h => h) (.inl ⟨by kernel_rfl, fun w' hS => ?_⟩) hS ?_
                        rotate_left
                        ·
                          obtain ⟨q1, q2, q3⟩ := hS; have hd1 : ¬ E.length ≤ n := (by omega); have hd2 : ¬ (E.length : Int) ≤ (n : Int) := (by omega); have hd3 : (n : Int) ≤ l := (by omega); have hd5 : 0 < j := (by omega); have hd6 : (0 : Int) < (j : Int) := (by omega)
                          go_simp
                          try with_reducible rfl
                        simp only [List.getElem_toArray, List.getElem_cons_succ, List.getElem_cons_zero, Act.put, List.setIfInBounds_toArray, List.set_cons_zero, List.set_cons_succ]
                        refine wpAnyH_take (i := 20) (v := ?_) rfl (by kernel_rfl) (by kernel_rfl) (by kernel_rfl) (fun _ _ _ h => h) (.inl ⟨by kernel_rfl, fun w' hS => ?_⟩) hS ?_
                        rotate_left
                        ·
                          obtain ⟨q1, q2, q3⟩ := hS; have hd1 : ¬ E.length ≤ n := (by omega); have hd2 : ¬ (E.length : Int) ≤ (n : Int) := (by omega); have hd3 : (n : Int) ≤ l := (by omega); have hd5 : 0 < j := (by omega); have hd6 : (0 : Int) < (j : Int) := (by omega)
                          go_simp
                          try with_reducible rfl
                        simp only [List.getElem_toArray, List.getElem_cons_succ, List.getElem_cons_zero, Act.put, List.setIfInBounds_toArray, List.set_cons_zero, List.set_cons_succ]
                        refine wpAnyH_take (i := 21) (v := ?_) rfl (by kernel_rfl) (by kernel_rfl) (by kernel_rfl) (fun _ _ _ h => h) (.inl ⟨by kernel_rfl, fun w' hS => ?_⟩) hS ?_
                        rotate_left
                        ·
                          obtain ⟨q1, q2, q3⟩ := hS; have hd1 : ¬ E.length ≤ n := (by omega); have hd2 : ¬ (E.length : Int) ≤ (n : Int) := (by omega); have hd3 : (n : Int) ≤ l := (by omega); have hd5 : 0 < j := (by omega); have hd6 : (0 : Int) < (j : Int) := (by omega)
                          go_simp
                          try with_reducible rfl
                        simp only [List.getElem_toArray, List.getElem_cons_succ, List.getElem_cons_zero, Act.put, List.setIfInBounds_toArray, List.set_cons_zero, List.set_cons_succ]
                        refine wpAnyH_take (i := 22) (v := ?_) rfl (by kernel_rfl) (by kernel_rfl) (by kernel_rfl) (fun _ _ _ h => h) (.inl ⟨by kernel_rfl, fun w' hS => ?_⟩) hS ?_
                        rotate_left
                        ·
                          obtain ⟨q1, q2, q3⟩ := hS; have hd1 : ¬ E.length ≤ n := (by omega); have hd2 : ¬ (E.length : Int) ≤ (n : Int) := (by omega); have hd3 : (n : Int) ≤ l := (by omega); have hd5 : 0 < j := (by omega); have hd6 : (0 : Int) < (j : Int) := (by omega)
                          go_simp
                          try with_reducible rfl
                        simp only [List.getElem_toArray, List.getElem_cons_succ, List.getElem_cons_zero, Act.put, List.setIfInBounds_toArray, List.set_cons_zero, List.set_cons_succ]
                        refine wpAnyH_take (i := 23) (v := ?_) rfl (by kernel_rfl) (by kernel_rfl) (by kernel_rfl) (fun _ _ _ h => h) (.inl ⟨by kernel_rfl, fun w' hS => ?_⟩) hS ?_
                        rotate_left
                        ·
                          obtain ⟨q1, q2, q3⟩ := hS; have hd1 : ¬ E.length ≤ n := (by omega); have hd2 : ¬ (E.length : Int) ≤ (n : Int) := (by omega); have hd3 : (n : Int) ≤ l := (by omega); have hd5 : 0 < j := (by omega); have hd6 : (0 : Int) < (j : Int) := (by omega)
                          go_simp
                          try with_reducible rfl
                        simp only [List.getElem_toArray, List.getElem_cons_succ, List.getElem_cons_zero, Act.put, List.setIfInBounds_toArray, List.set_cons_zero, List.set_cons_succ]
                        refine wpAnyH_take (i := 24) (v := ?_) rfl (by kernel_rfl) (by kernel_rfl) (by kernel_rfl) (fun _ _ _ h => h) (.inl ⟨by kernel_rfl, fun w' hS => ?_⟩) hS ?_
                        rotate_left
                        ·
                          obtain ⟨q1, q2, q3⟩ := hS; have hd1 : ¬ E.length ≤ n := (by omega); have hd2 : ¬ (E.length : Int) ≤ (n : Int) := (by omega); have hd3 : (n : Int) ≤ l := (by omega); have hd5 : 0 < j := (by omega); have hd6 : (0 : Int) < (j : Int) := (by omega)
                          go_simp
                          try with_reducible rfl
                        simp only [List.getElem_toArray, List.getElem_cons_succ, List.getElem_cons_zero, Act.put, List.setIfInBounds_toArray, List.set_cons_zero, List.set_cons_succ]
                        refine wpAnyH_take (i := 25) (v := ?_) rfl (by kernel_rfl) (by kernel_rfl) (by kernel_rfl) (fun _ _ _ h => h) (.inl ⟨by kernel_rfl, fun w' hS => ?_⟩) hS ?_
                        rotate_left
                        ·
                          obtain ⟨q1, q2, q3⟩ := hS; have hd1 : ¬ E.length ≤ n := (by omega); have hd2 : ¬ (E.length : Int) ≤ (n : Int) := (by omega); have hd3 : (n : Int) ≤ l := (by omega); have hd5 : 0 < j := (by omega); have hd6 : (0 : Int) < (j : Int) := (by omega)
                          go_simp
                          try with_reducible rfl
                        simp only [List.getElem_toArray, List.getElem_cons_succ, List.getElem_cons_zero, Act.put, List.setIfInBounds_toArray, List.set_cons_zero, List.set_cons_succ]
                        refine wpAnyH_take (i := 26) (v := ?_) rfl (by kernel_rfl) (by kernel_rfl) (by kernel_rfl) (fun _ _ _ h => h) (.inl ⟨by kernel_rfl, fun w' hS => ?_⟩) hS ?_
                        rotate_left
                        ·
                          obtain ⟨q1, q2, q3⟩ := hS; have hd1 : ¬ E.length ≤ n := (by omega); have hd2 : ¬ (E.length : Int) ≤ (n : Int) := (by omega); have hd3 : (n : Int) ≤ l := (by omega); have hd5 : 0 < j := (by omega); have hd6 : (0 : Int) < (j : Int) := (by omega)
                          go_simp
                          try with_reducible rfl
                        simp only [List.getElem_toArray, List.getElem_cons_succ, List.getElem_cons_zero, Act.put, List.setIfInBounds_toArray, List.set_cons_zero, List.set_cons_succ]
                        refine wpAnyH_take (i := 27) (v := ?_) rfl (by kernel_rfl) (by kernel_rfl) (by kernel_rfl) (fun _ _ _ h => h) (.inl ⟨by kernel_rfl, fun w' hS => ?_⟩) hS ?_
                        rotate_left
                        ·
                          obtain ⟨q1, q2, q3⟩ := hS; have hd1 : ¬ E.length ≤ n := (by omega); have hd2 : ¬ (E.length : Int) ≤ (n : Int) := (by omega); have hd3 : (n : Int) ≤ l := (by omega); have hd5 : 0 < j := (by omega); have hd6 : (0 : Int) < (j : Int) := (by omega)
                          go_simp
                          try with_reducible rfl
                        simp only [List.getElem_toArray, List.getElem_cons_succ, List.getElem_cons_zero, Act.put, List.setIfInBounds_toArray, List.set_cons_zero, List.set_cons_succ]
                        refine wpAnyH_take (i := 28) (v := ?_) rfl (by kernel_rfl) (by kernel_rfl) (by kernel_rfl) (fun _ _ _ h => h) (.inl ⟨by kernel_rfl, fun w' hS => ?_⟩) hS ?_
                        rotate_left
                        ·
                          obtain ⟨q1, q2, q3⟩ := hS; have hd1 : ¬ E.length ≤ n := (by omega); have hd2 : ¬ (E.length : Int) ≤ (n : Int) := (by omega); have hd3 : (n : Int) ≤ l := (by omega); have hd5 : 0 < j := (by omega); have hd6 : (0 : Int) < (j : Int) := (by omega)
                          go_simp
                          try with_reducible rfl
                        simp only [List.getElem_toArray, List.getElem_cons_succ, List.getElem_cons_zero, Act.put, List.setIfInBounds_toArray, List.set_cons_zero, List.set_cons_succ]
                        refine wpAnyH_take (i := 29) (v := ?_) rfl (by kernel_rfl) (by kernel_rfl) (by kernel_rfl) (fun _ _ _ h => h) (.inl ⟨by kernel_rfl, fun w' hS => ?_⟩) hS ?_
                        rotate_left
                        ·
                          obtain ⟨q1, q2, q3⟩ := hS; have hd1 : ¬ E.length ≤ n := (by omega); have hd2 : ¬ (E.length : Int) ≤ (n : Int) := (by omega); have hd3 : (n : Int) ≤ l := (by omega); have hd5 : 0 < j := (by omega); have hd6 : (0 : Int) < (j : Int) := (by omega)
                          go_simp
                          try with_reducible rfl
                        simp only [List.getElem_toArray, List.getElem_cons_succ, List.getElem_cons_zero, Act.put, List.setIfInBounds_toArray, List.set_cons_zero, List.set_cons_succ]
                        refine wpAnyH_take (i := 30) (v := ?_) rfl (by kernel_rfl) (by kernel_rfl) (by kernel_rfl) (fun _ _ _ h => h) (.inl ⟨by kernel_rfl, fun w' hS => ?_⟩) hS ?_
                        rotate_left
                        ·
                          obtain ⟨q1, q2, q3⟩ := hS; have hd1 : ¬ E.length ≤ n := (by omega); have hd2 : ¬ (E.length : Int) ≤ (n : Int) := (by omega); have hd3 : (n : Int) ≤ l := (by omega); have hd5 : 0 < j := (by omega); have hd6 : (0 : Int) < (j : Int) := (by omega)
                          go_simp
                          try with_reducible rfl
                        simp only [List.getElem_toArray, List.getElem_cons_succ, List.getElem_cons_zero, Act.put, List.setIfInBounds_toArray, List.set_cons_zero, List.set_cons_succ]
                        refine wpAnyH_take (i := 31) (v := ?_) rfl (by kernel_rfl) (by kernel_rfl) (by kernel_rfl) (fun _ _ _ h => h) (.inl ⟨by kernel_rfl, fun w' hS => ?_⟩) hS ?_
                        rotate_left
                        ·
                          obtain ⟨q1, q2, q3⟩ := hS; have hd1 : ¬ E.length ≤ n := (by omega); have hd2 : ¬ (E.length : Int) ≤ (n : Int) := (by omega); have hd3 : (n : Int) ≤ l := (by omega); have hd5 : 0 < j := (by omega); have hd6 : (0 : Int) < (j : Int) := (by omega)
                          go_simp
                          try with_reducible rfl
                        simp only [List.getElem_toArray, List.getElem_cons_succ, List.getElem_cons_zero, Act.put, List.setIfInBounds_toArray, List.set_cons_zero, List.set_cons_succ]
                        refine wpAnyH_take (i := 32) (v := ?_) rfl (by kernel_rfl) (by kernel_rfl) (by kernel_rfl) (fun _ _ _ h => h) (.inl ⟨by kernel_rfl, fun w' hS => ?_⟩) hS ?_
                        rotate_left
                        ·
                          obtain ⟨q1, q2, q3⟩ := hS; have hd1 : ¬ E.length ≤ n := (by omega); have hd2 : ¬ (E.length : Int) ≤ (n : Int) := (by omega); have hd3 : (n : Int) ≤ l := (by omega); have hd5 : 0 < j := (by omega); have hd6 : (0 : Int) < (j : Int) := (by omega)
                          go_simp
                          try with_reducible rfl
                        simp only [List.getElem_toArray, List.getElem_cons_succ, List.getElem_cons_zero, Act.put, List.setIfInBounds_toArray, List.set_cons_zero, List.set_cons_succ]
                        refine wpAnyH_take (i := 33) (v := ?_) rfl (by kernel_rfl) (by kernel_rfl) (by kernel_rfl) (fun _ _ _ h => h) (.inl ⟨by kernel_rfl, fun w' hS => ?_⟩) hS ?_
                        rotate_left
                        ·
                          obtain ⟨q1, q2, q3⟩ := hS; have hd1 : ¬ E.length ≤ n := (by omega); have hd2 : ¬ (E.length : Int) ≤ (n : Int) := (by omega); have hd3 : (n : Int) ≤ l := (by omega); have hd5 : 0 < j := (by omega); have hd6 : (0 : Int) < (j : Int) := (by omega)
                          go_simp
                          try with_reducible rfl
                        simp only [List.getElem_toArray, List.getElem_cons_succ, List.getElem_cons_zero, Act.put, List.setIfInBounds_toArray, List.set_cons_zero, List.set_cons_succ]
                        refine wpAnyH_done (by kernel_rfl) ?_ _
                        clear hS
                        go_wp2
                        go_ret
                        exact ⟨ret_bool hqf.out.symm, hbd.out⟩
                      · rw [if_neg (by omega)] at hr
                        have hll3 := Lib.hid (hll2.out (by omega))
                        clear hprev hll2 hll
                        go_wp2_with fail
                        refine wp_region_held_drew (S := fun V => V.cell? ⟨w.heap.size, 1, none⟩ = some (.slice (some ⟨b2, off2, none⟩) edges.length ce) ∧ V.cell? ⟨b2, off2 + j, none⟩ = some (.int .i64 n)∧ V.cell? ⟨b2, off2 + (j - 1), none⟩ = some (.int .i64 l)) (by kernel_rfl) ⟨y1r, hc, hpc⟩ (fun hS => ?_)
                        generalize wr.drew = V0 at *
                        refine wpAnyH_take (i := 0) (v := ?_) rfl (by kernel_rfl) (by kernel_rfl) (by kernel_rfl) (fun _ _ _ h => h) (.inl ⟨by kernel_rfl, fun w' hS => ?_⟩) hS ?_
                        rotate_left
                        ·
                          obtain ⟨q1, q2, q3⟩ := hS; have hd1 : ¬ E.length ≤ n := (by omega); have hd2 : ¬ (E.length : Int) ≤ (n : Int) := (by omega); have hd3 : ¬ (n : Int) ≤ l := (by omega); have hd5 : 0 < j := (by omega); have hd6 : (0 : Int) < (j : Int) := (by omega)
                          go_simp
                          try with_reducible rfl
                        simp only [List.getElem_toArray, List.getElem_cons_succ, List.getElem_cons_zero, Act.put, List.setIfInBounds_toArray, List.set_cons_zero, List.set_cons_succ]
                        refine wpAnyH_take (i := 1) (v := ?_) rfl (by kernel_rfl) (by kernel_rfl) (by kernel_rfl) (fun _ _ _ h => h) (.inl ⟨by kernel_rfl, fun w' hS => ?_⟩) hS ?_
                        rotate_left
                        ·
                          obtain ⟨q1, q2, q3⟩ := hS; have hd1 : ¬ E.length ≤ n := (by omega); have hd2 : ¬ (E.length : Int) ≤ (n : Int) := (by omega); have hd3 : ¬ (n : Int) ≤ l := (by omega); have hd5 : 0 < j := (by omega); have hd6 : (0 : Int) < (j : Int) := (by omega)
                          go_simp
                          try with_reducible rfl
                        simp only [List.getElem_toArray, List.getElem_cons_succ, List.getElem_cons_zero, Act.put, List.setIfInBounds_toArray, List.set_cons_zero, List.set_cons_succ]
                        refine wpAnyH_take (i := 2) (v := ?_) rfl (by kernel_rfl) (by kernel_rfl) (by kernel_rfl) (fun _ _ _ h => h) (.inl ⟨by kernel_rfl, fun w' hS => ?_⟩) hS ?_
                        rotate_left
                        ·
                          obtain ⟨q1, q2, q3⟩ := hS; have hd1 : ¬ E.length ≤ n := (by omega); have hd2 : ¬ (E.length : Int) ≤ (n : Int) := (by omega); have hd3 : ¬ (n : Int) ≤ l := (by omega); have hd5 : 0 < j := (by omega); have hd6 : (0 : Int) < (j : Int) := (by omega)
                          go_simp
                          try with_reducible rfl
                        simp only [List.getElem_toArray, List.getElem_cons_succ, List.getElem_cons_zero, Act.put, List.setIfInBounds_toArray, List.set_cons_zero, List.set_cons_succ]
                        refine wpAnyH_take (i := 3) (v := ?_) rfl (by kernel_rfl) (by kernel_rfl) (by kernel_rfl) (fun _ _ _ h => h) (.inl ⟨by kernel_rfl, fun w' hS => ?_⟩) hS ?_
                        rotate_left
                        ·
                          obtain ⟨q1, q2, q3⟩ := hS; have hd1 : ¬ E.length ≤ n := (by omega); have hd2 : ¬ (E.length : Int) ≤ (n : Int) := (by omega); have hd3 : ¬ (n : Int) ≤ l := (by omega); have hd5 : 0 < j := (by omega); have hd6 : (0 : Int) < (j : Int) := (by omega)
                          go_simp
                          try with_reducible rfl
                        simp only [List.getElem_toArray, List.getElem_cons_succ, List.getElem_cons_zero, Act.put, List.setIfInBounds_toArray, List.set_cons_zero, List.set_cons_succ]
                        refine wpAnyH_take (i := 4) (v := ?_) rfl (by kernel_rfl) (by kernel_rfl) (by kernel_rfl) (fun _ _ _ h => h) (.inl ⟨by kernel_rfl, fun w' hS => ?_⟩) hS ?_
                        rotate_left
                        ·
                          obtain ⟨q1, q2, q3⟩ := hS; have hd1 : ¬ E.length ≤ n := (by omega); have hd2 : ¬ (E.length : Int) ≤ (n : Int) := (by omega); have hd3 : ¬ (n : Int) ≤ l := (by omega); have hd5 : 0 < j := (by omega); have hd6 : (0 : Int) < (j : Int) := (by omega)
                          go_simp
                          try with_reducible rfl
                        simp only [List.getElem_toArray, List.getElem_cons_succ, List.getElem_cons_zero, Act.put, List.setIfInBounds_toArray, List.set_cons_zero, List.set_cons_succ]
                        refine wpAnyH_take (i := 5) (v := ?_) rfl (by kernel_rfl) (by kernel_rfl) (by kernel_rfl) (fun _ _ _ h => h) (.inl ⟨by kernel_rfl, fun w' hS => ?_⟩) hS ?_
                        rotate_left
                        ·
                          obtain ⟨q1, q2, q3⟩ := hS; have hd1 : ¬ E.length ≤ n := (by omega); have hd2 : ¬ (E.length : Int) ≤ (n : Int) := (by omega); have hd3 : ¬ (n : Int) ≤ l := (by omega); have hd5 : 0 < j := (by omega); have hd6 : (0 : Int) < (j : Int) := (by omega)
                          go_simp
                          try with_reducible rfl
                        simp only [List.getElem_toArray, List.getElem_cons_succ, List.getElem_cons_zero, Act.put, List.setIfInBounds_toArray, List.set_cons_zero, List.set_cons_succ]
                        refine wpAnyH_take (i := 6) (v := ?_) rfl (by kernel_rfl) (by kernel_rfl) (by kernel_rfl) (fun _ _ _ h => h) (.inl ⟨by kernel_rfl, fun w' hS => ?_⟩) hS ?_
                        rotate_left
                        ·
                          obtain ⟨q1, q2, q3⟩ := hS; have hd1 : ¬ E.length ≤ n := (by omega); have hd2 : ¬ (E.length : Int) ≤ (n : Int) := (by omega); have hd3 : ¬ (n : Int) ≤ l := (by omega); have hd5 : 0 < j := (by omega); have hd6 : (0 : Int) < (j : Int) := (by omega)
                          go_simp
                          try with_reducible rfl
                        simp only [List.getElem_toArray, List.getElem_cons_succ, List.getElem_cons_zero, Act.put, List.setIfInBounds_toArray, List.set_cons_zero, List.set_cons_succ]
                        refine wpAnyH_take (i := 7) (v := ?_) rfl (by kernel_rfl) (by kernel_rfl) (by kernel_rfl) (fun _ _ _ h => h) (.inl ⟨by kernel_rfl, fun w' hS => ?_⟩) hS ?_
                        rotate_left
                        ·
                          obtain ⟨q1, q2, q3⟩ := hS; have hd1 : ¬ E.length ≤ n := (by omega); have hd2 : ¬ (E.length : Int) ≤ (n : Int) := (by omega); have hd3 : ¬ (n : Int) ≤ l := (by omega); have hd5 : 0 < j := (by omega); have hd6 : (0 : Int) < (j : Int) := (by omega)
                          go_simp
                          try with_reducible rfl
                        simp only [List.getElem_toArray, List.getElem_cons_succ, List.getElem_cons_zero, Act.put, List.setIfInBounds_toArray, List.set_cons_zero, List.set_cons_succ]
                        refine wpAnyH_take (i := 8) (v := ?_) rfl (by kernel_rfl) (by kernel_rfl) (by kernel_rfl) (fun _ _ _ h => h) (.inl ⟨by kernel_rfl, fun w' hS => ?_⟩) hS ?_
                        rotate_left
                        ·
                          obtain ⟨q1, q2, q3⟩ := hS; have hd1 : ¬ E.length ≤ n := (by omega); have hd2 : ¬ (E.length : Int) ≤ (n : Int) := (by omega); have hd3 : ¬ (n : Int) ≤ l := (by omega); have hd5 : 0 < j := (by omega); have hd6 : (0 : Int) < (j : Int) := (by omega)
                          go_simp
                          try with_reducible rfl
                        simp only [List.getElem_toArray, List.getElem_cons_succ, List.getElem_cons_zero, Act.put, List.setIfInBounds_toArray, List.set_cons_zero, List.set_cons_succ]
                        refine wpAnyH_take (i := 9) (v := ?_) rfl (by kernel_rfl) (by kernel_rfl) (by kernel_rfl) (fun _ _ _ h => h) (.inl ⟨by kernel_rfl, fun w' hS => ?_⟩) hS ?_
                        rotate_left
                        ·
                          obtain ⟨q1, q2, q3⟩ := hS; have hd1 : ¬ E.length ≤ n := (by omega); have hd2 : ¬ (E.length : Int) ≤ (n : Int) := (by omega); have hd3 : ¬ (n : Int) ≤ l := (by omega); have hd5 : 0 < j := (by omega); have hd6 : (0 : Int) < (j : Int) := (by omega)
                          go_simp
                          try with_reducible rfl
                        simp only [List.getElem_toArray, List.getElem_cons_succ, List.getElem_cons_zero, Act.put, List.setIfInBounds_toArray, List.set_cons_zero, List.set_cons_succ]
                        refine wpAnyH_take (i := 10) (v := ?_) rfl (by kernel_rfl) (by kernel_rfl) (by kernel_rfl) (fun _ _ _ h => h) (.inl ⟨by kernel_rfl, fun w' hS => ?_⟩) hS ?_
                        rotate_left
                        ·
                          obtain ⟨q1, q2, q3⟩ := hS; have hd1 : ¬ E.length ≤ n := (by omega); have hd2 : ¬ (E.length : Int) ≤ (n : Int) := (by omega); have hd3 : ¬ (n : Int) ≤ l := (by omega); have hd5 : 0 < j := (by omega); have hd6 : (0 : Int) < (j : Int) := (by omega)
                          go_simp
                          try with_reducible rfl
                        simp only [List.getElem_toArray, List.getElem_cons_succ, List.getElem_cons_zero, Act.put, List.setIfInBounds_toArray, List.set_cons_zero, List.set_cons_succ]
                        refine wpAnyH_take (i := 11) (v := ?_) rfl (by kernel_rfl) (by kernel_rfl) (by kernel_rfl) (fun _ _ _ h => h) (.inl ⟨by kernel_rfl, fun w' hS => ?_⟩) hS ?_
                        rotate_left
                        ·
                          obtain ⟨q1, q2, q3⟩ := hS; have hd1 : ¬ E.length ≤ n := (by omega); have hd2 : ¬ (E.length : Int) ≤ (n : Int) := (by omega); have hd3 : ¬ (n : Int) ≤ l := (by omega); have hd5 : 0 < j := (by omega); have hd6 : (0 : Int) < (j : Int) := (by omega)
                          go_simp
                          try with_reducible rfl
                        simp only [List.getElem_toArray, List.getElem_cons_succ, List.getElem_cons_zero, Act.put, List.setIfInBounds_toArray, List.set_cons_zero, List.set_cons_succ]
                        refine wpAnyH_take (i := 12) (v := ?_) rfl (by kernel_rfl) (by kernel_rfl) (by kernel_rfl) (fun _ _ _ h => h) (.inl ⟨by kernel_rfl, fun w' hS => ?_⟩) hS ?_
                        rotate_left
                        ·
                          obtain ⟨q1, q2, q3⟩ := hS; have hd1 : ¬ E.length ≤ n := (by omega); have hd2 : ¬ (E.length : Int) ≤ (n : Int) := (by omega); have hd3 : ¬ (n : Int) ≤ l := (by omega); have hd5 : 0 < j := (by omega); have hd6 : (0 : Int) < (j : Int) := (by omega)
                          go_simp
                          try with_reducible rfl
                        simp only [List.getElem_toArray, List.getElem_cons_succ, List.getElem_cons_zero, Act.put, List.setIfInBounds_toArray, List.set_cons_zero, List.set_cons_succ]
                        refine wpAnyH_take (i := 13) (v := ?_) rfl (by kernel_rfl) (by kernel_rfl) (by kernel_rfl) (fun _ _ _ h => h) (.inl ⟨by kernel_rfl, fun w' hS => ?_⟩) hS ?_
                        rotate_left
                        ·
                          obtain ⟨q1, q2, q3⟩ := hS; have hd1 : ¬ E.length ≤ n := (by omega); have hd2 : ¬ (E.length : Int) ≤ (n : Int) := (by omega); have hd3 : ¬ (n : Int) ≤ l := (by omega); have hd5 : 0 < j := (by omega); have hd6 : (0 : Int) < (j : Int) := (by omega)
                          go_simp
                          try with_reducible rfl
                        simp only [List.getElem_toArray, List.getElem_cons_succ, List.getElem_cons_zero, Act.put, List.setIfInBounds_toArray, List.set_cons_zero, List.set_cons_succ]
                        refine wpAnyH_take (i := 14) (v := ?_) rfl (by kernel_rfl) (by kernel_rfl) (by kernel_rfl) (fun _ _ _ h => h) (.inl ⟨by kernel_rfl, fun w' hS => ?_⟩) hS ?_
                        rotate_left
                        ·
                          obtain ⟨q1, q2, q3⟩ := hS; have hd1 : ¬ E.length ≤ n := (by omega); have hd2 : ¬ (E.length : Int) ≤ (n : Int) := (by omega); have hd3 : ¬ (n : Int) ≤ l := (by omega); have hd5 : 0 < j := (by omega); have hd6 : (0 : Int) < (j : Int) := (by omega)
                          go_simp
                          try with_reducible rfl
                        simp only [List.getElem_toArray, List.getElem_cons_succ, List.getElem_cons_zero, Act.put, List.setIfInBounds_toArray, List.set_cons_zero, List.set_cons_succ]
                        refine wpAnyH_take (i := 15) (v := ?_) rfl (by kernel_rfl) (by kernel_rfl) (by kernel_rfl) (fun _ _ _ h => h) (.inl ⟨by kernel_rfl, fun w' hS => ?_⟩) hS ?_
                        rotate_left
                        ·
                          obtain ⟨q1, q2, q3⟩ := hS; have hd1 : ¬ E.length ≤ n := (by omega); have hd2 : ¬ (E.length : Int) ≤ (n : Int) := (by omega); have hd3 : ¬ (n : Int) ≤ l := (by omega); have hd5 : 0 < j := (by omega); have hd6 : (0 : Int) < (j : Int) := (by omega)
                          go_simp
                          try with_reducible rfl
                        simp only [List.getElem_toArray, List.getElem_cons_succ, List.getElem_cons_zero, Act.put, List.setIfInBounds_toArray, List.set_cons_zero, List.set_cons_succ]
                        refine wpAnyH_take (i := 16) (v := ?_) rfl (by kernel_rfl) (by kernel_rfl) (by kernel_rfl) (fun _ _ _ h => h) (.inl ⟨by kernel_rfl, fun w' hS => ?_⟩) hS ?_
                        rotate_left
                        ·
                          obtain ⟨q1, q2, q3⟩ := hS; have hd1 : ¬ E.length ≤ n := (by omega); have hd2 : ¬ (E.length : Int) ≤ (n : Int) := (by omega); have hd3 : ¬ (n : Int) ≤ l := (by omega); have hd5 : 0 < j := (by omega); have hd6 : (0 : Int) < (j : Int) := (by omega)
                          go_simp
                          try with_reducible rfl
                        simp only [List.getElem_toArray, List.getElem_cons_succ, List.getElem_cons_zero, Act.put, List.setIfInBounds_toArray, List.set_cons_zero, List.set_cons_succ]
                        refine wpAnyH_take (i := 17) (v := ?_) rfl (by kernel_rfl) (by kernel_rfl) (by kernel_rfl) (fun _ _ _ h => h) (.inl ⟨by kernel_rfl, fun w' hS => ?_⟩) hS ?_
                        rotate_left
                        ·
                          obtain ⟨q1, q2, q3⟩ := hS; have hd1 : ¬ E.length ≤ n := (by omega); have hd2 : ¬ (E.length : Int) ≤ (n : Int) := (by omega); have hd3 : ¬ (n : Int) ≤ l := (by omega); have hd5 : 0 < j := (by omega); have hd6 : (0 : Int) < (j : Int) := (by omega)
                          go_simp
                          try with_reducible rfl
                        simp only [List.getElem_toArray, List.getElem_cons_succ, List.getElem_cons_zero, Act.put, List.setIfInBounds_toArray, List.set_cons_zero, List.set_cons_succ]
                        refine wpAnyH_take (i := 18) (v := ?_) rfl (by kernel_rfl) (by kernel_rfl) (by kernel_rfl) (fun _ _ _ h => h) (.inl ⟨by kernel_rfl, fun w' hS => ?_⟩) hS ?_
                        rotate_left
                        ·
                          obtain ⟨q1, q2, q3⟩ := hS; have hd1 : ¬ E.length ≤ n := (by omega); have hd2 : ¬ (E.length : Int) ≤ (n : Int) := (by omega); have hd3 : ¬ (n : Int) ≤ l := (by omega); have hd5 : 0 < j := (by omega); have hd6 : (0 : Int) < (j : Int) := (by omega)
                          go_simp
                          try with_reducible rfl
                        simp only [List.getElem_toArray, List.getElem_cons_succ, List.getElem_cons_zero, Act.put, List.setIfInBounds_toArray, List.set_cons_zero, List.set_cons_succ]
                        refine wpAnyH_take (i := 19) (v := ?_) rfl (by kernel_rfl) (by kernel_rfl) (by kernel_rfl) (fun _ _ _ h => h) (.inl ⟨by kernel_rfl, fun w' hS => ?_⟩) hS ?_
                        rotate_left
                        ·
                          obtain ⟨q1, q2, q3⟩ := hS; have hd1 : ¬ E.length ≤ n := (by omega); have hd2 : ¬ (E.length : Int) ≤ (n : Int) := (by omega); have hd3 : ¬ (n : Int) ≤ l := (by omega); have hd5 : 0 < j := (by omega); have hd6 : (0 : Int) < (j : Int) := (by omega)
                          go_simp
                          try with_reducible rfl
                        simp only [List.getElem_toArray, List.getElem_cons_succ, List.getElem_cons_zero, Act.put, List.setIfInBounds_toArray, List.set_cons_zero, List.set_cons_succ]
                        refine wpAnyH_take (i := 20) (v := ?_) rfl (by kernel_rfl) (by kernel_rfl) (by kernel_rfl) (fun _ _ _ h => h) (.inl ⟨by kernel_rfl, fun w' hS => ?_⟩) hS ?_
                        rotate_left
                        ·
                          obtain ⟨q1, q2, q3⟩ := hS; have hd1 : ¬ E.length ≤ n := (by omega); have hd2 : ¬ (E.length : Int) ≤ (n : Int) := (by omega); have hd3 : ¬ (n : Int) ≤ l := (by omega); have hd5 : 0 < j := (by omega); have hd6 : (0 : Int) < (j : Int) := (by omega)
                          go_simp
                          try with_reducible rfl
                        simp only [List.getElem_toArray, List.getElem_cons_succ, List.getElem_cons_zero, Act.put, List.setIfInBounds_toArray, List.set_cons_zero, List.set_cons_succ]
                        refine wpAnyH_take (i := 21) (v := ?_) rfl (by kernel_rfl) (by kernel_rfl) (by kernel_rfl) (fun _ _ _ h => h) (.inl ⟨by kernel_rfl, fun w' hS => ?_⟩) hS ?_
                        rotate_left
                        ·
                          obtain ⟨q1, q2, q3⟩ := hS; have hd1 : ¬ E.length ≤ n := (by omega); have hd2 : ¬ (E.length : Int) ≤ (n : Int) := (by omega); have hd3 : ¬ (n : Int) ≤ l := (by omega); have hd5 : 0 < j := (by omega); have hd6 : (0 : Int) < (j : Int) := (by omega)
                          go_simp
                          try with_reducible rfl
                        simp only [List.getElem_toArray, List.getElem_cons_succ, List.getElem_cons_zero, Act.put, List.setIfInBounds_toArray, List.set_cons_zero, List.set_cons_succ]
                        refine wpAnyH_take (i := 22) (v := ?_) rfl (by kernel_rfl) (by kernel_rfl) (by kernel_rfl) (fun _ _ _ h => h) (.inl ⟨by kernel_rfl, fun w' hS => ?_⟩) hS ?_
                        rotate_left
                        ·
                          obtain ⟨q1, q2, q3⟩ := hS; have hd1 : ¬ E.length ≤ n := (by omega); have hd2 : ¬ (E.length : Int) ≤ (n : Int) := (by omega); have hd3 : ¬ (n : Int) ≤ l := (by omega); have hd5 : 0 < j := (by omega); have hd6 : (0 : Int) < (j : Int) := (by omega)
                          go_simp
                          try with_reducible rfl
                        simp only [List.getElem_toArray, List.getElem_cons_succ, List.getElem_cons_zero, Act.put, List.setIfInBounds_toArray, List.set_cons_zero, List.set_cons_succ]
                        refine wpAnyH_take (i := 23) (v := ?_) rfl (by kernel_rfl) (by kernel_rfl) (by kernel_rfl) (fun _ _ _ h => h) (.inl ⟨by kernel_rfl, fun w' hS => ?_⟩) hS ?_
                        rotate_left
                        ·
                          obtain ⟨q1, q2, q3⟩ := hS; have hd1 : ¬ E.length ≤ n := (by omega); have hd2 : ¬ (E.length : Int) ≤ (n : Int) := (by omega); have hd3 : ¬ (n : Int) ≤ l := (by omega); have hd5 : 0 < j := (by omega); have hd6 : (0 : Int) < (j : Int) := (by omega)
                          go_simp
                          try with_reducible rfl
                        simp only [List.getElem_toArray, List.getElem_cons_succ, List.getElem_cons_zero, Act.put, List.setIfInBounds_toArray, List.set_cons_zero, List.set_cons_succ]
                        refine wpAnyH_take (i := 24) (v := ?_) rfl (by kernel_rfl) (by kernel_rfl) (by kernel_rfl) (fun _ _ _ h => h) (.inl ⟨by kernel_rfl, fun w' hS => ?_⟩) hS ?_
                        rotate_left
                        ·
                          obtain ⟨q1, q2, q3⟩ := hS; have hd1 : ¬ E.length ≤ n := (by omega); have hd2 : ¬ (E.length : Int) ≤ (n : Int) := (by omega); have hd3 : ¬ (n : Int) ≤ l := (by omega); have hd5 : 0 < j := (by omega); have hd6 : (0 : Int) < (j : Int) := (by omega)
                          go_simp
                          try with_reducible rfl
                        simp only [List.getElem_toArray, List.getElem_cons_succ, List.getElem_cons_zero, Act.put, List.setIfInBounds_toArray, List.set_cons_zero, List.set_cons_succ]
                        refine wpAnyH_take (i := 25) (v := ?_) rfl (by kernel_rfl) (by kernel_rfl) (by kernel_rfl) (fun _ _ _ h => h) (.inl ⟨by kernel_rfl, fun w' hS => ?_⟩) hS ?_
                        rotate_left
                        ·
                          obtain ⟨q1, q2, q3⟩ := hS; have hd1 : ¬ E.length ≤ n := (by omega); have hd2 : ¬ (E.length : Int) ≤ (n : Int) := (by omega); have hd3 : ¬ (n : Int) ≤ l := (by omega); have hd5 : 0 < j := (by omega); have hd6 : (0 : Int) < (j : Int) := (by omega)
                          go_simp
                          try with_reducible rfl
                        simp only [List.getElem_toArray, List.getElem_cons_succ, List.getElem_cons_zero, Act.put, List.setIfInBounds_toArray, List.set_cons_zero, List.set_cons_succ]
                        refine wpAnyH_take (i := 26) (v := ?_) rfl (by kernel_rfl) (by kernel_rfl) (by kernel_rfl) (fun _ _ _ h => h) (.inl ⟨by kernel_rfl, fun w' hS => ?_⟩) hS ?_
                        rotate_left
                        ·
                          obtain ⟨q1, q2, q3⟩ := hS; have hd1 : ¬ E.length ≤ n := (by omega); have hd2 : ¬ (E.length : Int) ≤ (n : Int) := (by omega); have hd3 : ¬ (n : Int) ≤ l := (by omega); have hd5 : 0 < j := (by omega); have hd6 : (0 : Int) < (j : Int) := (by omega)
                          go_simp
                          try with_reducible rfl
                        simp only [List.getElem_toArray, List.getElem_cons_succ, List.getElem_cons_zero, Act.put, List.setIfInBounds_toArray, List.set_cons_zero, List.set_cons_succ]
                        refine wpAnyH_take (i := 27) (v := ?_) rfl (by kernel_rfl) (by kernel_rfl) (by kernel_rfl) (fun _ _ _ h => h) (.inl ⟨by kernel_rfl, fun w' hS => ?_⟩) hS ?_
                        rotate_left
                        ·
                          obtain ⟨q1, q2, q3⟩ := hS; have hd1 : ¬ E.length ≤ n := (by omega); have hd2 : ¬ (E.length : Int) ≤ (n : Int) := (by omega); have hd3 : ¬ (n : Int) ≤ l := (by omega); have hd5 : 0 < j := (by omega); have hd6 : (0 : Int) < (j : Int) := (by omega)
                          go_simp
                          try with_reducible rfl
                        simp only [List.getElem_toArray, List.getElem_cons_succ, List.getElem_cons_zero, Act.put, List.setIfInBounds_toArray, List.set_cons_zero, List.set_cons_succ]
                        refine wpAnyH_take (i := 28) (v := ?_) rfl (by kernel_rfl) (by kernel_rfl) (by kernel_rfl) (fun _ _ _ h => h) (.inl ⟨by kernel_rfl, fun w' hS => ?_⟩) hS ?_
                        rotate_left
                        ·
                          obtain ⟨q1, q2, q3⟩ := hS; have hd1 : ¬ E.length ≤ n := (by omega); have hd2 : ¬ (E.length : Int) ≤ (n : Int) := (by omega); have hd3 : ¬ (n : Int) ≤ l := (by omega); have hd5 : 0 < j := (by omega); have hd6 : (0 : Int) < (j : Int) := (by omega)
                          go_simp
                          try with_reducible rfl
                        simp only [List.getElem_toArray, List.getElem_cons_succ, List.getElem_cons_zero, Act.put, List.setIfInBounds_toArray, List.set_cons_zero, List.set_cons_succ]
                        refine wpAnyH_take (i := 29) (v := ?_) rfl (by kernel_rfl) (by kernel_rfl) (by kernel_rfl) (fun _ _ _ h => h) (.inl ⟨by kernel_rfl, fun w' hS => ?_⟩) hS ?_
                        rotate_left
                        ·
                          obtain ⟨q1, q2, q3⟩ := hS; have hd1 : ¬ E.length ≤ n := (by omega); have hd2 : ¬ (E.length : Int) ≤ (n : Int) := (by omega); have hd3 : ¬ (n : Int) ≤ l := (by omega); have hd5 : 0 < j := (by omega); have hd6 : (0 : Int) < (j : Int) := (by omega)
                          go_simp
                          try with_reducible rfl
                        simp only [List.getElem_toArray, List.getElem_cons_succ, List.getElem_cons_zero, Act.put, List.setIfInBounds_toArray, List.set_cons_zero, List.set_cons_succ]
                        refine wpAnyH_take (i := 30) (v := ?_) rfl (by kernel_rfl) (by kernel_rfl) (by kernel_rfl) (fun _ _ _ h => h) (.inl ⟨by kernel_rfl, fun w' hS => ?_⟩) hS ?_
                        rotate_left
                        ·
                          obtain ⟨q1, q2, q3⟩ := hS; have hd1 : ¬ E.length ≤ n := (by omega); have hd2 : ¬ (E.length : Int) ≤ (n : Int) := (by omega); have hd3 : ¬ (n : Int) ≤ l := (by omega); have hd5 : 0 < j := (by omega); have hd6 : (0 : Int) < (j : Int) := (by omega)
                          go_simp
                          try with_reducible rfl
                        simp only [List.getElem_toArray, List.getElem_cons_succ, List.getElem_cons_zero, Act.put, List.setIfInBounds_toArray, List.set_cons_zero, List.set_cons_succ]
                        refine wpAnyH_take (i := 31) (v := ?_) rfl (by kernel_rfl) (by kernel_rfl) (by kernel_rfl) (fun _ _ _ h => h) (.inl ⟨by kernel_rfl, fun w' hS => ?_⟩) hS ?_
                        rotate_left
                        ·
                          obtain ⟨q1, q2, q3⟩ := hS; have hd1 : ¬ E.length ≤ n := (by omega); have hd2 : ¬ (E.length : Int) ≤ (n : Int) := (by omega); have hd3 : ¬ (n : Int) ≤ l := (by omega); have hd5 : 0 < j := (by omega); have hd6 : (0 : Int) < (j : Int) := (by omega)
                          go_simp
                          try with_reducible rfl
                        simp only [List.getElem_toArray, List.getElem_cons_succ, List.getElem_cons_zero, Act.put, List.setIfInBounds_toArray, List.set_cons_zero, List.set_cons_succ]
                        refine wpAnyH_take (i := 32) (v := ?_) rfl (by kernel_rfl) (by kernel_rfl) (by kernel_rfl) (fun _ _ _ h => h) (.inl ⟨by kernel_rfl, fun w' hS => ?_⟩) hS ?_
                        rotate_left
                        ·
                          obtain ⟨q1, q2, q3⟩ := hS; have hd1 : ¬ E.length ≤ n := (by omega); have hd2 : ¬ (E.length : Int) ≤ (n : Int) := (by omega); have hd3 : ¬ (n : Int) ≤ l := (by omega); have hd5 : 0 < j := (by omega); have hd6 : (0 : Int) < (j : Int) := (by omega)
                          go_simp
                          try with_reducible rfl
                        simp only [List.getElem_toArray, List.getElem_cons_succ, List.getElem_cons_zero, Act.put, List.setIfInBounds_toArray, List.set_cons_zero, List.set_cons_succ]
                        refine wpAnyH_take (i := 33) (v := ?_) rfl (by kernel_rfl) (by kernel_rfl) (by kernel_rfl) (fun _ _ _ h => h) (.inl ⟨by kernel_rfl, fun w' hS => ?_⟩) hS ?_
                        rotate_left
                        ·
                          obtain ⟨q1, q2, q3⟩ := hS; have hd1 : ¬ E.length ≤ n := (by omega); have hd2 : ¬ (E.length : Int) ≤ (n : Int) := (by omega); have hd3 : ¬ (n : Int) ≤ l := (by omega); have hd5 : 0 < j := (by omega); have hd6 : (0 : Int) < (j : Int) := (by omega)
                          go_simp
                          try with_reducible rfl
                        simp only [List.getElem_toArray, List.getElem_cons_succ, List.getElem_cons_zero, Act.put, List.setIfInBounds_toArray, List.set_cons_zero, List.set_cons_succ]
                        refine wpAnyH_done (by kernel_rfl) ?_ _
                        obtain ⟨q1, q2⟩ : V0.cell? ⟨w.heap.size, 1, none⟩ = some (.slice (some ⟨b2, off2, none⟩) edges.length ce) ∧ V0.cell? ⟨b2, off2 + j, none⟩ = some (.int .i64 (n : Int)) := ⟨hS.1, hS.2.1⟩
                        clear hS
                        have hst4 := stay_of_below hWd.out.below
                        have hec3 := (hec.out.stay hst4).mono hWd.out.below.size
                        obtain ⟨ao3, cap3, hvv3, hec4⟩ := hec3.form
                        obtain ⟨rfl, rfl⟩ : ao = ao3 ∧ cap = cap3 := by injection hvv3 with h1 h2 h3; exact ⟨h1, h3⟩
                        obtain ⟨b3, off3, u3, rfl, -, hEc, hEt⟩ := hec4 n hnE
                        have hcd : coveredR E (edges.take (j + 1)) = coveredR E (edges.take j) ++ E[n] := by
                          rw [hcs.out, Int.toNat_natCast, List.getD_eq_getElem?_getD, List.getElem?_eq_getElem hnE, Option.getD_some]
                        have hEl2 := hEe _ (List.getElem_mem hnE)
                        have hrow3 := hEt.row
                        have hone3 : ∀ u ∈ textsV E[n], u.oneCell' = true := fun u hu => by
                          obtain ⟨s, -, rfl⟩ := List.mem_map.1 hu
                          rfl
                        have hown3 := hWd.out.own
                        have hsz3 := hWd.out.below.size
                        have hnEi : (n : Int) < (E.length : Int) := by omega
                        have hnE0 : (0 : Int) ≤ (n : Int) := by omega
                        clear hec3 hec4 hvv3 hEt hcs hst4
                        replace hcd := Lib.hid hcd
                        replace hec := Lib.hid hec
                        go_wp2_with (at_builtin; refine wpList_app_texts rfl _ _ rfl w1.heap.size _ u3 _ _ (textsV E[n]) rfl hown3 rfl hrow3 hone3 ?cxa2 hsz3 ?cya2)
                        case cxa2 => simp only [textsV_length]; omega
                        case cya2 =>
                          intro v' w' g1 g2
                          have g3 : w'.ownsRow w1.heap.size 9 1 v' ((textsV (coveredR E (edges.take j))).length + (textsV E[n]).length) (textsV (coveredR E (edges.take j)) ++ textsV E[n]) := by rw [textsV_length, textsV_length]; exact g1
                          have hW5 := Lib.hid (hWd.out.stepN hsz3 g3 g2)
                          have hb5 : Hid (OW 9 w1 w1.heap.size v' (textsV (coveredR E (edges.take (j + 1)))) w') := by
                            rw [hcd.out]
                            have := hW5.out
                            unfold textsV at this ⊢
                            rw [List.map_append]
                            exact Lib.hid this
                          clear hW5 hWd hown3 g1 g2 g3
                          go_wp2
                          go_round
                          case rel => exact ⟨j + 1, n, hj1.out, by go_num, hll3, hb5, hr⟩
                          case measure => have := hj1.out; simp [intOf]; omega
              · have hji : ¬ (j : Int) < (edges.length : Int) := by omega
                obtain rfl : j = edges.length := by omega
                rw [List.drop_length, riseE] at hr
                have hq6 := hq5.out
                rw [← hr.out, Bool.true_and] at hq6
                rw [List.take_length] at hW
                obtain ⟨ac, cc, rfl⟩ := hW.out.form
                have hcl := covered_len hEe edges
                have hwi := Lib.hid (within_any wr av cv names ac cc (coveredR E edges) (by omega) (by omega) (fun j hj => by
                  obtain ⟨b, off, h1, h2⟩ := hxv.out j hj
                  exact ⟨b, off, h1, (cell_lt (hst.cell h2)), hst.cell h2⟩) (fun j hj => by
                  obtain ⟨aa, cp, h0, -, h1⟩ := hW.out.row.form
                  obtain ⟨b, off, h2, h3, h4⟩ := h1 j (by simpa using hj)
                  injection h0 with h5 h6 h7
                  exact ⟨b, off, h5.trans h2, h3, by rw [h4]; simp [textsV]⟩))
                rw [textsV_length] at hW ⊢
                replace hq6 := Lib.hid hq6
                clear hr hq5 hll hlt
                go_wp2_with fail
                refine hwi.out.mono ?_
                rintro e1 w4 ⟨rfl, rfl⟩
                go_wp2
                go_ret
                exact ⟨ret_bool hq6.out, hbr.out⟩
      · have hpi : (p != -1) = true := by simpa using hp
        have hpar : parOK i p = false := by unfold parOK; rw [if_pos hk0, decide_eq_false hp]
        have hqf := Lib.hid (hbad.out (by rw [hpar]; rfl))
        try replace hp := Lib.hid hp
        try replace hk0 := Lib.hid hk0
        clear hbad hq3 hxv hxe hec hix
        go_enter Try.func42, Try.ntmps42
        go_wp2
        go_ret
        exact ⟨ret_bool hqf.out.symm, hbw.out⟩
    · have hk0i : ((i : Int) == 0) = false := beq_eq_false_iff_ne.2 (by omega)
      have hk0j : (0 : Int) < (i : Int) := by omega
      by_cases hp1 : p < 0
      · have hpar : parOK i p = false := by unfold parOK; rw [if_neg hk0, decide_eq_false (by omega)]
        have hqf := Lib.hid (hbad.out (by rw [hpar]; rfl))
        try replace hp := Lib.hid hp
        try replace hk0 := Lib.hid hk0
        clear hbad hq3 hxv hxe hec hix
        go_enter Try.func42, Try.ntmps42
        go_wp2
        go_ret
        exact ⟨ret_bool hqf.out.symm, hbw.out⟩
      · by_cases hp2 : (i : Int) ≤ p
        · have hpar : parOK i p = false := by unfold parOK; rw [if_neg hk0, decide_eq_false (by omega)]
          have hqf := Lib.hid (hbad.out (by rw [hpar]; rfl))
          try replace hp := Lib.hid hp
          try replace hk0 := Lib.hid hk0
          clear hbad hq3 hxv hxe hec hix
          go_enter Try.func42, Try.ntmps42
          go_wp2
          go_ret
          exact ⟨ret_bool hqf.out.symm, hbw.out⟩
        · have hpar : parOK i p = true := by unfold parOK; rw [if_neg hk0, decide_eq_true (by omega)]
          have hq4 := Lib.hid (hq3.out (by rw [hpar, hwel]; rfl))
          clear hbad hq3
          replace hpar := Lib.hid hpar
          replace hk0 := Lib.hid hk0
          try replace hp := Lib.hid hp
          go_enter Try.func42, Try.ntmps42
          go_wp2
          generalize w.alloc (.cells #[.slice av names.length cv, .slice ae edges.length ce, .int .i64 p] 45) = w1 at *
          obtain ⟨R1, hR1⟩ : ∃ R, riseB ns names (-1) = R := ⟨_, rfl⟩
          rw [hR1] at hq4
          have hR1b : Hid (riseB ns (names.drop 0) (-1) = R1) := hR1
          clear hR1
          go_loop [11, 12] (fun la k => ∃ (j : Nat) (l : Int), j ≤ names.length ∧ k = .int .i64 (j : Int) ∧ la = .int .i64 l ∧ -1 ≤ l ∧ Hid (riseB ns (names.drop j) l = R1)) (fun _ k => names.length - (intOf k).toNat)
          case atStart => exact ⟨0, -1, by omega, rfl, rfl, by omega, hR1b⟩
          case round =>
            clear hR1b
            obtain ⟨j, l, hj, rfl, rfl, hl, hr⟩ := hrel
            by_cases hlt : j < names.length
            · have hji : (j : Int) < (names.length : Int) := by omega
              have hj1 := Lib.hid (show j + 1 ≤ names.length from hlt)
              obtain ⟨b, off, rfl, hc⟩ := hxv.out j hlt
              have hdr : names.drop j = names[j] :: names.drop (j + 1) := List.drop_eq_getElem_cons hlt
              rw [hdr, riseB] at hr
              generalize names[j] = x at *
              clear hdr hlt
              have hi2 := Lib.hid (hix.out x)
              have hge := idxI_ge ns x
              generalize idxI ns x = ix at *
              by_cases hle : ix ≤ l
              · rw [if_pos hle] at hr
                have hqf : Hid (q = false) := Lib.hid (by rw [← hq4.out, ← hr.out]; rfl)
                clear hr
                go_wp2_with fail
                refine hi2.out.mono ?_
                rintro e1 w4 ⟨rfl, rfl⟩
                go_wp2
                go_ret
                exact ⟨ret_bool hqf.out.symm, hbw.out⟩
              · rw [if_neg hle] at hr
                go_wp2_with fail
                refine hi2.out.mono ?_
                rintro e1 w4 ⟨rfl, rfl⟩
                go_wp2
                go_round
                case rel => exact ⟨j + 1, ix, hj1.out, by go_num, rfl, hge, hr⟩
                case measure => have := hj1.out; simp [intOf]; omega
            · have hji : ¬ (j : Int) < (names.length : Int) := by omega
              obtain rfl : j = names.length := by omega
              rw [List.drop_length, riseB] at hr
              have hq5 := hq4.out
              rw [← hr.out, Bool.true_and] at hq5
              obtain ⟨R2, hR2⟩ : ∃ R, riseE E.length edges (-1) = R := ⟨_, rfl⟩
              rw [hR2] at hq5
              have hR2b : Hid (riseE E.length (edges.drop 0) (-1) = R2) := hR2
              replace hq5 := Lib.hid hq5
              clear hq4 hr hlt hR2 hix
              go_wp2
              go_loopw [14, 15] (fun cv2 k wr => ∃ (j : Nat) (l : Int), j ≤ edges.length ∧ k = .int .i64 (j : Int) ∧ Hid (-1 ≤ l ∧ (j = 0 → l = -1) ∧ (0 < j → ∃ h : j - 1 < edges.length, edges[j - 1] = l)) ∧ Hid (OW 9 w1 w1.heap.size cv2 (textsV (coveredR E (edges.take j))) wr) ∧ Hid (riseE E.length (edges.drop j) l = R2)) (fun _ k _ => edges.length - (intOf k).toNat)
              case atStart => exact ⟨0, -1, by omega, rfl, Lib.hid ⟨by omega, fun _ => rfl, fun h => by omega⟩, Lib.hid (OW.start _ _ _), hR2b⟩
              case round =>
                clear hR2b
                obtain ⟨j, l, hj, rfl, hll, hW, hr⟩ := hrel
                have hst := stay_of_below hW.out.below
                have y0r := hst.cell y0
                have y1r := hst.cell y1
                have hbr := Lib.hid (hbw.out.trans (hW.out.below.mono hbw.out.size))
                by_cases hlt : j < edges.length
                · have hji : (j : Int) < (edges.length : Int) := by omega
                  have hj1 := Lib.hid (show j + 1 ≤ edges.length from hlt)
                  obtain ⟨b2, off2, hae, hc⟩ := hxe.out j hlt
                  replace hc := hst.cell hc
                  have hdr : edges.drop j = edges[j] :: edges.drop (j + 1) := List.drop_eq_getElem_cons hlt
                  rw [hdr, riseE] at hr
                  have hcs := Lib.hid (covered_succ (E := E) hlt)
                  have hcl := covered_len hEe (edges.take j)
                  rw [show (edges.take j).length = j by rw [List.length_take]; omega] at hcl
                  have hprev : Hid (0 < j → ae = some ⟨b2, off2, none⟩ → wr.cell? ⟨b2, off2 + (j - 1), none⟩ = some (.int .i64 l)) := Lib.hid fun h0 h1 => by
                    obtain ⟨h2, h3⟩ := hll.out.2.2 h0
                    obtain ⟨b3, off3, h4, h5⟩ := hxe.out (j - 1) h2
                    rw [h1] at h4
                    cases h4
                    rw [hst.cell h5, h3]
                  subst hae
                  generalize hxx : edges[j] = x at *
                  have hll2 : Hid (-1 ≤ x → -1 ≤ x ∧ (j + 1 = 0 → x = -1) ∧ (0 < j + 1 → ∃ h : j + 1 - 1 < edges.length, edges[j + 1 - 1] = x)) := Lib.hid fun h => ⟨h, fun h => by omega, fun _ => ⟨by simpa using hlt, hxx⟩⟩
                  have hl1 := hll.out.1
                  have hbd : Hid (Below w.heap.size w wr.drew) := Lib.hid (hbr.out.trans ⟨rfl, rfl, rfl, Nat.le_refl _, fun _ _ => rfl⟩)
                  have hWd : Hid (OW 9 w1 w1.heap.size u14 (textsV (coveredR E (edges.take j))) wr.drew) := Lib.hid (hW.out.on hW.out.below.size ⟨rfl, rfl, rfl, Nat.le_refl _, fun _ _ => rfl⟩)
                  clear hdr hxx
                  by_cases hx0 : x < 0
                  · have hqf : Hid (q = false) := Lib.hid (by
                      rw [if_pos (.inl (by omega))] at hr
                      rw [← hq5.out, ← hr.out]; rfl)
                    clear hr hcs hprev hll2 hll hcl
                    go_wp2_with fail
                    refine wp_region_held_drew (S := fun V => V.cell? ⟨w.heap.size, 1, none⟩ = some (.slice (some ⟨b2, off2, none⟩) edges.length ce) ∧ V.cell? ⟨b2, off2 + j, none⟩ = some (.int .i64 x)) (by kernel_rfl) ⟨y1r, hc⟩ (fun hS => ?_)
                    generalize wr.drew = V0 at *
                    refine wpAnyH_take (i := 0) (v := ?_) rfl (by kernel_rfl) (by kernel_rfl) (by kernel_rfl) (fun _ _ _ h => h) (.inl ⟨by kernel_rfl, fun w' hS => ?_⟩) hS ?_
                    rotate_left
                    ·
                      obtain ⟨q1, q2⟩ := hS; skip
                      go_simp
                      try with_reducible rfl
                    simp only [List.getElem_toArray, List.getElem_cons_succ, List.getElem_cons_zero, Act.put, List.setIfInBounds_toArray, List.set_cons_zero, List.set_cons_succ]
                    refine wpAnyH_take (i := 1) (v := ?_) rfl (by kernel_rfl) (by kernel_rfl) (by kernel_rfl) (fun _ _ _ h => h) (.inl ⟨by kernel_rfl, fun w' hS => ?_⟩) hS ?_
                    rotate_left
                    ·
                      obtain ⟨q1, q2⟩ := hS; skip
                      go_simp
                      try with_reducible rfl
                    simp only [List.getElem_toArray, List.getElem_cons_succ, List.getElem_cons_zero, Act.put, List.setIfInBounds_toArray, List.set_cons_zero, List.set_cons_succ]
                    refine wpAnyH_take (i := 2) (v := ?_) rfl (by kernel_rfl) (by kernel_rfl) (by kernel_rfl) (fun _ _ _ h => h) (.inl ⟨by kernel_rfl, fun w' hS => ?_⟩) hS ?_
                    rotate_left
                    ·
                      obtain ⟨q1, q2⟩ := hS; skip
                      go_simp
                      try with_reducible rfl
                    simp only [List.getElem_toArray, List.getElem_cons_succ, List.getElem_cons_zero, Act.put, List.setIfInBounds_toArray, List.set_cons_zero, List.set_cons_succ]
                    refine wpAnyH_take (i := 3) (v := ?_) rfl (by kernel_rfl) (by kernel_rfl) (by kernel_rfl) (fun _ _ _ h => h) (.inl ⟨by kernel_rfl, fun w' hS => ?_⟩) hS ?_
                    rotate_left
                    ·
                      obtain ⟨q1, q2⟩ := hS; skip
                      go_simp
                      try with_reducible rfl
                    simp only [List.getElem_toArray, List.getElem_cons_succ, List.getElem_cons_zero, Act.put, List.setIfInBounds_toArray, List.set_cons_zero, List.set_cons_succ]
                    refine wpAnyH_take (i := 4) (v := ?_) rfl (by kernel_rfl) (by kernel_rfl) (by kernel_rfl) (fun _ _ _ h => h) (.inl ⟨by kernel_rfl, fun w' hS => ?_⟩) hS ?_
                    rotate_left
                    ·
                      obtain ⟨q1, q2⟩ := hS; skip
                      go_simp
                      try with_reducible rfl
                    simp only [List.getElem_toArray, List.getElem_cons_succ, List.getElem_cons_zero, Act.put, List.setIfInBounds_toArray, List.set_cons_zero, List.set_cons_succ]
                    refine wpAnyH_take (i := 5) (v := ?_) rfl (by kernel_rfl) (by kernel_rfl) (by kernel_rfl) (fun _ _ _ h => h) (.inl ⟨by kernel_rfl, fun w' hS => ?_⟩) hS ?_
                    rotate_left
                    ·
                      obtain ⟨q1, q2⟩ := hS; skip
                      go_simp
                      try with_reducible rfl
                    simp only [List.getElem_toArray, List.getElem_cons_succ, List.getElem_cons_zero, Act.put, List.setIfInBounds_toArray, List.set_cons_zero, List.set_cons_succ]
                    refine wpAnyH_take (i := 6) (v := ?_) rfl (by kernel_rfl) (by kernel_rfl) (by kernel_rfl) (fun _ _ _ h => h) (.inl ⟨by kernel_rfl, fun w' hS => ?_⟩) hS ?_
                    rotate_left
                    ·
                      obtain ⟨q1, q2⟩ := hS; skip
                      go_simp
                      try with_reducible rfl
                    simp only [List.getElem_toArray, List.getElem_cons_succ, List.getElem_cons_zero, Act.put, List.setIfInBounds_toArray, List.set_cons_zero, List.set_cons_succ]
                    refine wpAnyH_take (i := 7) (v := undef) rfl (by kernel_rfl) (by kernel_rfl) (by kernel_rfl) (fun _ _ _ h => h) (.inr ⟨by kernel_rfl, rfl⟩) hS ?_
                    simp only [List.getElem_toArray, List.getElem_cons_succ, List.getElem_cons_zero, Act.put, List.setIfInBounds_toArray, List.set_cons_zero, List.set_cons_succ]
                    refine wpAnyH_take (i := 8) (v := undef) rfl (by kernel_rfl) (by kernel_rfl) (by kernel_rfl) (fun _ _ _ h => h) (.inr ⟨by kernel_rfl, rfl⟩) hS ?_
                    simp only [List.getElem_toArray, List.getElem_cons_succ, List.getElem_cons_zero, Act.put, List.setIfInBounds_toArray, List.set_cons_zero, List.set_cons_succ]
                    refine wpAnyH_take (i := 9) (v := undef) rfl (by kernel_rfl) (by kernel_rfl) (by kernel_rfl) (fun _ _ _ h => h) (.inr ⟨by kernel_rfl, rfl⟩) hS ?_
                    simp only [List.getElem_toArray, List.getElem_cons_succ, List.getElem_cons_zero, Act.put, List.setIfInBounds_toArray, List.set_cons_zero, List.set_cons_succ]
                    refine wpAnyH_take (i := 10) (v := undef) rfl (by kernel_rfl) (by kernel_rfl) (by kernel_rfl) (fun _ _ _ h => h) (.inr ⟨by kernel_rfl, rfl⟩) hS ?_
                    simp only [List.getElem_toArray, List.getElem_cons_succ, List.getElem_cons_zero, Act.put, List.setIfInBounds_toArray, List.set_cons_zero, List.set_cons_succ]
                    refine wpAnyH_take (i := 11) (v := undef) rfl (by kernel_rfl) (by kernel_rfl) (by kernel_rfl) (fun _ _ _ h => h) (.inr ⟨by kernel_rfl, rfl⟩) hS ?_
                    simp only [List.getElem_toArray, List.getElem_cons_succ, List.getElem_cons_zero, Act.put, List.setIfInBounds_toArray, List.set_cons_zero, List.set_cons_succ]
                    refine wpAnyH_take (i := 12) (v := undef) rfl (by kernel_rfl) (by kernel_rfl) (by kernel_rfl) (fun _ _ _ h => h) (.inr ⟨by kernel_rfl, rfl⟩) hS ?_
                    simp only [List.getElem_toArray, List.getElem_cons_succ, List.getElem_cons_zero, Act.put, List.setIfInBounds_toArray, List.set_cons_zero, List.set_cons_succ]
                    refine wpAnyH_take (i := 13) (v := undef) rfl (by kernel_rfl) (by kernel_rfl) (by kernel_rfl) (fun _ _ _ h => h) (.inr ⟨by kernel_rfl, rfl⟩) hS ?_
                    simp only [List.getElem_toArray, List.getElem_cons_succ, List.getElem_cons_zero, Act.put, List.setIfInBounds_toArray, List.set_cons_zero, List.set_cons_succ]
                    refine wpAnyH_take (i := 14) (v := undef) rfl (by kernel_rfl) (by kernel_rfl) (by kernel_rfl) (fun _ _ _ h => h) (.inr ⟨by kernel_rfl, rfl⟩) hS ?_
                    simp only [List.getElem_toArray, List.getElem_cons_succ, List.getElem_cons_zero, Act.put, List.setIfInBounds_toArray, List.set_cons_zero, List.set_cons_succ]
                    refine wpAnyH_take (i := 15) (v := ?_) rfl (by kernel_rfl) (by kernel_rfl) (by kernel_rfl) (fun _ _ _ h => h) (.inl ⟨by kernel_rfl, fun w' hS => ?_⟩) hS ?_
                    rotate_left
                    ·
                      obtain ⟨q1, q2⟩ := hS; skip
                      go_simp
                      try with_reducible rfl
                    simp only [List.getElem_toArray, List.getElem_cons_succ, List.getElem_cons_zero, Act.put, List.setIfInBounds_toArray, List.set_cons_zero, List.set_cons_succ]
                    refine wpAnyH_take (i := 16) (v := ?_) rfl (by kernel_rfl) (by kernel_rfl) (by kernel_rfl) (fun _ _ _ h => h) (.inl ⟨by kernel_rfl, fun w' hS => ?_⟩) hS ?_
                    rotate_left
                    ·
                      obtain ⟨q1, q2⟩ := hS; skip
                      go_simp
                      try with_reducible rfl
                    simp only [List.getElem_toArray, List.getElem_cons_succ, List.getElem_cons_zero, Act.put, List.setIfInBounds_toArray, List.set_cons_zero, List.set_cons_succ]
                    refine wpAnyH_take (i := 17) (v := undef) rfl (by kernel_rfl) (by kernel_rfl) (by kernel_rfl) (fun _ _ _ h => h) (.inr ⟨by kernel_rfl, rfl⟩) hS ?_
                    simp only [List.getElem_toArray, List.getElem_cons_succ, List.getElem_cons_zero, Act.put, List.setIfInBounds_toArray, List.set_cons_zero, List.set_cons_succ]
                    refine wpAnyH_take (i := 18) (v := undef) rfl (by kernel_rfl) (by kernel_rfl) (by kernel_rfl) (fun _ _ _ h => h) (.inr ⟨by kernel_rfl, rfl⟩) hS ?_
                    simp only [List.getElem_toArray, List.getElem_cons_succ, List.getElem_cons_zero, Act.put, List.setIfInBounds_toArray, List.set_cons_zero, List.set_cons_succ]
                    refine wpAnyH_take (i := 19) (v := undef) rfl (by kernel_rfl) (by kernel_rfl) (by kernel_rfl) (fun _ _ _ h => h) (.inr ⟨by kernel_rfl, rfl⟩) hS ?_
                    simp only [List.getElem_toArray, List.getElem_cons_succ, List.getElem_cons_zero, Act.put, List.setIfInBounds_toArray, List.set_cons_zero, List.set_cons_succ]
                    refine wpAnyH_take (i := 20) (v := undef) rfl (by kernel_rfl) (by kernel_rfl) (by kernel_rfl) (fun _ _ _ h => h) (.inr ⟨by kernel_rfl, rfl⟩) hS ?_
                    simp only [List.getElem_toArray, List.getElem_cons_succ, List.getElem_cons_zero, Act.put, List.setIfInBounds_toArray, List.set_cons_zero, List.set_cons_succ]
                    refine wpAnyH_take (i := 21) (v := undef) rfl (by kernel_rfl) (by kernel_rfl) (by kernel_rfl) (fun _ _ _ h => h) (.inr ⟨by kernel_rfl, rfl⟩) hS ?_
                    simp only [List.getElem_toArray, List.getElem_cons_succ, List.getElem_cons_zero, Act.put, List.setIfInBounds_toArray, List.set_cons_zero, List.set_cons_succ]
                    refine wpAnyH_take (i := 22) (v := undef) rfl (by kernel_rfl) (by kernel_rfl) (by kernel_rfl) (fun _ _ _ h => h) (.inr ⟨by kernel_rfl, rfl⟩) hS ?_
                    simp only [List.getElem_toArray, List.getElem_cons_succ, List.getElem_cons_zero, Act.put, List.setIfInBounds_toArray, List.set_cons_zero, List.set_cons_succ]
                    refine wpAnyH_take (i := 23) (v := undef) rfl (by kernel_rfl) (by kernel_rfl) (by kernel_rfl) (fun _ _ _ h => h) (.inr ⟨by kernel_rfl, rfl⟩) hS ?_
                    simp only [List.getElem_toArray, List.getElem_cons_succ, List.getElem_cons_zero, Act.put, List.setIfInBounds_toArray, List.set_cons_zero, List.set_cons_succ]
                    refine wpAnyH_take (i := 24) (v := undef) rfl (by kernel_rfl) (by kernel_rfl) (by kernel_rfl) (fun _ _ _ h => h) (.inr ⟨by kernel_rfl, rfl⟩) hS ?_
                    simp only [List.getElem_toArray, List.getElem_cons_succ, List.getElem_cons_zero, Act.put, List.setIfInBounds_toArray, List.set_cons_zero, List.set_cons_succ]
                    refine wpAnyH_take (i := 25) (v := undef) rfl (by kernel_rfl) (by kernel_rfl) (by kernel_rfl) (fun _ _ _ h => h) (.inr ⟨by kernel_rfl, rfl⟩) hS ?_
                    simp only [List.getElem_toArray, List.getElem_cons_succ, List.getElem_cons_zero, Act.put, List.setIfInBounds_toArray, List.set_cons_zero, List.set_cons_succ]
                    refine wpAnyH_take (i := 26) (v := undef) rfl (by kernel_rfl) (by kernel_rfl) (by kernel_rfl) (fun _ _ _ h => h) (.inr ⟨by kernel_rfl, rfl⟩) hS ?_
                    simp only [List.getElem_toArray, List.getElem_cons_succ, List.getElem_cons_zero, Act.put, List.setIfInBounds_toArray, List.set_cons_zero, List.set_cons_succ]
                    refine wpAnyH_take (i := 27) (v := undef) rfl (by kernel_rfl) (by kernel_rfl) (by kernel_rfl) (fun _ _ _ h => h) (.inr ⟨by kernel_rfl, rfl⟩) hS ?_
                    simp only [List.getElem_toArray, List.getElem_cons_succ, List.getElem_cons_zero, Act.put, List.setIfInBounds_toArray, List.set_cons_zero, List.set_cons_succ]
                    refine wpAnyH_take (i := 28) (v := undef) rfl (by kernel_rfl) (by kernel_rfl) (by kernel_rfl) (fun _ _ _ h => h) (.inr ⟨by kernel_rfl, rfl⟩) hS ?_
                    simp only [List.getElem_toArray, List.getElem_cons_succ, List.getElem_cons_zero, Act.put, List.setIfInBounds_toArray, List.set_cons_zero, List.set_cons_succ]
                    refine wpAnyH_take (i := 29) (v := undef) rfl (by kernel_rfl) (by kernel_rfl) (by kernel_rfl) (fun _ _ _ h => h) (.inr ⟨by kernel_rfl, rfl⟩) hS ?_
                    simp only [List.getElem_toArray, List.getElem_cons_succ, List.getElem_cons_zero, Act.put, List.setIfInBounds_toArray, List.set_cons_zero, List.set_cons_succ]
                    refine wpAnyH_take (i := 30) (v := undef) rfl (by kernel_rfl) (by kernel_rfl) (by kernel_rfl) (fun _ _ _ h => h) (.inr ⟨by kernel_rfl, rfl⟩) hS ?_
                    simp only [List.getElem_toArray, List.getElem_cons_succ, List.getElem_cons_zero, Act.put, List.setIfInBounds_toArray, List.set_cons_zero, List.set_cons_succ]
                    refine wpAnyH_take (i := 31) (v := undef) rfl (by kernel_rfl) (by kernel_rfl) (by kernel_rfl) (fun _ _ _ h => h) (.inr ⟨by kernel_rfl, rfl⟩) hS ?_
                    simp only [List.getElem_toArray, List.getElem_cons_succ, List.getElem_cons_zero, Act.put, List.setIfInBounds_toArray, List.set_cons_zero, List.set_cons_succ]
                    refine wpAnyH_take (i := 32) (v := undef) rfl (by kernel_rfl) (by kernel_rfl) (by kernel_rfl) (fun _ _ _ h => h) (.inr ⟨by kernel_rfl, rfl⟩) hS ?_
                    simp only [List.getElem_toArray, List.getElem_cons_succ, List.getElem_cons_zero, Act.put, List.setIfInBounds_toArray, List.set_cons_zero, List.set_cons_succ]
                    refine wpAnyH_take (i := 33) (v := ?_) rfl (by kernel_rfl) (by kernel_rfl) (by kernel_rfl) (fun _ _ _ h => h) (.inl ⟨by kernel_rfl, fun w' hS => ?_⟩) hS ?_
                    rotate_left
                    ·
                      obtain ⟨q1, q2⟩ := hS; skip
                      go_simp
                      try with_reducible rfl
                    simp only [List.getElem_toArray, List.getElem_cons_succ, List.getElem_cons_zero, Act.put, List.setIfInBounds_toArray, List.set_cons_zero, List.set_cons_succ]
                    refine wpAnyH_done (by kernel_rfl) ?_ _
                    clear hS
                    go_wp2
                    go_ret
                    exact ⟨ret_bool hqf.out.symm, hbd.out⟩
                  · obtain ⟨n, rfl⟩ := Int.eq_ofNat_of_zero_le (show 0 ≤ x by omega)
                    by_cases hxm : (E.length : Int) ≤ (n : Int)
                    · have hqf : Hid (q = false) := Lib.hid (by
                        rw [if_pos (.inr hxm)] at hr
                        rw [← hq5.out, ← hr.out]; rfl)
                      clear hr hcs hprev hll2 hll hcl
                      go_wp2_with fail
                      refine wp_region_held_drew (S := fun V => V.cell? ⟨w.heap.size, 1, none⟩ = some (.slice (some ⟨b2, off2, none⟩) edges.length ce) ∧ V.cell? ⟨b2, off2 + j, none⟩ = some (.int .i64 n)) (by kernel_rfl) ⟨y1r, hc⟩ (fun hS => ?_)
                      generalize wr.drew = V0 at *
                      refine wpAnyH_take (i := 0) (v := ?_) rfl (by kernel_rfl) (by kernel_rfl) (by kernel_rfl) (fun _ _ _ h => h) (.inl ⟨by kernel_rfl, fun w' hS => ?_⟩) hS ?_
                      rotate_left
                      ·
                        obtain ⟨q1, q2⟩ := hS; have hd1 : E.length ≤ n := (by omega); have hd2 : (E.length : Int) ≤ (n : Int) := (by omega)
                        go_simp
                        try with_reducible rfl
                      simp only [List.getElem_toArray, List.getElem_cons_succ, List.getElem_cons_zero, Act.put, List.setIfInBounds_toArray, List.set_cons_zero, List.set_cons_succ]
                      refine wpAnyH_take (i := 1) (v := ?_) rfl (by kernel_rfl) (by kernel_rfl) (by kernel_rfl) (fun _ _ _ h => h) (.inl ⟨by kernel_rfl, fun w' hS => ?_⟩) hS ?_
                      rotate_left
                      ·
                        obtain ⟨q1, q2⟩ := hS; have hd1 : E.length ≤ n := (by omega); have hd2 : (E.length : Int) ≤ (n : Int) := (by omega)
                        go_simp
                        try with_reducible rfl
                      simp only [List.getElem_toArray, List.getElem_cons_succ, List.getElem_cons_zero, Act.put, List.setIfInBounds_toArray, List.set_cons_zero, List.set_cons_succ]
                      refine wpAnyH_take (i := 2) (v := ?_) rfl (by kernel_rfl) (by kernel_rfl) (by kernel_rfl) (fun _ _ _ h => h) (.inl ⟨by kernel_rfl, fun w' hS => ?_⟩) hS ?_
                      rotate_left
                      ·
                        obtain ⟨q1, q2⟩ := hS; have hd1 : E.length ≤ n := (by omega); have hd2 : (E.length : Int) ≤ (n : Int) := (by omega)
                        go_simp
                        try with_reducible rfl
                      simp only [List.getElem_toArray, List.getElem_cons_succ, List.getElem_cons_zero, Act.put, List.setIfInBounds_toArray, List.set_cons_zero, List.set_cons_succ]
                      refine wpAnyH_take (i := 3) (v := ?_) rfl (by kernel_rfl) (by kernel_rfl) (by kernel_rfl) (fun _ _ _ h => h) (.inl ⟨by kernel_rfl, fun w' hS => ?_⟩) hS ?_
                      rotate_left
                      ·
                        obtain ⟨q1, q2⟩ := hS; have hd1 : E.length ≤ n := (by omega); have hd2 : (E.length : Int) ≤ (n : Int) := (by omega)
                        go_simp
                        try with_reducible rfl
                      simp only [List.getElem_toArray, List.getElem_cons_succ, List.getElem_cons_zero, Act.put, List.setIfInBounds_toArray, List.set_cons_zero, List.set_cons_succ]
                      refine wpAnyH_take (i := 4) (v := ?_) rfl (by kernel_rfl) (by kernel_rfl) (by kernel_rfl) (fun _ _ _ h => h) (.inl ⟨by kernel_rfl, fun w' hS => ?_⟩) hS ?_
                      rotate_left
                      ·
                        obtain ⟨q1, q2⟩ := hS; have hd1 : E.length ≤ n := (by omega); have hd2 : (E.length : Int) ≤ (n : Int) := (by omega)
                        go_simp
                        try with_reducible rfl
                      simp only [List.getElem_toArray, List.getElem_cons_succ, List.getElem_cons_zero, Act.put, List.setIfInBounds_toArray, List.set_cons_zero, List.set_cons_succ]
                      refine wpAnyH_take (i := 5) (v := ?_) rfl (by kernel_rfl) (by kernel_rfl) (by kernel_rfl) (fun _ _ _ h => h) (.inl ⟨by kernel_rfl, fun w' hS => ?_⟩) hS ?_
                      rotate_left
                      ·
                        obtain ⟨q1, q2⟩ := hS; have hd1 : E.length ≤ n := (by omega); have hd2 : (E.length : Int) ≤ (n : Int) := (by omega)
                        go_simp
                        try with_reducible rfl
                      simp only [List.getElem_toArray, List.getElem_cons_succ, List.getElem_cons_zero, Act.put, List.setIfInBounds_toArray, List.set_cons_zero, List.set_cons_succ]
                      refine wpAnyH_take (i := 6) (v := ?_) rfl (by kernel_rfl) (by kernel_rfl) (by kernel_rfl) (fun _ _ _ h => h) (.inl ⟨by kernel_rfl, fun w' hS => ?_⟩) hS ?_
                      rotate_left
                      ·
                        obtain ⟨q1, q2⟩ := hS; have hd1 : E.length ≤ n := (by omega); have hd2 : (E.length : Int) ≤ (n : Int) := (by omega)
                        go_simp
                        try with_reducible rfl
                      simp only [List.getElem_toArray, List.getElem_cons_succ, List.getElem_cons_zero, Act.put, List.setIfInBounds_toArray, List.set_cons_zero, List.set_cons_succ]
                      refine wpAnyH_take (i := 7) (v := ?_) rfl (by kernel_rfl) (by kernel_rfl) (by kernel_rfl) (fun _ _ _ h => h) (.inl ⟨by kernel_rfl, fun w' hS => ?_⟩) hS ?_
                      rotate_left
                      ·
                        obtain ⟨q1, q2⟩ := hS; have hd1 : E.length ≤ n := (by omega); have hd2 : (E.length : Int) ≤ (n : Int) := (by omega)
                        go_simp
                        try with_reducible rfl
                      simp only [List.getElem_toArray, List.getElem_cons_succ, List.getElem_cons_zero, Act.put, List.setIfInBounds_toArray, List.set_cons_zero, List.set_cons_succ]
                      refine wpAnyH_take (i := 8) (v := ?_) rfl (by kernel_rfl) (by kernel_rfl) (by kernel_rfl) (fun _ _ _ h => h) (.inl ⟨by kernel_rfl, fun w' hS => ?_⟩) hS ?_
                      rotate_left
                      ·
                        obtain ⟨q1, q2⟩ := hS; have hd1 : E.length ≤ n := (by omega); have hd2 : (E.length : Int) ≤ (n : Int) := (by omega)
                        go_simp
                        try with_reducible rfl
                      simp only [List.getElem_toArray, List.getElem_cons_succ, List.getElem_cons_zero, Act.put, List.setIfInBounds_toArray, List.set_cons_zero, List.set_cons_succ]
                      refine wpAnyH_take (i := 9) (v := ?_) rfl (by kernel_rfl) (by kernel_rfl) (by kernel_rfl) (fun _ _ _ h => h) (.inl ⟨by kernel_rfl, fun w' hS => ?_⟩) hS ?_
                      rotate_left
                      ·
                        obtain ⟨q1, q2⟩ := hS; have hd1 : E.length ≤ n := (by omega); have hd2 : (E.length : Int) ≤ (n : Int) := (by omega)
                        go_simp
                        try with_reducible rfl
                      simp only [List.getElem_toArray, List.getElem_cons_succ, List.getElem_cons_zero, Act.put, List.setIfInBounds_toArray, List.set_cons_zero, List.set_cons_succ]
                      refine wpAnyH_take (i := 10) (v := ?_) rfl (by kernel_rfl) (by kernel_rfl) (by kernel_rfl) (fun _ _ _ h => h) (.inl ⟨by kernel_rfl, fun w' hS => ?_⟩) hS ?_
                      rotate_left
                      ·
                        obtain ⟨q1, q2⟩ := hS; have hd1 : E.length ≤ n := (by omega); have hd2 : (E.length : Int) ≤ (n : Int) := (by omega)
                        go_simp
                        try with_reducible rfl
                      simp only [List.getElem_toArray, List.getElem_cons_succ, List.getElem_cons_zero, Act.put, List.setIfInBounds_toArray, List.set_cons_zero, List.set_cons_succ]
                      refine wpAnyH_take (i := 11) (v := ?_) rfl (by kernel_rfl) (by kernel_rfl) (by kernel_rfl) (fun _ _ _ h => h) (.inl ⟨by kernel_rfl, fun w' hS => ?_⟩) hS ?_
                      rotate_left
                      ·
                        obtain ⟨q1, q2⟩ := hS; have hd1 : E.length ≤ n := (by omega); have hd2 : (E.length : Int) ≤ (n : Int) := (by omega)
                        go_simp
                        try with_reducible rfl
                      simp only [List.getElem_toArray, List.getElem_cons_succ, List.getElem_cons_zero, Act.put, List.setIfInBounds_toArray, List.set_cons_zero, List.set_cons_succ]
                      refine wpAnyH_take (i := 12) (v := ?_) rfl (by kernel_rfl) (by kernel_rfl) (by kernel_rfl) (fun _ _ _ h => h) (.inl ⟨by kernel_rfl, fun w' hS => ?_⟩) hS ?_
                      rotate_left
                      ·
                        obtain ⟨q1, q2⟩ := hS; have hd1 : E.length ≤ n := (by omega); have hd2 : (E.length : Int) ≤ (n : Int) := (by omega)
                        go_simp
                        try with_reducible rfl
                      simp only [List.getElem_toArray, List.getElem_cons_succ, List.getElem_cons_zero, Act.put, List.setIfInBounds_toArray, List.set_cons_zero, List.set_cons_succ]
                      refine wpAnyH_take (i := 13) (v := ?_) rfl (by kernel_rfl) (by kernel_rfl) (by kernel_rfl) (fun _ _ _ h => h) (.inl ⟨by kernel_rfl, fun w' hS => ?_⟩) hS ?_
                      rotate_left
                      ·
                        obtain ⟨q1, q2⟩ := hS; have hd1 : E.length ≤ n := (by omega); have hd2 : (E.length : Int) ≤ (n : Int) := (by omega)
                        go_simp
                        try with_reducible rfl
                      simp only [List.getElem_toArray, List.getElem_cons_succ, List.getElem_cons_zero, Act.put, List.setIfInBounds_toArray, List.set_cons_zero, List.set_cons_succ]
                      refine wpAnyH_take (i := 14) (v := ?_) rfl (by kernel_rfl) (by kernel_rfl) (by kernel_rfl) (fun _ _ _ h => h) (.inl ⟨by kernel_rfl, fun w' hS => ?_⟩) hS ?_
                      rotate_left
                      ·
                        obtain ⟨q1, q2⟩ := hS; have hd1 : E.length ≤ n := (by omega); have hd2 : (E.length : Int) ≤ (n : Int) := (by omega)
                        go_simp
                        try with_reducible rfl
                      simp only [List.getElem_toArray, List.getElem_cons_succ, List.getElem_cons_zero, Act.put, List.setIfInBounds_toArray, List.set_cons_zero, List.set_cons_succ]
                      refine wpAnyH_take (i := 15) (v := ?_) rfl (by kernel_rfl) (by kernel_rfl) (by kernel_rfl) (fun _ _ _ h => h) (.inl ⟨by kernel_rfl, fun w' hS => ?_⟩) hS ?_
                      rotate_left
                      ·
                        obtain ⟨q1, q2⟩ := hS; have hd1 : E.length ≤ n := (by omega); have hd2 : (E.length : Int) ≤ (n : Int) := (by omega)
                        go_simp
                        try with_reducible rfl
                      simp only [List.getElem_toArray, List.getElem_cons_succ, List.getElem_cons_zero, Act.put, List.setIfInBounds_toArray, List.set_cons_zero, List.set_cons_succ]
                      refine wpAnyH_take (i := 16) (v := ?_) rfl (by kernel_rfl) (by kernel_rfl) (by kernel_rfl) (fun _ _ _ h => h) (.inl ⟨by kernel_rfl, fun w' hS => ?_⟩) hS ?_
                      rotate_left
                      ·
                        obtain ⟨q1, q2⟩ := hS; have hd1 : E.length ≤ n := (by omega); have hd2 : (E.length : Int) ≤ (n : Int) := (by omega)
                        go_simp
                        try with_reducible rfl
                      simp only [List.getElem_toArray, List.getElem_cons_succ, List.getElem_cons_zero, Act.put, List.setIfInBounds_toArray, List.set_cons_zero, List.set_cons_succ]
                      refine wpAnyH_take (i := 17) (v := undef) rfl (by kernel_rfl) (by kernel_rfl) (by kernel_rfl) (fun _ _ _ h => h) (.inr ⟨by kernel_rfl, rfl⟩) hS ?_
                      simp only [List.getElem_toArray, List.getElem_cons_succ, List.getElem_cons_zero, Act.put, List.setIfInBounds_toArray, List.set_cons_zero, List.set_cons_succ]
                      refine wpAnyH_take (i := 18) (v := undef) rfl (by kernel_rfl) (by kernel_rfl) (by kernel_rfl) (fun _ _ _ h => h) (.inr ⟨by kernel_rfl, rfl⟩) hS ?_
                      simp only [List.getElem_toArray, List.getElem_cons_succ, List.getElem_cons_zero, Act.put, List.setIfInBounds_toArray, List.set_cons_zero, List.set_cons_succ]
                      refine wpAnyH_take (i := 19) (v := undef) rfl (by kernel_rfl) (by kernel_rfl) (by kernel_rfl) (fun _ _ _ h => h) (.inr ⟨by kernel_rfl, rfl⟩) hS ?_
                      simp only [List.getElem_toArray, List.getElem_cons_succ, List.getElem_cons_zero, Act.put, List.setIfInBounds_toArray, List.set_cons_zero, List.set_cons_succ]
                      refine wpAnyH_take (i := 20) (v := undef) rfl (by kernel_rfl) (by kernel_rfl) (by kernel_rfl) (fun _ _ _ h => h) (.inr ⟨by kernel_rfl, rfl⟩) hS ?_
                      simp only [List.getElem_toArray, List.getElem_cons_succ, List.getElem_cons_zero, Act.put, List.setIfInBounds_toArray, List.set_cons_zero, List.set_cons_succ]
                      refine wpAnyH_take (i := 21) (v := undef) rfl (by kernel_rfl) (by kernel_rfl) (by kernel_rfl) (fun _ _ _ h => h) (.inr ⟨by kernel_rfl, rfl⟩) hS ?_
                      simp only [List.getElem_toArray, List.getElem_cons_succ, List.getElem_cons_zero, Act.put, List.setIfInBounds_toArray, List.set_cons_zero, List.set_cons_succ]
                      refine wpAnyH_take (i := 22) (v := undef) rfl (by kernel_rfl) (by kernel_rfl) (by kernel_rfl) (fun _ _ _ h => h) (.inr ⟨by kernel_rfl, rfl⟩) hS ?_
                      simp only [List.getElem_toArray, List.getElem_cons_succ, List.getElem_cons_zero, Act.put, List.setIfInBounds_toArray, List.set_cons_zero, List.set_cons_succ]
                      refine wpAnyH_take (i := 23) (v := undef) rfl (by kernel_rfl) (by kernel_rfl) (by kernel_rfl) (fun _ _ _ h => h) (.inr ⟨by kernel_rfl, rfl⟩) hS ?_
                      simp only [List.getElem_toArray, List.getElem_cons_succ, List.getElem_cons_zero, Act.put, List.setIfInBounds_toArray, List.set_cons_zero, List.set_cons_succ]
                      refine wpAnyH_take (i := 24) (v := undef) rfl (by kernel_rfl) (by kernel_rfl) (by kernel_rfl) (fun _ _ _ h => h) (.inr ⟨by kernel_rfl, rfl⟩) hS ?_
                      simp only [List.getElem_toArray, List.getElem_cons_succ, List.getElem_cons_zero, Act.put, List.setIfInBounds_toArray, List.set_cons_zero, List.set_cons_succ]
                      refine wpAnyH_take (i := 25) (v := undef) rfl (by kernel_rfl) (by kernel_rfl) (by kernel_rfl) (fun _ _ _ h => h) (.inr ⟨by kernel_rfl, rfl⟩) hS ?_
                      simp only [List.getElem_toArray, List.getElem_cons_succ, List.getElem_cons_zero, Act.put, List.setIfInBounds_toArray, List.set_cons_zero, List.set_cons_succ]
                      refine wpAnyH_take (i := 26) (v := undef) rfl (by kernel_rfl) (by kernel_rfl) (by kernel_rfl) (fun _ _ _ h => h) (.inr ⟨by kernel_rfl, rfl⟩) hS ?_
                      simp only [List.getElem_toArray, List.getElem_cons_succ, List.getElem_cons_zero, Act.put, List.setIfInBounds_toArray, List.set_cons_zero, List.set_cons_succ]
                      refine wpAnyH_take (i := 27) (v := undef) rfl (by kernel_rfl) (by kernel_rfl) (by kernel_rfl) (fun _ _ _ h => h) (.inr ⟨by kernel_rfl, rfl⟩) hS ?_
                      simp only [List.getElem_toArray, List.getElem_cons_succ, List.getElem_cons_zero, Act.put, List.setIfInBounds_toArray, List.set_cons_zero, List.set_cons_succ]
                      refine wpAnyH_take (i := 28) (v := undef) rfl (by kernel_rfl) (by kernel_rfl) (by kernel_rfl) (fun _ _ _ h => h) (.inr ⟨by kernel_rfl, rfl⟩) hS ?_
                      simp only [List.getElem_toArray, List.getElem_cons_succ, List.getElem_cons_zero, Act.put, List.setIfInBounds_toArray, List.set_cons_zero, List.set_cons_succ]
                      refine wpAnyH_take (i := 29) (v := undef) rfl (by kernel_rfl) (by kernel_rfl) (by kernel_rfl) (fun _ _ _ h => h) (.inr ⟨by kernel_rfl, rfl⟩) hS ?_
                      simp only [List.getElem_toArray, List.getElem_cons_succ, List.getElem_cons_zero, Act.put, List.setIfInBounds_toArray, List.set_cons_zero, List.set_cons_succ]
                      refine wpAnyH_take (i := 30) (v := undef) rfl (by kernel_rfl) (by kernel_rfl) (by kernel_rfl) (fun _ _ _ h => h) (.inr ⟨by kernel_rfl, rfl⟩) hS ?_
                      simp only [List.getElem_toArray, List.getElem_cons_succ, List.getElem_cons_zero, Act.put, List.setIfInBounds_toArray, List.set_cons_zero, List.set_cons_succ]
                      refine wpAnyH_take (i := 31) (v := undef) rfl (by kernel_rfl) (by kernel_rfl) (by kernel_rfl) (fun _ _ _ h => h) (.inr ⟨by kernel_rfl, rfl⟩) hS ?_
                      simp only [List.getElem_toArray, List.getElem_cons_succ, List.getElem_cons_zero, Act.put, List.setIfInBounds_toArray, List.set_cons_zero, List.set_cons_succ]
                      refine wpAnyH_take (i := 32) (v := undef) rfl (by kernel_rfl) (by kernel_rfl) (by kernel_rfl) (fun _ _ _ h => h) (.inr ⟨by kernel_rfl, rfl⟩) hS ?_
                      simp only [List.getElem_toArray, List.getElem_cons_succ, List.getElem_cons_zero, Act.put, List.setIfInBounds_toArray, List.set_cons_zero, List.set_cons_succ]
                      refine wpAnyH_take (i := 33) (v := ?_) rfl (by kernel_rfl) (by kernel_rfl) (by kernel_rfl) (fun _ _ _ h => h) (.inl ⟨by kernel_rfl, fun w' hS => ?_⟩) hS ?_
                      rotate_left
                      ·
                        obtain ⟨q1, q2⟩ := hS; have hd1 : E.length ≤ n := (by omega); have hd2 : (E.length : Int) ≤ (n : Int) := (by omega)
                        go_simp
                        try with_reducible rfl
                      simp only [List.getElem_toArray, List.getElem_cons_succ, List.getElem_cons_zero, Act.put, List.setIfInBounds_toArray, List.set_cons_zero, List.set_cons_succ]
                      refine wpAnyH_done (by kernel_rfl) ?_ _
                      clear hS
                      go_wp2
                      go_ret
                      exact ⟨ret_bool hqf.out.symm, hbd.out⟩
                    · have hnE : n < E.length := by omega
                      by_cases hj0 : j = 0
                      · have hj0i : ¬ (0 : Int) < (j : Int) := by omega
                        have hl0 := hll.out.2.1 hj0
                        rw [if_neg (by omega)] at hr
                        have hll3 := Lib.hid (hll2.out (by omega))
                        clear hprev hll2 hll
                        replace hj0 := Lib.hid hj0
                        go_wp2_with fail
                        refine wp_region_held_drew (S := fun V => V.cell? ⟨w.heap.size, 1, none⟩ = some (.slice (some ⟨b2, off2, none⟩) edges.length ce) ∧ V.cell? ⟨b2, off2 + j, none⟩ = some (.int .i64 n)) (by kernel_rfl) ⟨y1r, hc⟩ (fun hS => ?_)
                        generalize wr.drew = V0 at *
                        refine wpAnyH_take (i := 0) (v := ?_) rfl (by kernel_rfl) (by kernel_rfl) (by kernel_rfl) (fun _ _ _ h => h) (.inl ⟨by kernel_rfl, fun w' hS => ?_⟩) hS ?_
                        rotate_left
                        ·
                          obtain ⟨q1, q2⟩ := hS; have hd1 : ¬ E.length ≤ n := (by omega); have hd2 : ¬ (E.length : Int) ≤ (n : Int) := (by omega); have hd3 : ¬ 0 < j := (by have := hj0.out; omega); have hd4 : ¬ (0 : Int) < (j : Int) := (by have := hj0.out; omega)
                          go_simp
                          try with_reducible rfl
                        simp only [List.getElem_toArray, List.getElem_cons_succ, List.getElem_cons_zero, Act.put, List.setIfInBounds_toArray, List.set_cons_zero, List.set_cons_succ]
                        refine wpAnyH_take (i := 1) (v := ?_) rfl (by kernel_rfl) (by kernel_rfl) (by kernel_rfl) (fun _ _ _ h => h) (.inl ⟨by kernel_rfl, fun w' hS => ?_⟩) hS ?_
                        rotate_left
                        ·
                          obtain ⟨q1, q2⟩ := hS; have hd1 : ¬ E.length ≤ n := (by omega); have hd2 : ¬ (E.length : Int) ≤ (n : Int) := (by omega); have hd3 : ¬ 0 < j := (by have := hj0.out; omega); have hd4 : ¬ (0 : Int) < (j : Int) := (by have := hj0.out; omega)
                          go_simp
                          try with_reducible rfl
                        simp only [List.getElem_toArray, List.getElem_cons_succ, List.getElem_cons_zero, Act.put, List.setIfInBounds_toArray, List.set_cons_zero, List.set_cons_succ]
                        refine wpAnyH_take (i := 2) (v := ?_) rfl (by kernel_rfl) (by kernel_rfl) (by kernel_rfl) (fun _ _ _ h => h) (.inl ⟨by kernel_rfl, fun w' hS => ?_⟩) hS ?_
                        rotate_left
                        ·
                          obtain ⟨q1, q2⟩ := hS; have hd1 : ¬ E.length ≤ n := (by omega); have hd2 : ¬ (E.length : Int) ≤ (n : Int) := (by omega); have hd3 : ¬ 0 < j := (by have := hj0.out; omega); have hd4 : ¬ (0 : Int) < (j : Int) := (by have := hj0.out; omega)
                          go_simp
                          try with_reducible rfl
                        simp only [List.getElem_toArray, List.getElem_cons_succ, List.getElem_cons_zero, Act.put, List.setIfInBounds_toArray, List.set_cons_zero, List.set_cons_succ]
                        refine wpAnyH_take (i := 3) (v := ?_) rfl (by kernel_rfl) (by kernel_rfl) (by kernel_rfl) (fun _ _ _ h => h) (.inl ⟨by kernel_rfl, fun w' hS => ?_⟩) hS ?_
                        rotate_left
                        ·
                          obtain ⟨q1, q2⟩ := hS; have hd1 : ¬ E.length ≤ n := (by omega); have hd2 : ¬ (E.length : Int) ≤ (n : Int) := (by omega); have hd3 : ¬ 0 < j := (by have := hj0.out; omega); have hd4 : ¬ (0 : Int) < (j : Int) := (by have := hj0.out; omega)
                          go_simp
                          try with_reducible rfl
                        simp only [List.getElem_toArray, List.getElem_cons_succ, List.getElem_cons_zero, Act.put, List.setIfInBounds_toArray, List.set_cons_zero, List.set_cons_succ]
                        refine wpAnyH_take (i := 4) (v := ?_) rfl (by kernel_rfl) (by kernel_rfl) (by kernel_rfl) (fun _ _ _ h => h) (.inl ⟨by kernel_rfl, fun w' hS => ?_⟩) hS ?_
                        rotate_left
                        ·
                          obtain ⟨q1, q2⟩ := hS; have hd1 : ¬ E.length ≤ n := (by omega); have hd2 : ¬ (E.length : Int) ≤ (n : Int) := (by omega); have hd3 : ¬ 0 < j := (by have := hj0.out; omega); have hd4 : ¬ (0 : Int) < (j : Int) := (by have := hj0.out; omega)
                          go_simp
                          try with_reducible rfl
                        simp only [List.getElem_toArray, List.getElem_cons_succ, List.getElem_cons_zero, Act.put, List.setIfInBounds_toArray, List.set_cons_zero, List.set_cons_succ]
                        refine wpAnyH_take (i := 5) (v := ?_) rfl (by kernel_rfl) (by kernel_rfl) (by kernel_rfl) (fun _ _ _ h => h) (.inl ⟨by kernel_rfl, fun w' hS => ?_⟩) hS ?_
                        rotate_left
                        ·
                          obtain ⟨q1, q2⟩ := hS; have hd1 : ¬ E.length ≤ n := (by omega); have hd2 : ¬ (E.length : Int) ≤ (n : Int) := (by omega); have hd3 : ¬ 0 < j := (by have := hj0.out; omega); have hd4 : ¬ (0 : Int) < (j : Int) := (by have := hj0.out; omega)
                          go_simp
                          try with_reducible rfl
                        simp only [List.getElem_toArray, List.getElem_cons_succ, List.getElem_cons_zero, Act.put, List.setIfInBounds_toArray, List.set_cons_zero, List.set_cons_succ]
                        refine wpAnyH_take (i := 6) (v := ?_) rfl (by kernel_rfl) (by kernel_rfl) (by kernel_rfl) (fun _ _ _ h => h) (.inl ⟨by kernel_rfl, fun w' hS => ?_⟩) hS ?_
                        rotate_left
                        ·
                          obtain ⟨q1, q2⟩ := hS; have hd1 : ¬ E.length ≤ n := (by omega); have hd2 : ¬ (E.length : Int) ≤ (n : Int) := (by omega); have hd3 : ¬ 0 < j := (by have := hj0.out; omega); have hd4 : ¬ (0 : Int) < (j : Int) := (by have := hj0.out; omega)
                          go_simp
                          try with_reducible rfl
                        simp only [List.getElem_toArray, List.getElem_cons_succ, List.getElem_cons_zero, Act.put, List.setIfInBounds_toArray, List.set_cons_zero, List.set_cons_succ]
                        refine wpAnyH_take (i := 7) (v := ?_) rfl (by kernel_rfl) (by kernel_rfl) (by kernel_rfl) (fun _ _ _ h => h) (.inl ⟨by kernel_rfl, fun w' hS => ?_⟩) hS ?_
                        rotate_left
                        ·
                          obtain ⟨q1, q2⟩ := hS; have hd1 : ¬ E.length ≤ n := (by omega); have hd2 : ¬ (E.length : Int) ≤ (n : Int) := (by omega); have hd3 : ¬ 0 < j := (by have := hj0.out; omega); have hd4 : ¬ (0 : Int) < (j : Int) := (by have := hj0.out; omega)
                          go_simp
                          try with_reducible rfl
                        simp only [List.getElem_toArray, List.getElem_cons_succ, List.getElem_cons_zero, Act.put, List.setIfInBounds_toArray, List.set_cons_zero, List.set_cons_succ]
                        refine wpAnyH_take (i := 8) (v := ?_) rfl (by kernel_rfl) (by kernel_rfl) (by kernel_rfl) (fun _ _ _ h => h) (.inl ⟨by kernel_rfl, fun w' hS => ?_⟩) hS ?_
                        rotate_left
                        ·
                          obtain ⟨q1, q2⟩ := hS; have hd1 : ¬ E.length ≤ n := (by omega); have hd2 : ¬ (E.length : Int) ≤ (n : Int) := (by omega); have hd3 : ¬ 0 < j := (by have := hj0.out; omega); have hd4 : ¬ (0 : Int) < (j : Int) := (by have := hj0.out; omega)
                          go_simp
                          try with_reducible rfl
                        simp only [List.getElem_toArray, List.getElem_cons_succ, List.getElem_cons_zero, Act.put, List.setIfInBounds_toArray, List.set_cons_zero, List.set_cons_succ]
                        refine wpAnyH_take (i := 9) (v := ?_) rfl (by kernel_rfl) (by kernel_rfl) (by kernel_rfl) (fun _ _ _ h => h) (.inl ⟨by kernel_rfl, fun w' hS => ?_⟩) hS ?_
                        rotate_left
                        ·
                          obtain ⟨q1, q2⟩ := hS; have hd1 : ¬ E.length ≤ n := (by omega); have hd2 : ¬ (E.length : Int) ≤ (n : Int) := (by omega); have hd3 : ¬ 0 < j := (by have := hj0.out; omega); have hd4 : ¬ (0 : Int) < (j : Int) := (by have := hj0.out; omega)
                          go_simp
                          try with_reducible rfl
                        simp only [List.getElem_toArray, List.getElem_cons_succ, List.getElem_cons_zero, Act.put, List.setIfInBounds_toArray, List.set_cons_zero, List.set_cons_succ]
                        refine wpAnyH_take (i := 10) (v := ?_) rfl (by kernel_rfl) (by kernel_rfl) (by kernel_rfl) (fun _ _ _ h => h) (.inl ⟨by kernel_rfl, fun w' hS => ?_⟩) hS ?_
                        rotate_left
                        ·
                          obtain ⟨q1, q2⟩ := hS; have hd1 : ¬ E.length ≤ n := (by omega); have hd2 : ¬ (E.length : Int) ≤ (n : Int) := (by omega); have hd3 : ¬ 0 < j := (by have := hj0.out; omega); have hd4 : ¬ (0 : Int) < (j : Int) := (by have := hj0.out; omega)
                          go_simp
                          try with_reducible rfl
                        simp only [List.getElem_toArray, List.getElem_cons_succ, List.getElem_cons_zero, Act.put, List.setIfInBounds_toArray, List.set_cons_zero, List.set_cons_succ]
                        refine wpAnyH_take (i := 11) (v := ?_) rfl (by kernel_rfl) (by kernel_rfl) (by kernel_rfl) (fun _ _ _ h => h) (.inl ⟨by kernel_rfl, fun w' hS => ?_⟩) hS ?_
                        rotate_left
                        ·
                          obtain ⟨q1, q2⟩ := hS; have hd1 : ¬ E.length ≤ n := (by omega); have hd2 : ¬ (E.length : Int) ≤ (n : Int) := (by omega); have hd3 : ¬ 0 < j := (by have := hj0.out; omega); have hd4 : ¬ (0 : Int) < (j : Int) := (by have := hj0.out; omega)
                          go_simp
                          try with_reducible rfl
                        simp only [List.getElem_toArray, List.getElem_cons_succ, List.getElem_cons_zero, Act.put, List.setIfInBounds_toArray, List.set_cons_zero, List.set_cons_succ]
                        refine wpAnyH_take (i := 12) (v := ?_) rfl (by kernel_rfl) (by kernel_rfl) (by kernel_rfl) (fun _ _ _ h => h) (.inl ⟨by kernel_rfl, fun w' hS => ?_⟩) hS ?_
                        rotate_left
                        ·
                          obtain ⟨q1, q2⟩ := hS; have hd1 : ¬ E.length ≤ n := (by omega); have hd2 : ¬ (E.length : Int) ≤ (n : Int) := (by omega); have hd3 : ¬ 0 < j := (by have := hj0.out; omega); have hd4 : ¬ (0 : Int) < (j : Int) := (by have := hj0.out; omega)
                          go_simp
                          try with_reducible rfl
                        simp only [List.getElem_toArray, List.getElem_cons_succ, List.getElem_cons_zero, Act.put, List.setIfInBounds_toArray, List.set_cons_zero, List.set_cons_succ]
                        refine wpAnyH_take (i := 13) (v := ?_) rfl (by kernel_rfl) (by kernel_rfl) (by kernel_rfl) (fun _ _ _ h => h) (.inl ⟨by kernel_rfl, fun w' hS => ?_⟩) hS ?_
                        rotate_left
                        ·
                          obtain ⟨q1, q2⟩ := hS; have hd1 : ¬ E.length ≤ n := (by omega); have hd2 : ¬ (E.length : Int) ≤ (n : Int) := (by omega); have hd3 : ¬ 0 < j := (by have := hj0.out; omega); have hd4 : ¬ (0 : Int) < (j : Int) := (by have := hj0.out; omega)
                          go_simp
                          try with_reducible rfl
                        simp only [List.getElem_toArray, List.getElem_cons_succ, List.getElem_cons_zero, Act.put, List.setIfInBounds_toArray, List.set_cons_zero, List.set_cons_succ]
                        refine wpAnyH_take (i := 14) (v := ?_) rfl (by kernel_rfl) (by kernel_rfl) (by kernel_rfl) (fun _ _ _ h => h) (.inl ⟨by kernel_rfl, fun w' hS => ?_⟩) hS ?_
                        rotate_left
                        ·
                          obtain ⟨q1, q2⟩ := hS; have hd1 : ¬ E.length ≤ n := (by omega); have hd2 : ¬ (E.length : Int) ≤ (n : Int) := (by omega); have hd3 : ¬ 0 < j := (by have := hj0.out; omega); have hd4 : ¬ (0 : Int) < (j : Int) := (by have := hj0.out; omega)
                          go_simp
                          try with_reducible rfl
                        simp only [List.getElem_toArray, List.getElem_cons_succ, List.getElem_cons_zero, Act.put, List.setIfInBounds_toArray, List.set_cons_zero, List.set_cons_succ]
                        refine wpAnyH_take (i := 15) (v := ?_) rfl (by kernel_rfl) (by kernel_rfl) (by kernel_rfl) (fun _ _ _ h => h) (.inl ⟨by kernel_rfl, fun w' hS => ?_⟩) hS ?_
                        rotate_left
                        ·
                          obtain ⟨q1, q2⟩ := hS; have hd1 : ¬ E.length ≤ n := (by omega); have hd2 : ¬ (E.length : Int) ≤ (n : Int) := (by omega); have hd3 : ¬ 0 < j := (by have := hj0.out; omega); have hd4 : ¬ (0 : Int) < (j : Int) := (by have := hj0.out; omega)
                          go_simp
                          try with_reducible rfl
                        simp only [List.getElem_toArray, List.getElem_cons_succ, List.getElem_cons_zero, Act.put, List.setIfInBounds_toArray, List.set_cons_zero, List.set_cons_succ]
                        refine wpAnyH_take (i := 16) (v := ?_) rfl (by kernel_rfl) (by kernel_rfl) (by kernel_rfl) (fun _ _ _ h => h) (.inl ⟨by kernel_rfl, fun w' hS => ?_⟩) hS ?_
                        rotate_left
                        ·
                          obtain ⟨q1, q2⟩ := hS; have hd1 : ¬ E.length ≤ n := (by omega); have hd2 : ¬ (E.length : Int) ≤ (n : Int) := (by omega); have hd3 : ¬ 0 < j := (by have := hj0.out; omega); have hd4 : ¬ (0 : Int) < (j : Int) := (by have := hj0.out; omega)
                          go_simp
                          try with_reducible rfl
                        simp only [List.getElem_toArray, List.getElem_cons_succ, List.getElem_cons_zero, Act.put, List.setIfInBounds_toArray, List.set_cons_zero, List.set_cons_succ]
                        refine wpAnyH_take (i := 17) (v := ?_) rfl (by kernel_rfl) (by kernel_rfl) (by kernel_rfl) (fun _ _ _ h => h) (.inl ⟨by kernel_rfl, fun w' hS => ?_⟩) hS ?_
                        rotate_left
                        ·
                          obtain ⟨q1, q2⟩ := hS; have hd1 : ¬ E.length ≤ n := (by omega); have hd2 : ¬ (E.length : Int) ≤ (n : Int) := (by omega); have hd3 : ¬ 0 < j := (by have := hj0.out; omega); have hd4 : ¬ (0 : Int) < (j : Int) := (by have := hj0.out; omega)
                          go_simp
                          try with_reducible rfl
                        simp only [List.getElem_toArray, List.getElem_cons_succ, List.getElem_cons_zero, Act.put, List.setIfInBounds_toArray, List.set_cons_zero, List.set_cons_succ]
                        refine wpAnyH_take (i := 18) (v := ?_) rfl (by kernel_rfl) (by kernel_rfl) (by kernel_rfl) (fun _ _ _ h => h) (.inl ⟨by kernel_rfl, fun w' hS => ?_⟩) hS ?_
                        rotate_left
                        ·
                          obtain ⟨q1, q2⟩ := hS; have hd1 : ¬ E.length ≤ n := (by omega); have hd2 : ¬ (E.length : Int) ≤ (n : Int) := (by omega); have hd3 : ¬ 0 < j := (by have := hj0.out; omega); have hd4 : ¬ (0 : Int) < (j : Int) := (by have := hj0.out; omega)
                          go_simp
                          try with_reducible rfl
                        simp only [List.getElem_toArray, List.getElem_cons_succ, List.getElem_cons_zero, Act.put, List.setIfInBounds_toArray, List.set_cons_zero, List.set_cons_succ]
                        refine wpAnyH_take (i := 19) (v := ?_) rfl (by kernel_rfl) (by kernel_rfl) (by kernel_rfl) (fun _ _ _ h => h) (.inl ⟨by kernel_rfl, fun w' hS => ?_⟩) hS ?_
                        rotate_left
                        ·
                          obtain ⟨q1, q2⟩ := hS; have hd1 : ¬ E.length ≤ n := (by omega); have hd2 : ¬ (E.length : Int) ≤ (n : Int) := (by omega); have hd3 : ¬ 0 < j := (by have := hj0.out; omega); have hd4 : ¬ (0 : Int) < (j : Int) := (by have := hj0.out; omega)
                          go_simp
                          try with_reducible rfl
                        simp only [List.getElem_toArray, List.getElem_cons_succ, List.getElem_cons_zero, Act.put, List.setIfInBounds_toArray, List.set_cons_zero, List.set_cons_succ]
                        refine wpAnyH_take (i := 20) (v := undef) rfl (by kernel_rfl) (by kernel_rfl) (by kernel_rfl) (fun _ _ _ h => h) (.inr ⟨by kernel_rfl, rfl⟩) hS ?_
                        simp only [List.getElem_toArray, List.getElem_cons_succ, List.getElem_cons_zero, Act.put, List.setIfInBounds_toArray, List.set_cons_zero, List.set_cons_succ]
                        refine wpAnyH_take (i := 21) (v := undef) rfl (by kernel_rfl) (by kernel_rfl) (by kernel_rfl) (fun _ _ _ h => h) (.inr ⟨by kernel_rfl, rfl⟩) hS ?_
                        simp only [List.getElem_toArray, List.getElem_cons_succ, List.getElem_cons_zero, Act.put, List.setIfInBounds_toArray, List.set_cons_zero, List.set_cons_succ]
                        refine wpAnyH_take (i := 22) (v := undef) rfl (by kernel_rfl) (by kernel_rfl) (by kernel_rfl) (fun _ _ _ h => h) (.inr ⟨by kernel_rfl, rfl⟩) hS ?_
                        simp only [List.getElem_toArray, List.getElem_cons_succ, List.getElem_cons_zero, Act.put, List.setIfInBounds_toArray, List.set_cons_zero, List.set_cons_succ]
                        refine wpAnyH_take (i := 23) (v := undef) rfl (by kernel_rfl) (by kernel_rfl) (by kernel_rfl) (fun _ _ _ h => h) (.inr ⟨by kernel_rfl, rfl⟩) hS ?_
                        simp only [List.getElem_toArray, List.getElem_cons_succ, List.getElem_cons_zero, Act.put, List.setIfInBounds_toArray, List.set_cons_zero, List.set_cons_succ]
                        refine wpAnyH_take (i := 24) (v := undef) rfl (by kernel_rfl) (by kernel_rfl) (by kernel_rfl) (fun _ _ _ h => h) (.inr ⟨by kernel_rfl, rfl⟩) hS ?_
                        simp only [List.getElem_toArray, List.getElem_cons_succ, List.getElem_cons_zero, Act.put, List.setIfInBounds_toArray, List.set_cons_zero, List.set_cons_succ]
                        refine wpAnyH_take (i := 25) (v := undef) rfl (by kernel_rfl) (by kernel_rfl) (by kernel_rfl) (fun _ _ _ h => h) (.inr ⟨by kernel_rfl, rfl⟩) hS ?_
                        simp only [List.getElem_toArray, List.getElem_cons_succ, List.getElem_cons_zero, Act.put, List.setIfInBounds_toArray, List.set_cons_zero, List.set_cons_succ]
                        refine wpAnyH_take (i := 26) (v := undef) rfl (by kernel_rfl) (by kernel_rfl) (by kernel_rfl) (fun _ _ _ h => h) (.inr ⟨by kernel_rfl, rfl⟩) hS ?_
                        simp only [List.getElem_toArray, List.getElem_cons_succ, List.getElem_cons_zero, Act.put, List.setIfInBounds_toArray, List.set_cons_zero, List.set_cons_succ]
                        refine wpAnyH_take (i := 27) (v := undef) rfl (by kernel_rfl) (by kernel_rfl) (by kernel_rfl) (fun _ _ _ h => h) (.inr ⟨by kernel_rfl, rfl⟩) hS ?_
                        simp only [List.getElem_toArray, List.getElem_cons_succ, List.getElem_cons_zero, Act.put, List.setIfInBounds_toArray, List.set_cons_zero, List.set_cons_succ]
                        refine wpAnyH_take (i := 28) (v := undef) rfl (by kernel_rfl) (by kernel_rfl) (by kernel_rfl) (fun _ _ _ h => h) (.inr ⟨by kernel_rfl, rfl⟩) hS ?_
                        simp only [List.getElem_toArray, List.getElem_cons_succ, List.getElem_cons_zero, Act.put, List.setIfInBounds_toArray, List.set_cons_zero, List.set_cons_succ]
                        refine wpAnyH_take (i := 29) (v := undef) rfl (by kernel_rfl) (by kernel_rfl) (by kernel_rfl) (fun _ _ _ h => h) (.inr ⟨by kernel_rfl, rfl⟩) hS ?_
                        simp only [List.getElem_toArray, List.getElem_cons_succ, List.getElem_cons_zero, Act.put, List.setIfInBounds_toArray, List.set_cons_zero, List.set_cons_succ]
                        refine wpAnyH_take (i := 30) (v := undef) rfl (by kernel_rfl) (by kernel_rfl) (by kernel_rfl) (fun _ _ _ h => h) (.inr ⟨by kernel_rfl, rfl⟩) hS ?_
                        simp only [List.getElem_toArray, List.getElem_cons_succ, List.getElem_cons_zero, Act.put, List.setIfInBounds_toArray, List.set_cons_zero, List.set_cons_succ]
                        refine wpAnyH_take (i := 31) (v := undef) rfl (by kernel_rfl) (by kernel_rfl) (by kernel_rfl) (fun _ _ _ h => h) (.inr ⟨by kernel_rfl, rfl⟩) hS ?_
                        simp only [List.getElem_toArray, List.getElem_cons_succ, List.getElem_cons_zero, Act.put, List.setIfInBounds_toArray, List.set_cons_zero, List.set_cons_succ]
                        refine wpAnyH_take (i := 32) (v := ?_) rfl (by kernel_rfl) (by kernel_rfl) (by kernel_rfl) (fun _ _ _ h => h) (.inl ⟨by kernel_rfl, fun w' hS => ?_⟩) hS ?_
                        rotate_left
                        ·
                          obtain ⟨q1, q2⟩ := hS; have hd1 : ¬ E.length ≤ n := (by omega); have hd2 : ¬ (E.length : Int) ≤ (n : Int) := (by omega); have hd3 : ¬ 0 < j := (by have := hj0.out; omega); have hd4 : ¬ (0 : Int) < (j : Int) := (by have := hj0.out; omega)
                          go_simp
                          try with_reducible rfl
                        simp only [List.getElem_toArray, List.getElem_cons_succ, List.getElem_cons_zero, Act.put, List.setIfInBounds_toArray, List.set_cons_zero, List.set_cons_succ]
                        refine wpAnyH_take (i := 33) (v := ?_) rfl (by kernel_rfl) (by kernel_rfl) (by kernel_rfl) (fun _ _ _ h => h) (.inl ⟨by kernel_rfl, fun w' hS => ?_⟩) hS ?_
                        rotate_left
                        ·
                          obtain ⟨q1, q2⟩ := hS; have hd1 : ¬ E.length ≤ n := (by omega); have hd2 : ¬ (E.length : Int) ≤ (n : Int) := (by omega); have hd3 : ¬ 0 < j := (by have := hj0.out; omega); have hd4 : ¬ (0 : Int) < (j : Int) := (by have := hj0.out; omega)
                          go_simp
                          try with_reducible rfl
                        simp only [List.getElem_toArray, List.getElem_cons_succ, List.getElem_cons_zero, Act.put, List.setIfInBounds_toArray, List.set_cons_zero, List.set_cons_succ]
                        refine wpAnyH_done (by kernel_rfl) ?_ _
                        obtain ⟨q1, q2⟩ : V0.cell? ⟨w.heap.size, 1, none⟩ = some (.slice (some ⟨b2, off2, none⟩) edges.length ce) ∧ V0.cell? ⟨b2, off2 + j, none⟩ = some (.int .i64 (n : Int)) := ⟨hS.1, hS.2⟩
                        clear hS
                        have hst4 := stay_of_below hWd.out.below
                        have hec3 := (hec.out.stay hst4).mono hWd.out.below.size
                        obtain ⟨ao3, cap3, hvv3, hec4⟩ := hec3.form
                        obtain ⟨rfl, rfl⟩ : ao = ao3 ∧ cap = cap3 := by injection hvv3 with h1 h2 h3; exact ⟨h1, h3⟩
                        obtain ⟨b3, off3, u3, rfl, -, hEc, hEt⟩ := hec4 n hnE
                        have hcd : coveredR E (edges.take (j + 1)) = coveredR E (edges.take j) ++ E[n] := by
                          rw [hcs.out, Int.toNat_natCast, List.getD_eq_getElem?_getD, List.getElem?_eq_getElem hnE, Option.getD_some]
                        have hEl2 := hEe _ (List.getElem_mem hnE)
                        have hrow3 := hEt.row
                        have hone3 : ∀ u ∈ textsV E[n], u.oneCell' = true := fun u hu => by
                          obtain ⟨s, -, rfl⟩ := List.mem_map.1 hu
                          rfl
                        have hown3 := hWd.out.own
                        have hsz3 := hWd.out.below.size
                        have hnEi : (n : Int) < (E.length : Int) := by omega
                        have hnE0 : (0 : Int) ≤ (n : Int) := by omega
                        clear hec3 hec4 hvv3 hEt hcs hst4
                        replace hcd := Lib.hid hcd
                        replace hec := Lib.hid hec
                        go_wp2_with (at_builtin; refine wpList_app_texts rfl _ _ rfl w1.heap.size _ u3 _ _ (textsV E[n]) rfl hown3 rfl hrow3 hone3 ?cxb1 hsz3 ?cyb1)
                        case cxb1 => simp only [textsV_length]; omega
                        case cyb1 =>
                          intro v' w' g1 g2
                          have g3 : w'.ownsRow w1.heap.size 9 1 v' ((textsV (coveredR E (edges.take j))).length + (textsV E[n]).length) (textsV (coveredR E (edges.take j)) ++ textsV E[n]) := by rw [textsV_length, textsV_length]; exact g1
                          have hW5 := Lib.hid (hWd.out.stepN hsz3 g3 g2)
                          have hb5 : Hid (OW 9 w1 w1.heap.size v' (textsV (coveredR E (edges.take (j + 1)))) w') := by
                            rw [hcd.out]
                            have := hW5.out
                            unfold textsV at this ⊢
                            rw [List.map_append]
                            exact Lib.hid this
                          clear hW5 hWd hown3 g1 g2 g3
                          go_wp2
                          go_round
                          case rel => exact ⟨j + 1, n, hj1.out, by go_num, hll3, hb5, hr⟩
                          case measure => have := hj1.out; simp [intOf]; omega
                      · have hj0i : (0 : Int) < (j : Int) := by omega
                        have hpc := hprev.out (by omega) rfl
                        have ejm : IntKind.i64.wrap ((j : Int) - 1) = (j : Int) - 1 := IntWalk.i64_in _ (by omega)
                        have ejn : ((j : Int) - 1).toNat = j - 1 := by omega
                        have ej1 : (1 : Int) ≤ (j : Int) := by omega
                        have ej2 : (j : Int) - 1 < (edges.length : Int) := by omega
                        by_cases hle : (n : Int) ≤ l
                        · have hqf : Hid (q = false) := Lib.hid (by
                            rw [if_pos (.inl hle)] at hr
                            rw [← hq5.out, ← hr.out]; rfl)
                          clear hr hcs hprev hll2 hll hcl
                          go_wp2_with fail
                          refine wp_region_held_drew (S := fun V => V.cell? ⟨w.heap.size, 1, none⟩ = some (.slice (some ⟨b2, off2, none⟩) edges.length ce) ∧ V.cell? ⟨b2, off2 + j, none⟩ = some (.int .i64 n)∧ V.cell? ⟨b2, off2 + (j - 1), none⟩ = some (.int .i64 l)) (by kernel_rfl) ⟨y1r, hc, hpc⟩ (fun hS => ?_)
                          generalize wr.drew = V0 at *
                          refine wpAnyH_take (i := 0) (v := ?_) rfl (by kernel_rfl) (by kernel_rfl) (by kernel_rfl) (fun _ _ _ h => h) (.inl ⟨by kernel_rfl, fun w' hS => ?_⟩) hS ?_
                          rotate_left
                          ·
                            obtain ⟨q1, q2, q3⟩ := hS; have hd1 : ¬ E.length ≤ n := (by omega); have hd2 : ¬ (E.length : Int) ≤ (n : Int) := (by omega); have hd3 : (n : Int) ≤ l := (by omega); have hd5 : 0 < j := (by omega); have hd6 : (0 : Int) < (j : Int) := (by omega)
                            go_simp
                            try with_reducible rfl
                          simp only [List.getElem_toArray, List.getElem_cons_succ, List.getElem_cons_zero, Act.put, List.setIfInBounds_toArray, List.set_cons_zero, List.set_cons_succ]
                          refine wpAnyH_take (i := 1) (v := ?_) rfl (by kernel_rfl) (by kernel_rfl) (by kernel_rfl) (fun _ _ _ h => h) (.inl ⟨by kernel_rfl, fun w' hS => ?_⟩) hS ?_
                          rotate_left
                          ·
                            obtain ⟨q1, q2, q3⟩ := hS; have hd1 : ¬ E.length ≤ n := (by omega); have hd2 : ¬ (E.length : Int) ≤ (n : Int) := (by omega); have hd3 : (n : Int) ≤ l := (by omega); have hd5 : 0 < j := (by omega); have hd6 : (0 : Int) < (j : Int) := (by omega)
                            go_simp
                            try with_reducible rfl
                          simp only [List.getElem_toArray, List.getElem_cons_succ, List.getElem_cons_zero, Act.put, List.setIfInBounds_toArray, List.set_cons_zero, List.set_cons_succ]
                          refine wpAnyH_take (i := 2) (v := ?_) rfl (by kernel_rfl) (by kernel_rfl) (by kernel_rfl) (fun _ _ _ h => h) (.inl ⟨by kernel_rfl, fun w' hS => ?_⟩) hS ?_
                          rotate_left
                          ·
                            obtain ⟨q1, q2, q3⟩ := hS; have hd1 : ¬ E.length ≤ n := (by omega); have hd2 : ¬ (E.length : Int) ≤ (n : Int) := (by omega); have hd3 : (n : Int) ≤ l := (by omega); have hd5 : 0 < j := (by omega); have hd6 : (0 : Int) < (j : Int) := (by omega)
                            go_simp
                            try with_reducible rfl
                          simp only [List.getElem_toArray, List.getElem_cons_succ, List.getElem_cons_zero, Act.put, List.setIfInBounds_toArray, List.set_cons_zero, List.set_cons_succ]
                          refine wpAnyH_take (i := 3) (v := ?_) rfl (by kernel_rfl) (by kernel_rfl) (by kernel_rfl) (fun _ _ _ h => h) (.inl ⟨by kernel_rfl, fun w' hS => ?_⟩) hS ?_
                          rotate_left
                          ·
                            obtain ⟨q1, q2, q3⟩ := hS; have hd1 : ¬ E.length ≤ n := (by omega); have hd2 : ¬ (E.length : Int) ≤ (n : Int) := (by omega); have hd3 : (n : Int) ≤ l := (by omega); have hd5 : 0 < j := (by omega); have hd6 : (0 : Int) < (j : Int) := (by omega)
                            go_simp
                            try with_reducible rfl
                          simp only [List.getElem_toArray, List.getElem_cons_succ, List.getElem_cons_zero, Act.put, List.setIfInBounds_toArray, List.set_cons_zero, List.set_cons_succ]
                          refine wpAnyH_take (i := 4) (v := ?_) rfl (by kernel_rfl) (by kernel_rfl) (by kernel_rfl) (fun _ _ _ h => h) (.inl ⟨by kernel_rfl, fun w' hS => ?_⟩) hS ?_
                          rotate_left
                          ·
                            obtain ⟨q1, q2, q3⟩ := hS; have hd1 : ¬ E.length ≤ n := (by omega); have hd2 : ¬ (E.length : Int) ≤ (n : Int) := (by omega); have hd3 : (n : Int) ≤ l := (by omega); have hd5 : 0 < j := (by omega); have hd6 : (0 : Int) < (j : Int) := (by omega)
                            go_simp
                            try with_reducible rfl
                          simp only [List.getElem_toArray, List.getElem_cons_succ, List.getElem_cons_zero, Act.put, List.setIfInBounds_toArray, List.set_cons_zero, List.set_cons_succ]
                          refine wpAnyH_take (i := 5) (v := ?_) rfl (by kernel_rfl) (by kernel_rfl) (by kernel_rfl) (fun _ _ _ h => h) (.inl ⟨by kernel_rfl, fun w' hS => ?_⟩) hS ?_
                          rotate_left
                          ·
                            obtain ⟨q1, q2, q3⟩ := hS; have hd1 : ¬ E.length ≤ n := (by omega); have hd2 : ¬ (E.length : Int) ≤ (n : Int) := (by omega); have hd3 : (n : Int) ≤ l := (by omega); have hd5 : 0 < j := (by omega); have hd6 : (0 : Int) < (j : Int) := (by omega)
                            go_simp
                            try with_reducible rfl
                          simp only [List.getElem_toArray, List.getElem_cons_succ, List.getElem_cons_zero, Act.put, List.setIfInBounds_toArray, List.set_cons_zero, List.set_cons_succ]
                          refine wpAnyH_take (i := 6) (v := ?_) rfl (by kernel_rfl) (by kernel_rfl) (by kernel_rfl) (fun _ _ _ h => h) (.inl ⟨by kernel_rfl, fun w' hS => ?_⟩) hS ?_
                          rotate_left
                          ·
                            obtain ⟨q1, q2, q3⟩ := hS; have hd1 : ¬ E.length ≤ n := (by omega); have hd2 : ¬ (E.length : Int) ≤ (n : Int) := (by omega); have hd3 : (n : Int) ≤ l := (by omega); have hd5 : 0 < j := (by omega); have hd6 : (0 : Int) < (j : Int) := (by omega)
                            go_simp
                            try with_reducible rfl
                          simp only [List.getElem_toArray, List.getElem_cons_succ, List.getElem_cons_zero, Act.put, List.setIfInBounds_toArray, List.set_cons_zero, List.set_cons_succ]
                          refine wpAnyH_take (i := 7) (v := ?_) rfl (by kernel_rfl) (by kernel_rfl) (by kernel_rfl) (fun _ _ _ h => h) (.inl ⟨by kernel_rfl, fun w' hS => ?_⟩) hS ?_
                          rotate_left
                          ·
                            obtain ⟨q1, q2, q3⟩ := hS; have hd1 : ¬ E.length ≤ n := (by omega); have hd2 : ¬ (E.length : Int) ≤ (n : Int) := (by omega); have hd3 : (n : Int) ≤ l := (by omega); have hd5 : 0 < j := (by omega); have hd6 : (0 : Int) < (j : Int) := (by omega)
                            go_simp
                            try with_reducible rfl
                          simp only [List.getElem_toArray, List.getElem_cons_succ, List.getElem_cons_zero, Act.put, List.setIfInBounds_toArray, List.set_cons_zero, List.set_cons_succ]
                          refine wpAnyH_take (i := 8) (v := ?_) rfl (by kernel_rfl) (by kernel_rfl) (by kernel_rfl) (fun _ _ _ h => h) (.inl ⟨by kernel_rfl, fun w' hS => ?_⟩) hS ?_
                          rotate_left
                          ·
                            obtain ⟨q1, q2, q3⟩ := hS; have hd1 : ¬ E.length ≤ n := (by omega); have hd2 : ¬ (E.length : Int) ≤ (n : Int) := (by omega); have hd3 : (n : Int) ≤ l := (by omega); have hd5 : 0 < j := (by omega); have hd6 : (0 : Int) < (j : Int) := (by omega)
                            go_simp
                            try with_reducible rfl
                          simp only [List.getElem_toArray, List.getElem_cons_succ, List.getElem_cons_zero, Act.put, List.setIfInBounds_toArray, List.set_cons_zero, List.set_cons_succ]
                          refine wpAnyH_take (i := 9) (v := ?_) rfl (by kernel_rfl) (by kernel_rfl) (by kernel_rfl) (fun _ _ _ h => h) (.inl ⟨by kernel_rfl, fun w' hS => ?_⟩) hS ?_
                          rotate_left
                          ·
                            obtain ⟨q1, q2, q3⟩ := hS; have hd1 : ¬ E.length ≤ n := (by omega); have hd2 : ¬ (E.length : Int) ≤ (n : Int) := (by omega); have hd3 : (n : Int) ≤ l := (by omega); have hd5 : 0 < j := (by omega); have hd6 : (0 : Int) < (j : Int) := (by omega)
                            go_simp
                            try with_reducible rfl
                          simp only [List.getElem_toArray, List.getElem_cons_succ, List.getElem_cons_zero, Act.put, List.setIfInBounds_toArray, List.set_cons_zero, List.set_cons_succ]
                          refine wpAnyH_take (i := 10) (v := ?_) rfl (by kernel_rfl) (by kernel_rfl) (by kernel_rfl) (fun _ _ _ h => h) (.inl ⟨by kernel_rfl, fun w' hS => ?_⟩) hS ?_
                          rotate_left
                          ·
                            obtain ⟨q1, q2, q3⟩ := hS; have hd1 : ¬ E.length ≤ n := (by omega); have hd2 : ¬ (E.length : Int) ≤ (n : Int) := (by omega); have hd3 : (n : Int) ≤ l := (by omega); have hd5 : 0 < j := (by omega); have hd6 : (0 : Int) < (j : Int) := (by omega)
                            go_simp
                            try with_reducible rfl
                          simp only [List.getElem_toArray, List.getElem_cons_succ, List.getElem_cons_zero, Act.put, List.setIfInBounds_toArray, List.set_cons_zero, List.set_cons_succ]
                          refine wpAnyH_take (i := 11) (v := ?_) rfl (by kernel_rfl) (by kernel_rfl) (by kernel_rfl) (fun _ _ _ h => h) (.inl ⟨by kernel_rfl, fun w' hS => ?_⟩) hS ?_
                          rotate_left
                          ·
                            obtain ⟨q1, q2, q3⟩ := hS; have hd1 : ¬ E.length ≤ n := (by omega); have hd2 : ¬ (E.length : Int) ≤ (n : Int) := (by omega); have hd3 : (n : Int) ≤ l := (by omega); have hd5 : 0 < j := (by omega); have hd6 : (0 : Int) < (j : Int) := (by omega)
                            go_simp
                            try with_reducible rfl
                          simp only [List.getElem_toArray, List.getElem_cons_succ, List.getElem_cons_zero, Act.put, List.setIfInBounds_toArray, List.set_cons_zero, List.set_cons_succ]
                          refine wpAnyH_take (i := 12) (v := ?_) rfl (by kernel_rfl) (by kernel_rfl) (by kernel_rfl) (fun _ _ _ h => h) (.inl ⟨by kernel_rfl, fun w' hS => ?_⟩) hS ?_
                          rotate_left
                          ·
                            obtain ⟨q1, q2, q3⟩ := hS; have hd1 : ¬ E.length ≤ n := (by omega); have hd2 : ¬ (E.length : Int) ≤ (n : Int) := (by omega); have hd3 : (n : Int) ≤ l := (by omega); have hd5 : 0 < j := (by omega); have hd6 : (0 : Int) < (j : Int) := (by omega)
                            go_simp
                            try with_reducible rfl
                          simp only [List.getElem_toArray, List.getElem_cons_succ, List.getElem_cons_zero, Act.put, List.setIfInBounds_toArray, List.set_cons_zero, List.set_cons_succ]
                          refine wpAnyH_take (i := 13) (v := ?_) rfl (by kernel_rfl) (by kernel_rfl) (by kernel_rfl) (fun _ _ _ h => h) (.inl ⟨by kernel_rfl, fun w' hS => ?_⟩) hS ?_
                          rotate_left
                          ·
                            obtain ⟨q1, q2, q3⟩ := hS; have hd1 : ¬ E.length ≤ n := (by omega); have hd2 : ¬ (E.length : Int) ≤ (n : Int) := (by omega); have hd3 : (n : Int) ≤ l := (by omega); have hd5 : 0 < j := (by omega); have hd6 : (0 : Int) < (j : Int) := (by omega)
                            go_simp
                            try with_reducible rfl
                          simp only [List.getElem_toArray, List.getElem_cons_succ, List.getElem_cons_zero, Act.put, List.setIfInBounds_toArray, List.set_cons_zero, List.set_cons_succ]
                          refine wpAnyH_take (i := 14) (v := ?_) rfl (by kernel_rfl) (by kernel_rfl) (by kernel_rfl) (fun _ _ _ h => h) (.inl ⟨by kernel_rfl, fun w' hS => ?_⟩) hS ?_
                          rotate_left
                          ·
                            obtain ⟨q1, q2, q3⟩ := hS; have hd1 : ¬ E.length ≤ n := (by omega); have hd2 : ¬ (E.length : Int) ≤ (n : Int) := (by omega); have hd3 : (n : Int) ≤ l := (by omega); have hd5 : 0 < j := (by omega); have hd6 : (0 : Int) < (j : Int) := (by omega)
                            go_simp
                            try with_reducible rfl
                          simp only [List.getElem_toArray, List.getElem_cons_succ, List.getElem_cons_zero, Act.put, List.setIfInBounds_toArray, List.set_cons_zero, List.set_cons_succ]
                          refine wpAnyH_take (i := 15) (v := ?_) rfl (by kernel_rfl) (by kernel_rfl) (by kernel_rfl) (fun _ _ _ h => h) (.inl ⟨by kernel_rfl, fun w' hS => ?_⟩) hS ?_
                          rotate_left
                          ·
                            obtain ⟨q1, q2, q3⟩ := hS; have hd1 : ¬ E.length ≤ n := (by omega); have hd2 : ¬ (E.length : Int) ≤ (n : Int) := (by omega); have hd3 : (n : Int) ≤ l := (by omega); have hd5 : 0 < j := (by omega); have hd6 : (0 : Int) < (j : Int) := (by omega)
                            go_simp
                            try with_reducible rfl
                          simp only [List.getElem_toArray, List.getElem_cons_succ, List.getElem_cons_zero, Act.put, List.setIfInBounds_toArray, List.set_cons_zero, List.set_cons_succ]
                          refine wpAnyH_take (i := 16) (v := ?_) rfl (by kernel_rfl) (by kernel_rfl) (by kernel_rfl) (fun _ _ _ h => h) (.inl ⟨by kernel_rfl, fun w' hS => ?_⟩) hS ?_
                          rotate_left
                          ·
                            obtain ⟨q1, q2, q3⟩ := hS; have hd1 : ¬ E.length ≤ n := (by omega); have hd2 : ¬ (E.length : Int) ≤ (n : Int) := (by omega); have hd3 : (n : Int) ≤ l := (by omega); have hd5 : 0 < j := (by omega); have hd6 : (0 : Int) < (j : Int) := (by omega)
                            go_simp
                            try with_reducible rfl
                          simp only [List.getElem_toArray, List.getElem_cons_succ, List.getElem_cons_zero, Act.put, List.setIfInBounds_toArray, List.set_cons_zero, List.set_cons_succ]
                          refine wpAnyH_take (i := 17) (v := ?_) rfl (by kernel_rfl) (by kernel_rfl) (by kernel_rfl) (fun _ _ _ h => h) (.inl ⟨by kernel_rfl, fun w' hS => ?_⟩) hS ?_
                          rotate_left
                          ·
                            obtain ⟨q1, q2, q3⟩ := hS; have hd1 : ¬ E.length ≤ n := (by omega); have hd2 : ¬ (E.length : Int) ≤ (n : Int) := (by omega); have hd3 : (n : Int) ≤ l := (by omega); have hd5 : 0 < j := (by omega); have hd6 : (0 : Int) < (j : Int) := (by omega)
                            go_simp
                            try with_reducible rfl
                          simp only [List.getElem_toArray, List.getElem_cons_succ, List.getElem_cons_zero, Act.put, List.setIfInBounds_toArray, List.set_cons_zero, List.set_cons_succ]
                          refine wpAnyH_take (i := 18) (v := ?_) rfl (by kernel_rfl) (by kernel_rfl) (by kernel_rfl) (fun _ _ _ h => h) (.inl ⟨by kernel_rfl, fun w' hS => ?_⟩) hS ?_
                          rotate_left
                          ·
                            obtain ⟨q1, q2, q3⟩ := hS; have hd1 : ¬ E.length ≤ n := (by omega); have hd2 : ¬ (E.length : Int) ≤ (n : Int) := (by omega); have hd3 : (n : Int) ≤ l := (by omega); have hd5 : 0 < j := (by omega); have hd6 : (0 : Int) < (j : Int) := (by omega)
                            go_simp
                            try with_reducible rfl
                          simp only [List.getElem_toArray, List.getElem_cons_succ, List.getElem_cons_zero, Act.put, List.setIfInBounds_toArray, List.set_cons_zero, List.set_cons_succ]
                          refine wpAnyH_take (i := 19) (v := ?_) rfl (by kernel_rfl) (by kernel_rfl) (by kernel_rfl) (fun _ _ _ h => h) (.inl ⟨by kernel_rfl, fun w' hS => ?_⟩) hS ?_
                          rotate_left
                          ·
                            obtain ⟨q1, q2, q3⟩ := hS; have hd1 : ¬ E.length ≤ n := (by omega); have hd2 : ¬ (E.length : Int) ≤ (n : Int) := (by omega); have hd3 : (n : Int) ≤ l := (by omega); have hd5 : 0 < j := (by omega); have hd6 : (0 : Int) < (j : Int) := (by omega)
                            go_simp
                            try with_reducible rfl
                          simp only [List.getElem_toArray, List.getElem_cons_succ, List.getElem_cons_zero, Act.put, List.setIfInBounds_toArray, List.set_cons_zero, List.set_cons_succ]
                          refine wpAnyH_take (i := 20) (v := ?_) rfl (by kernel_rfl) (by kernel_rfl) (by kernel_rfl) (fun _ _ _ h => h) (.inl ⟨by kernel_rfl, fun w' hS => ?_⟩) hS ?_
                          rotate_left
                          ·
                            obtain ⟨q1, q2, q3⟩ := hS; have hd1 : ¬ E.length ≤ n := (by omega); have hd2 : ¬ (E.length : Int) ≤ (n : Int) := (by omega); have hd3 : (n : Int) ≤ l := (by omega); have hd5 : 0 < j := (by omega); have hd6 : (0 : Int) < (j : Int) := (by omega)
                            go_simp
                            try with_reducible rfl
                          simp only [List.getElem_toArray, List.getElem_cons_succ, List.getElem_cons_zero, Act.put, List.setIfInBounds_toArray, List.set_cons_zero, List.set_cons_succ]
                          refine wpAnyH_take (i := 21) (v := ?_) rfl (by kernel_rfl) (by kernel_rfl) (by kernel_rfl) (fun _ _ _ h => h) (.inl ⟨by kernel_rfl, fun w' hS => ?_⟩) hS ?_
                          rotate_left
                          ·
                            obtain ⟨q1, q2, q3⟩ := hS; have hd1 : ¬ E.length ≤ n := (by omega); have hd2 : ¬ (E.length : Int) ≤ (n : Int) := (by omega); have hd3 : (n : Int) ≤ l := (by omega); have hd5 : 0 < j := (by omega); have hd6 : (0 : Int) < (j : Int) := (by omega)
                            go_simp
                            try with_reducible rfl
                          simp only [List.getElem_toArray, List.getElem_cons_succ, List.getElem_cons_zero, Act.put, List.setIfInBounds_toArray, List.set_cons_zero, List.set_cons_succ]
                          refine wpAnyH_take (i := 22) (v := ?_) rfl (by kernel_rfl) (by kernel_rfl) (by kernel_rfl) (fun _ _ _ h => h) (.inl ⟨by kernel_rfl, fun w' hS => ?_⟩) hS ?_
                          rotate_left
                          ·
                            obtain ⟨q1, q2, q3⟩ := hS; have hd1 : ¬ E.length ≤ n := (by omega); have hd2 : ¬ (E.length : Int) ≤ (n : Int) := (by omega); have hd3 : (n : Int) ≤ l := (by omega); have hd5 : 0 < j := (by omega); have hd6 : (0 : Int) < (j : Int) := (by omega)
                            go_simp
                            try with_reducible rfl
                          simp only [List.getElem_toArray, List.getElem_cons_succ, List.getElem_cons_zero, Act.put, List.setIfInBounds_toArray, List.set_cons_zero, List.set_cons_succ]
                          refine wpAnyH_take (i := 23) (v := ?_) rfl (by kernel_rfl) (by kernel_rfl) (by kernel_rfl) (fun _ _ _ h => h) (.inl ⟨by kernel_rfl, fun w' hS => ?_⟩) hS ?_
                          rotate_left
                          ·
                            obtain ⟨q1, q2, q3⟩ := hS; have hd1 : ¬ E.length ≤ n := (by omega); have hd2 : ¬ (E.length : Int) ≤ (n : Int) := (by omega); have hd3 : (n : Int) ≤ l := (by omega); have hd5 : 0 < j := (by omega); have hd6 : (0 : Int) < (j : Int) := (by omega)
                            go_simp
                            try with_reducible rfl
                          simp only [List.getElem_toArray, List.getElem_cons_succ, List.getElem_cons_zero, Act.put, List.setIfInBounds_toArray, List.set_cons_zero, List.set_cons_succ]
                          refine wpAnyH_take (i := 24) (v := ?_) rfl (by kernel_rfl) (by kernel_rfl) (by kernel_rfl) (fun _ _ _ h => h) (.inl ⟨by kernel_rfl, fun w' hS => ?_⟩) hS ?_
                          rotate_left
                          ·
                            obtain ⟨q1, q2, q3⟩ := hS; have hd1 : ¬ E.length ≤ n := (by omega); have hd2 : ¬ (E.length : Int) ≤ (n : Int) := (by omega); have hd3 : (n : Int) ≤ l := (by omega); have hd5 : 0 < j := (by omega); have hd6 : (0 : Int) < (j : Int) := (by omega)
                            go_simp
                            try with_reducible rfl
                          simp only [List.getElem_toArray, List.getElem_cons_succ, List.getElem_cons_zero, Act.put, List.setIfInBounds_toArray, List.set_cons_zero, List.set_cons_succ]
                          refine wpAnyH_take (i := 25) (v := ?_) rfl (by kernel_rfl) (by kernel_rfl) (by kernel_rfl) (fun _ _ _ h => h) (.inl ⟨by kernel_rfl, fun w' hS => ?_⟩) hS ?_
                          rotate_left
                          ·
                            obtain ⟨q1, q2, q3⟩ := hS; have hd1 : ¬ E.length ≤ n := (by omega); have hd2 : ¬ (E.length : Int) ≤ (n : Int) := (by omega); have hd3 : (n : Int) ≤ l := (by omega); have hd5 : 0 < j := (by omega); have hd6 : (0 : Int) < (j : Int) := (by omega)
                            go_simp
                            try with_reducible rfl
                          simp only [List.getElem_toArray, List.getElem_cons_succ, List.getElem_cons_zero, Act.put, List.setIfInBounds_toArray, List.set_cons_zero, List.set_cons_succ]
                          refine wpAnyH_take (i := 26) (v := ?_) rfl (by kernel_rfl) (by kernel_rfl) (by kernel_rfl) (fun _ _ _ h => h) (.inl ⟨by kernel_rfl, fun w' hS => ?_⟩) hS ?_
                          rotate_left
                          ·
                            obtain ⟨q1, q2, q3⟩ := hS; have hd1 : ¬ E.length ≤ n := (by omega); have hd2 : ¬ (E.length : Int) ≤ (n : Int) := (by omega); have hd3 : (n : Int) ≤ l := (by omega); have hd5 : 0 < j := (by omega); have hd6 : (0 : Int) < (j : Int) := (by omega)
                            go_simp
                            try with_reducible rfl
                          simp only [List.getElem_toArray, List.getElem_cons_succ, List.getElem_cons_zero, Act.put, List.setIfInBounds_toArray, List.set_cons_zero, List.set_cons_succ]
                          refine wpAnyH_take (i := 27) (v := ?_) rfl (by kernel_rfl) (by kernel_rfl) (by kernel_rfl) (fun _ _ _ h => h) (.inl ⟨by kernel_rfl, fun w' hS => ?_⟩) hS ?_
                          rotate_left
                          ·
                            obtain ⟨q1, q2, q3⟩ := hS; have hd1 : ¬ E.length ≤ n := (by omega); have hd2 : ¬ (E.length : Int) ≤ (n : Int) := (by omega); have hd3 : (n : Int) ≤ l := (by omega); have hd5 : 0 < j := (by omega); have hd6 : (0 : Int) < (j : Int) := (by omega)
                            go_simp
                            try with_reducible rfl
                          simp only [List.getElem_toArray, List.getElem_cons_succ, List.getElem_cons_zero, Act.put, List.setIfInBounds_toArray, List.set_cons_zero, List.set_cons_succ]
                          refine wpAnyH_take (i := 28) (v := ?_) rfl (by kernel_rfl) (by kernel_rfl) (by kernel_rfl) (fun _ _ _ h => h) (.inl ⟨by kernel_rfl, fun w' hS => ?_⟩) hS ?_
                          rotate_left
                          ·
                            obtain ⟨q1, q2, q3⟩ := hS; have hd1 : ¬ E.length ≤ n := (by omega); have hd2 : ¬ (E.length : Int) ≤ (n : Int) := (by omega); have hd3 : (n : Int) ≤ l := (by omega); have hd5 : 0 < j := (by omega); have hd6 : (0 : Int) < (j : Int) := (by omega)
                            go_simp
                            try with_reducible rfl
                          simp only [List.getElem_toArray, List.getElem_cons_succ, List.getElem_cons_zero, Act.put, List.setIfInBounds_toArray, List.set_cons_zero, List.set_cons_succ]
                          refine wpAnyH_take (i := 29) (v := ?_) rfl (by kernel_rfl) (by kernel_rfl) (by kernel_rfl) (fun _ _ _ h => h) (.inl ⟨by kernel_rfl, fun w' hS => ?_⟩) hS ?_
                          rotate_left
                          ·
                            obtain ⟨q1, q2, q3⟩ := hS; have hd1 : ¬ E.length ≤ n := (by omega); have hd2 : ¬ (E.length : Int) ≤ (n : Int) := (by omega); have hd3 : (n : Int) ≤ l := (by omega); have hd5 : 0 < j := (by omega); have hd6 : (0 : Int) < (j : Int) := (by omega)
                            go_simp
                            try with_reducible rfl
                          simp only [List.getElem_toArray, List.getElem_cons_succ, List.getElem_cons_zero, Act.put, List.setIfInBounds_toArray, List.set_cons_zero, List.set_cons_succ]
                          refine wpAnyH_take (i := 30) (v := ?_) rfl (by kernel_rfl) (by kernel_rfl) (by kernel_rfl) (fun _ _ _ h => h) (.inl ⟨by kernel_rfl, fun w' hS => ?_⟩) hS ?_
                          rotate_left
                          ·
                            obtain ⟨q1, q2, q3⟩ := hS; have hd1 : ¬ E.length ≤ n := (by omega); have hd2 : ¬ (E.length : Int) ≤ (n : Int) := (by omega); have hd3 : (n : Int) ≤ l := (by omega); have hd5 : 0 < j := (by omega); have hd6 : (0 : Int) < (j : Int) := (by omega)
                            go_simp
                            try with_reducible rfl
                          simp only [List.getElem_toArray, List.getElem_cons_succ, List.getElem_cons_zero, Act.put, List.setIfInBounds_toArray, List.set_cons_zero, List.set_cons_succ]
                          refine wpAnyH_take (i := 31) (v := ?_) rfl (by kernel_rfl) (by kernel_rfl) (by kernel_rfl) (fun _ _ _ h => h) (.inl ⟨by kernel_rfl, fun w' hS => ?_⟩) hS ?_
                          rotate_left
                          ·
                            obtain ⟨q1, q2, q3⟩ := hS; have hd1 : ¬ E.length ≤ n := (by omega); have hd2 : ¬ (E.length : Int) ≤ (n : Int) := (by omega); have hd3 : (n : Int) ≤ l := (by omega); have hd5 : 0 < j := (by omega); have hd6 : (0 : Int) < (j : Int) := (by omega)
                            go_simp
                            try with_reducible rfl
                          simp only [List.getElem_toArray, List.getElem_cons_succ, List.getElem_cons_zero, Act.put, List.setIfInBounds_toArray, List.set_cons_zero, List.set_cons_succ]
                          refine wpAnyH_take (i := 32) (v := ?_) rfl (by kernel_rfl) (by kernel_rfl) (by kernel_rfl) (fun _ _ _ h => h) (.inl ⟨by kernel_rfl, fun w' hS => ?_⟩) hS ?_
                          rotate_left
                          ·
                            obtain ⟨q1, q2, q3⟩ := hS; have hd1 : ¬ E.length ≤ n := (by omega); have hd2 : ¬ (E.length : Int) ≤ (n : Int) := (by omega); have hd3 : (n : Int) ≤ l := (by omega); have hd5 : 0 < j := (by omega); have hd6 : (0 : Int) < (j : Int) := (by omega)
                            go_simp
                            try with_reducible rfl
                          simp only [List.getElem_toArray, List.getElem_cons_succ, List.getElem_cons_zero, Act.put, List.setIfInBounds_toArray, List.set_cons_zero, List.set_cons_succ]
                          refine wpAnyH_take (i := 33) (v := ?_) rfl (by kernel_rfl) (by kernel_rfl) (by kernel_rfl) (fun _ _ _ h => h) (.inl ⟨by kernel_rfl, fun w' hS => ?_⟩) hS ?_
                          rotate_left
                          ·
                            obtain ⟨q1, q2, q3⟩ := hS; have hd1 : ¬ E.length ≤ n := (by omega); have hd2 : ¬ (E.length : Int) ≤ (n : Int) := (by omega); have hd3 : (n : Int) ≤ l := (by omega); have hd5 : 0 < j := (by omega); have hd6 : (0 : Int) < (j : Int) := (by omega)
                            go_simp
                            try with_reducible rfl
                          simp only [List.getElem_toArray, List.getElem_cons_succ, List.getElem_cons_zero, Act.put, List.setIfInBounds_toArray, List.set_cons_zero, List.set_cons_succ]
                          refine wpAnyH_done (by kernel_rfl) ?_ _
                          clear hS
                          go_wp2
                          go_ret
                          exact ⟨ret_bool hqf.out.symm, hbd.out⟩
                        · rw [if_neg (by omega)] at hr
                          have hll3 := Lib.hid (hll2.out (by omega))
                          clear hprev hll2 hll
                          go_wp2_with fail
                          refine wp_region_held_drew (S := fun V => V.cell? ⟨w.heap.size, 1, none⟩ = some (.slice (some ⟨b2, off2, none⟩) edges.length ce) ∧ V.cell? ⟨b2, off2 + j, none⟩ = some (.int .i64 n)∧ V.cell? ⟨b2, off2 + (j - 1), none⟩ = some (.int .i64 l)) (by kernel_rfl) ⟨y1r, hc, hpc⟩ (fun hS => ?_)
                          generalize wr.drew = V0 at *
                          refine wpAnyH_take (i := 0) (v := ?_) rfl (by kernel_rfl) (by kernel_rfl) (by kernel_rfl) (fun _ _ _ h => h) (.inl ⟨by kernel_rfl, fun w' hS => ?_⟩) hS ?_
                          rotate_left
                          ·
                            obtain ⟨q1, q2, q3⟩ := hS; have hd1 : ¬ E.length ≤ n := (by omega); have hd2 : ¬ (E.length : Int) ≤ (n : Int) := (by omega); have hd3 : ¬ (n : Int) ≤ l := (by omega); have hd5 : 0 < j := (by omega); have hd6 : (0 : Int) < (j : Int) := (by omega)
                            go_simp
                            try with_reducible rfl
                          simp only [List.getElem_toArray, List.getElem_cons_succ, List.getElem_cons_zero, Act.put, List.setIfInBounds_toArray, List.set_cons_zero, List.set_cons_succ]
                          refine wpAnyH_take (i := 1) (v := ?_) rfl (by kernel_rfl) (by kernel_rfl) (by kernel_rfl) (fun _ _ _ h => h) (.inl ⟨by kernel_rfl, fun w' hS => ?_⟩) hS ?_
                          rotate_left
                          ·
                            obtain ⟨q1, q2, q3⟩ := hS; have hd1 : ¬ E.length ≤ n := (by omega); have hd2 : ¬ (E.length : Int) ≤ (n : Int) := (by omega); have hd3 : ¬ (n : Int) ≤ l := (by omega); have hd5 : 0 < j := (by omega); have hd6 : (0 : Int) < (j : Int) := (by omega)
                            go_simp
                            try with_reducible rfl
                          simp only [List.getElem_toArray, List.getElem_cons_succ, List.getElem_cons_zero, Act.put, List.setIfInBounds_toArray, List.set_cons_zero, List.set_cons_succ]
                          refine wpAnyH_take (i := 2) (v := ?_) rfl (by kernel_rfl) (by kernel_rfl) (by kernel_rfl) (fun _ _ _ h => h) (.inl ⟨by kernel_rfl, fun w' hS => ?_⟩) hS ?_
                          rotate_left
                          ·
                            obtain ⟨q1, q2, q3⟩ := hS; have hd1 : ¬ E.length ≤ n := (by omega); have hd2 : ¬ (E.length : Int) ≤ (n : Int) := (by omega); have hd3 : ¬ (n : Int) ≤ l := (by omega); have hd5 : 0 < j := (by omega); have hd6 : (0 : Int) < (j : Int) := (by omega)
                            go_simp
                            try with_reducible rfl
                          simp only [List.getElem_toArray, List.getElem_cons_succ, List.getElem_cons_zero, Act.put, List.setIfInBounds_toArray, List.set_cons_zero, List.set_cons_succ]
                          refine wpAnyH_take (i := 3) (v := ?_) rfl (by kernel_rfl) (by kernel_rfl) (by kernel_rfl) (fun _ _ _ h => h) (.inl ⟨by kernel_rfl, fun w' hS => ?_⟩) hS ?_
                          rotate_left
                          ·
                            obtain ⟨q1, q2, q3⟩ := hS; have hd1 : ¬ E.length ≤ n := (by omega); have hd2 : ¬ (E.length : Int) ≤ (n : Int) := (by omega); have hd3 : ¬ (n : Int) ≤ l := (by omega); have hd5 : 0 < j := (by omega); have hd6 : (0 : Int) < (j : Int) := (by omega)
                            go_simp
                            try with_reducible rfl
                          simp only [List.getElem_toArray, List.getElem_cons_succ, List.getElem_cons_zero, Act.put, List.setIfInBounds_toArray, List.set_cons_zero, List.set_cons_succ]
                          refine wpAnyH_take (i := 4) (v := ?_) rfl (by kernel_rfl) (by kernel_rfl) (by kernel_rfl) (fun _ _ _ h => h) (.inl ⟨by kernel_rfl, fun w' hS => ?_⟩) hS ?_
                          rotate_left
                          ·
                            obtain ⟨q1, q2, q3⟩ := hS; have hd1 : ¬ E.length ≤ n := (by omega); have hd2 : ¬ (E.length : Int) ≤ (n : Int) := (by omega); have hd3 : ¬ (n : Int) ≤ l := (by omega); have hd5 : 0 < j := (by omega); have hd6 : (0 : Int) < (j : Int) := (by omega)
                            go_simp
                            try with_reducible rfl
                          simp only [List.getElem_toArray, List.getElem_cons_succ, List.getElem_cons_zero, Act.put, List.setIfInBounds_toArray, List.set_cons_zero, List.set_cons_succ]
                          refine wpAnyH_take (i := 5) (v := ?_) rfl (by kernel_rfl) (by kernel_rfl) (by kernel_rfl) (fun _ _ _ h => h) (.inl ⟨by kernel_rfl, fun w' hS => ?_⟩) hS ?_
                          rotate_left
                          ·
                            obtain ⟨q1, q2, q3⟩ := hS; have hd1 : ¬ E.length ≤ n := (by omega); have hd2 : ¬ (E.length : Int) ≤ (n : Int) := (by omega); have hd3 : ¬ (n : Int) ≤ l := (by omega); have hd5 : 0 < j := (by omega); have hd6 : (0 : Int) < (j : Int) := (by omega)
                            go_simp
                            try with_reducible rfl
                          simp only [List.getElem_toArray, List.getElem_cons_succ, List.getElem_cons_zero, Act.put, List.setIfInBounds_toArray, List.set_cons_zero, List.set_cons_succ]
                          refine wpAnyH_take (i := 6) (v := ?_) rfl (by kernel_rfl) (by kernel_rfl) (by kernel_rfl) (fun _ _ _ h => h) (.inl ⟨by kernel_rfl, fun w' hS => ?_⟩) hS ?_
                          rotate_left
                          ·
                            obtain ⟨q1, q2, q3⟩ := hS; have hd1 : ¬ E.length ≤ n := (by omega); have hd2 : ¬ (E.length : Int) ≤ (n : Int) := (by omega); have hd3 : ¬ (n : Int) ≤ l := (by omega); have hd5 : 0 < j := (by omega); have hd6 : (0 : Int) < (j : Int) := (by omega)
                            go_simp
                            try with_reducible rfl
                          simp only [List.getElem_toArray, List.getElem_cons_succ, List.getElem_cons_zero, Act.put, List.setIfInBounds_toArray, List.set_cons_zero, List.set_cons_succ]
                          refine wpAnyH_take (i := 7) (v := ?_) rfl (by kernel_rfl) (by kernel_rfl) (by kernel_rfl) (fun _ _ _ h => h) (.inl ⟨by kernel_rfl, fun w' hS => ?_⟩) hS ?_
                          rotate_left
                          ·
                            obtain ⟨q1, q2, q3⟩ := hS; have hd1 : ¬ E.length ≤ n := (by omega); have hd2 : ¬ (E.length : Int) ≤ (n : Int) := (by omega); have hd3 : ¬ (n : Int) ≤ l := (by omega); have hd5 : 0 < j := (by omega); have hd6 : (0 : Int) < (j : Int) := (by omega)
                            go_simp
                            try with_reducible rfl
                          simp only [List.getElem_toArray, List.getElem_cons_succ, List.getElem_cons_zero, Act.put, List.setIfInBounds_toArray, List.set_cons_zero, List.set_cons_succ]
                          refine wpAnyH_take (i := 8) (v := ?_) rfl (by kernel_rfl) (by kernel_rfl) (by kernel_rfl) (fun _ _ _ h => h) (.inl ⟨by kernel_rfl, fun w' hS => ?_⟩) hS ?_
                          rotate_left
                          ·
                            obtain ⟨q1, q2, q3⟩ := hS; have hd1 : ¬ E.length ≤ n := (by omega); have hd2 : ¬ (E.length : Int) ≤ (n : Int) := (by omega); have hd3 : ¬ (n : Int) ≤ l := (by omega); have hd5 : 0 < j := (by omega); have hd6 : (0 : Int) < (j : Int) := (by omega)
                            go_simp
                            try with_reducible rfl
                          simp only [List.getElem_toArray, List.getElem_cons_succ, List.getElem_cons_zero, Act.put, List.setIfInBounds_toArray, List.set_cons_zero, List.set_cons_succ]
                          refine wpAnyH_take (i := 9) (v := ?_) rfl (by kernel_rfl) (by kernel_rfl) (by kernel_rfl) (fun _ _ _ h => h) (.inl ⟨by kernel_rfl, fun w' hS => ?_⟩) hS ?_
                          rotate_left
                          ·
                            obtain ⟨q1, q2, q3⟩ := hS; have hd1 : ¬ E.length ≤ n := (by omega); have hd2 : ¬ (E.length : Int) ≤ (n : Int) := (by omega); have hd3 : ¬ (n : Int) ≤ l := (by omega); have hd5 : 0 < j := (by omega); have hd6 : (0 : Int) < (j : Int) := (by omega)
                            go_simp
                            try with_reducible rfl
                          simp only [List.getElem_toArray, List.getElem_cons_succ, List.getElem_cons_zero, Act.put, List.setIfInBounds_toArray, List.set_cons_zero, List.set_cons_succ]
                          refine wpAnyH_take (i := 10) (v := ?_) rfl (by kernel_rfl) (by kernel_rfl) (by kernel_rfl) (fun _ _ _ h => h) (.inl ⟨by kernel_rfl, fun w' hS => ?_⟩) hS ?_
                          rotate_left
                          ·
                            obtain ⟨q1, q2, q3⟩ := hS; have hd1 : ¬ E.length ≤ n := (by omega); have hd2 : ¬ (E.length : Int) ≤ (n : Int) := (by omega); have hd3 : ¬ (n : Int) ≤ l := (by omega); have hd5 : 0 < j := (by omega); have hd6 : (0 : Int) < (j : Int) := (by omega)
                            go_simp
                            try with_reducible rfl
                          simp only [List.getElem_toArray, List.getElem_cons_succ, List.getElem_cons_zero, Act.put, List.setIfInBounds_toArray, List.set_cons_zero, List.set_cons_succ]
                          refine wpAnyH_take (i := 11) (v := ?_) rfl (by kernel_rfl) (by kernel_rfl) (by kernel_rfl) (fun _ _ _ h => h) (.inl ⟨by kernel_rfl, fun w' hS => ?_⟩) hS ?_
                          rotate_left
                          ·
                            obtain ⟨q1, q2, q3⟩ := hS; have hd1 : ¬ E.length ≤ n := (by omega); have hd2 : ¬ (E.length : Int) ≤ (n : Int) := (by omega); have hd3 : ¬ (n : Int) ≤ l := (by omega); have hd5 : 0 < j := (by omega); have hd6 : (0 : Int) < (j : Int) := (by omega)
                            go_simp
                            try with_reducible rfl
                          simp only [List.getElem_toArray, List.getElem_cons_succ, List.getElem_cons_zero, Act.put, List.setIfInBounds_toArray, List.set_cons_zero, List.set_cons_succ]
                          refine wpAnyH_take (i := 12) (v := ?_) rfl (by kernel_rfl) (by kernel_rfl) (by kernel_rfl) (fun _ _ _ h => h) (.inl ⟨by kernel_rfl, fun w' hS => ?_⟩) hS ?_
                          rotate_left
                          ·
                            obtain ⟨q1, q2, q3⟩ := hS; have hd1 : ¬ E.length ≤ n := (by omega); have hd2 : ¬ (E.length : Int) ≤ (n : Int) := (by omega); have hd3 : ¬ (n : Int) ≤ l := (by omega); have hd5 : 0 < j := (by omega); have hd6 : (0 : Int) < (j : Int) := (by omega)
                            go_simp
                            try with_reducible rfl
                          simp only [List.getElem_toArray, List.getElem_cons_succ, List.getElem_cons_zero, Act.put, List.setIfInBounds_toArray, List.set_cons_zero, List.set_cons_succ]
                          refine wpAnyH_take (i := 13) (v := ?_) rfl (by kernel_rfl) (by kernel_rfl) (by kernel_rfl) (fun _ _ _ h => h) (.inl ⟨by kernel_rfl, fun w' hS => ?_⟩) hS ?_
                          rotate_left
                          ·
                            obtain ⟨q1, q2, q3⟩ := hS; have hd1 : ¬ E.length ≤ n := (by omega); have hd2 : ¬ (E.length : Int) ≤ (n : Int) := (by omega); have hd3 : ¬ (n : Int) ≤ l := (by omega); have hd5 : 0 < j := (by omega); have hd6 : (0 : Int) < (j : Int) := (by omega)
                            go_simp
                            try with_reducible rfl
                          simp only [List.getElem_toArray, List.getElem_cons_succ, List.getElem_cons_zero, Act.put, List.setIfInBounds_toArray, List.set_cons_zero, List.set_cons_succ]
                          refine wpAnyH_take (i := 14) (v := ?_) rfl (by kernel_rfl) (by kernel_rfl) (by kernel_rfl) (fun _ _ _ h => h) (.inl ⟨by kernel_rfl, fun w' hS => ?_⟩) hS ?_
                          rotate_left
                          ·
                            obtain ⟨q1, q2, q3⟩ := hS; have hd1 : ¬ E.length ≤ n := (by omega); have hd2 : ¬ (E.length : Int) ≤ (n : Int) := (by omega); have hd3 : ¬ (n : Int) ≤ l := (by omega); have hd5 : 0 < j := (by omega); have hd6 : (0 : Int) < (j : Int) := (by omega)
                            go_simp
                            try with_reducible rfl
                          simp only [List.getElem_toArray, List.getElem_cons_succ, List.getElem_cons_zero, Act.put, List.setIfInBounds_toArray, List.set_cons_zero, List.set_cons_succ]
                          refine wpAnyH_take (i := 15) (v := ?_) rfl (by kernel_rfl) (by kernel_rfl) (by kernel_rfl) (fun _ _ _ h => h) (.inl ⟨by kernel_rfl, fun w' hS => ?_⟩) hS ?_
                          rotate_left
                          ·
                            obtain ⟨q1, q2, q3⟩ := hS; have hd1 : ¬ E.length ≤ n := (by omega); have hd2 : ¬ (E.length : Int) ≤ (n : Int) := (by omega); have hd3 : ¬ (n : Int) ≤ l := (by omega); have hd5 : 0 < j := (by omega); have hd6 : (0 : Int) < (j : Int) := (by omega)
                            go_simp
                            try with_reducible rfl
                          simp only [List.getElem_toArray, List.getElem_cons_succ, List.getElem_cons_zero, Act.put, List.setIfInBounds_toArray, List.set_cons_zero, List.set_cons_succ]
                          refine wpAnyH_take (i := 16) (v := ?_) rfl (by kernel_rfl) (by kernel_rfl) (by kernel_rfl) (fun _ _ _ h => h) (.inl ⟨by kernel_rfl, fun w' hS => ?_⟩) hS ?_
                          rotate_left
                          ·
                            obtain ⟨q1, q2, q3⟩ := hS; have hd1 : ¬ E.length ≤ n := (by omega); have hd2 : ¬ (E.length : Int) ≤ (n : Int) := (by omega); have hd3 : ¬ (n : Int) ≤ l := (by omega); have hd5 : 0 < j := (by omega); have hd6 : (0 : Int) < (j : Int) := (by omega)
                            go_simp
                            try with_reducible rfl
                          simp only [List.getElem_toArray, List.getElem_cons_succ, List.getElem_cons_zero, Act.put, List.setIfInBounds_toArray, List.set_cons_zero, List.set_cons_succ]
                          refine wpAnyH_take (i := 17) (v := ?_) rfl (by kernel_rfl) (by kernel_rfl) (by kernel_rfl) (fun _ _ _ h => h) (.inl ⟨by kernel_rfl, fun w' hS => ?_⟩) hS ?_
                          rotate_left
                          ·
                            obtain ⟨q1, q2, q3⟩ := hS; have hd1 : ¬ E.length ≤ n := (by omega); have hd2 : ¬ (E.length : Int) ≤ (n : Int) := (by omega); have hd3 : ¬ (n : Int) ≤ l := (by omega); have hd5 : 0 < j := (by omega); have hd6 : (0 : Int) < (j : Int) := (by omega)
                            go_simp
                            try with_reducible rfl
                          simp only [List.getElem_toArray, List.getElem_cons_succ, List.getElem_cons_zero, Act.put, List.setIfInBounds_toArray, List.set_cons_zero, List.set_cons_succ]
                          refine wpAnyH_take (i := 18) (v := ?_) rfl (by kernel_rfl) (by kernel_rfl) (by kernel_rfl) (fun _ _ _ h => h) (.inl ⟨by kernel_rfl, fun w' hS => ?_⟩) hS ?_
                          rotate_left
                          ·
                            obtain ⟨q1, q2, q3⟩ := hS; have hd1 : ¬ E.length ≤ n := (by omega); have hd2 : ¬ (E.length : Int) ≤ (n : Int) := (by omega); have hd3 : ¬ (n : Int) ≤ l := (by omega); have hd5 : 0 < j := (by omega); have hd6 : (0 : Int) < (j : Int) := (by omega)
                            go_simp
                            try with_reducible rfl
                          simp only [List.getElem_toArray, List.getElem_cons_succ, List.getElem_cons_zero, Act.put, List.setIfInBounds_toArray, List.set_cons_zero, List.set_cons_succ]
                          refine wpAnyH_take (i := 19) (v := ?_) rfl (by kernel_rfl) (by kernel_rfl) (by kernel_rfl) (fun _ _ _ h => h) (.inl ⟨by kernel_rfl, fun w' hS => ?_⟩) hS ?_
                          rotate_left
                          ·
                            obtain ⟨q1, q2, q3⟩ := hS; have hd1 : ¬ E.length ≤ n := (by omega); have hd2 : ¬ (E.length : Int) ≤ (n : Int) := (by omega); have hd3 : ¬ (n : Int) ≤ l := (by omega); have hd5 : 0 < j := (by omega); have hd6 : (0 : Int) < (j : Int) := (by omega)
                            go_simp
                            try with_reducible rfl
                          simp only [List.getElem_toArray, List.getElem_cons_succ, List.getElem_cons_zero, Act.put, List.setIfInBounds_toArray, List.set_cons_zero, List.set_cons_succ]
                          refine wpAnyH_take (i := 20) (v := ?_) rfl (by kernel_rfl) (by kernel_rfl) (by kernel_rfl) (fun _ _ _ h => h) (.inl ⟨by kernel_rfl, fun w' hS => ?_⟩) hS ?_
                          rotate_left
                          ·
                            obtain ⟨q1, q2, q3⟩ := hS; have hd1 : ¬ E.length ≤ n := (by omega); have hd2 : ¬ (E.length : Int) ≤ (n : Int) := (by omega); have hd3 : ¬ (n : Int) ≤ l := (by omega); have hd5 : 0 < j := (by omega); have hd6 : (0 : Int) < (j : Int) := (by omega)
                            go_simp
                            try with_reducible rfl
                          simp only [List.getElem_toArray, List.getElem_cons_succ, List.getElem_cons_zero, Act.put, List.setIfInBounds_toArray, List.set_cons_zero, List.set_cons_succ]
                          refine wpAnyH_take (i := 21) (v := ?_) rfl (by kernel_rfl) (by kernel_rfl) (by kernel_rfl) (fun _ _ _ h => h) (.inl ⟨by kernel_rfl, fun w' hS => ?_⟩) hS ?_
                          rotate_left
                          ·
                            obtain ⟨q1, q2, q3⟩ := hS; have hd1 : ¬ E.length ≤ n := (by omega); have hd2 : ¬ (E.length : Int) ≤ (n : Int) := (by omega); have hd3 : ¬ (n : Int) ≤ l := (by omega); have hd5 : 0 < j := (by omega); have hd6 : (0 : Int) < (j : Int) := (by omega)
                            go_simp
                            try with_reducible rfl
                          simp only [List.getElem_toArray, List.getElem_cons_succ, List.getElem_cons_zero, Act.put, List.setIfInBounds_toArray, List.set_cons_zero, List.set_cons_succ]
                          refine wpAnyH_take (i := 22) (v := ?_) rfl (by kernel_rfl) (by kernel_rfl) (by kernel_rfl) (fun _ _ _ h => h) (.inl ⟨by kernel_rfl, fun w' hS => ?_⟩) hS ?_
                          rotate_left
                          ·
                            obtain ⟨q1, q2, q3⟩ := hS; have hd1 : ¬ E.length ≤ n := (by omega); have hd2 : ¬ (E.length : Int) ≤ (n : Int) := (by omega); have hd3 : ¬ (n : Int) ≤ l := (by omega); have hd5 : 0 < j := (by omega); have hd6 : (0 : Int) < (j : Int) := (by omega)
                            go_simp
                            try with_reducible rfl
                          simp only [List.getElem_toArray, List.getElem_cons_succ, List.getElem_cons_zero, Act.put, List.setIfInBounds_toArray, List.set_cons_zero, List.set_cons_succ]
                          refine wpAnyH_take (i := 23) (v := ?_) rfl (by kernel_rfl) (by kernel_rfl) (by kernel_rfl) (fun _ _ _ h => h) (.inl ⟨by kernel_rfl, fun w' hS => ?_⟩) hS ?_
                          rotate_left
                          ·
                            obtain ⟨q1, q2, q3⟩ := hS; have hd1 : ¬ E.length ≤ n := (by omega); have hd2 : ¬ (E.length : Int) ≤ (n : Int) := (by omega); have hd3 : ¬ (n : Int) ≤ l := (by omega); have hd5 : 0 < j := (by omega); have hd6 : (0 : Int) < (j : Int) := (by omega)
                            go_simp
                            try with_reducible rfl
                          simp only [List.getElem_toArray, List.getElem_cons_succ, List.getElem_cons_zero, Act.put, List.setIfInBounds_toArray, List.set_cons_zero, List.set_cons_succ]
                          refine wpAnyH_take (i := 24) (v := ?_) rfl (by kernel_rfl) (by kernel_rfl) (by kernel_rfl) (fun _ _ _ h => h) (.inl ⟨by kernel_rfl, fun w' hS => ?_⟩) hS ?_
                          rotate_left
                          ·
                            obtain ⟨q1, q2, q3⟩ := hS; have hd1 : ¬ E.length ≤ n := (by omega); have hd2 : ¬ (E.length : Int) ≤ (n : Int) := (by omega); have hd3 : ¬ (n : Int) ≤ l := (by omega); have hd5 : 0 < j := (by omega); have hd6 : (0 : Int) < (j : Int) := (by omega)
                            go_simp
                            try with_reducible rfl
                          simp only [List.getElem_toArray, List.getElem_cons_succ, List.getElem_cons_zero, Act.put, List.setIfInBounds_toArray, List.set_cons_zero, List.set_cons_succ]
                          refine wpAnyH_take (i := 25) (v := ?_) rfl (by kernel_rfl) (by kernel_rfl) (by kernel_rfl) (fun _ _ _ h => h) (.inl ⟨by kernel_rfl, fun w' hS => ?_⟩) hS ?_
                          rotate_left
                          ·
                            obtain ⟨q1, q2, q3⟩ := hS; have hd1 : ¬ E.length ≤ n := (by omega); have hd2 : ¬ (E.length : Int) ≤ (n : Int) := (by omega); have hd3 : ¬ (n : Int) ≤ l := (by omega); have hd5 : 0 < j := (by omega); have hd6 : (0 : Int) < (j : Int) := (by omega)
                            go_simp
                            try with_reducible rfl
                          simp only [List.getElem_toArray, List.getElem_cons_succ, List.getElem_cons_zero, Act.put, List.setIfInBounds_toArray, List.set_cons_zero, List.set_cons_succ]
                          refine wpAnyH_take (i := 26) (v := ?_) rfl (by kernel_rfl) (by kernel_rfl) (by kernel_rfl) (fun _ _ _ h => h) (.inl ⟨by kernel_rfl, fun w' hS => ?_⟩) hS ?_
                          rotate_left
                          ·
                            obtain ⟨q1, q2, q3⟩ := hS; have hd1 : ¬ E.length ≤ n := (by omega); have hd2 : ¬ (E.length : Int) ≤ (n : Int) := (by omega); have hd3 : ¬ (n : Int) ≤ l := (by omega); have hd5 : 0 < j := (by omega); have hd6 : (0 : Int) < (j : Int) := (by omega)
                            go_simp
                            try with_reducible rfl
                          simp only [List.getElem_toArray, List.getElem_cons_succ, List.getElem_cons_zero, Act.put, List.setIfInBounds_toArray, List.set_cons_zero, List.set_cons_succ]
                          refine wpAnyH_take (i := 27) (v := ?_) rfl (by kernel_rfl) (by kernel_rfl) (by kernel_rfl) (fun _ _ _ h => h) (.inl ⟨by kernel_rfl, fun w' hS => ?_⟩) hS ?_
                          rotate_left
                          ·
                            obtain ⟨q1, q2, q3⟩ := hS; have hd1 : ¬ E.length ≤ n := (by omega); have hd2 : ¬ (E.length : Int) ≤ (n : Int) := (by omega); have hd3 : ¬ (n : Int) ≤ l := (by omega); have hd5 : 0 < j := (by omega); have hd6 : (0 : Int) < (j : Int) := (by omega)
                            go_simp
                            try with_reducible rfl
                          simp only [List.getElem_toArray, List.getElem_cons_succ, List.getElem_cons_zero, Act.put, List.setIfInBounds_toArray, List.set_cons_zero, List.set_cons_succ]
                          refine wpAnyH_take (i := 28) (v := ?_) rfl (by kernel_rfl) (by kernel_rfl) (by kernel_rfl) (fun _ _ _ h => h) (.inl ⟨by kernel_rfl, fun w' hS => ?_⟩) hS ?_
                          rotate_left
                          ·
                            obtain ⟨q1, q2, q3⟩ := hS; have hd1 : ¬ E.length ≤ n := (by omega); have hd2 : ¬ (E.length : Int) ≤ (n : Int) := (by omega); have hd3 : ¬ (n : Int) ≤ l := (by omega); have hd5 : 0 < j := (by omega); have hd6 : (0 : Int) < (j : Int) := (by omega)
                            go_simp
                            try with_reducible rfl
                          simp only [List.getElem_toArray, List.getElem_cons_succ, List.getElem_cons_zero, Act.put, List.setIfInBounds_toArray, List.set_cons_zero, List.set_cons_succ]
                          refine wpAnyH_take (i := 29) (v := ?_) rfl (by kernel_rfl) (by kernel_rfl) (by kernel_rfl) (fun _ _ _ h => h) (.inl ⟨by kernel_rfl, fun w' hS => ?_⟩) hS ?_
                          rotate_left
                          ·
                            obtain ⟨q1, q2, q3⟩ := hS; have hd1 : ¬ E.length ≤ n := (by omega); have hd2 : ¬ (E.length : Int) ≤ (n : Int) := (by omega); have hd3 : ¬ (n : Int) ≤ l := (by omega); have hd5 : 0 < j := (by omega); have hd6 : (0 : Int) < (j : Int) := (by omega)
                            go_simp
                            try with_reducible rfl
                          simp only [List.getElem_toArray, List.getElem_cons_succ, List.getElem_cons_zero, Act.put, List.setIfInBounds_toArray, List.set_cons_zero, List.set_cons_succ]
                          refine wpAnyH_take (i := 30) (v := ?_) rfl (by kernel_rfl) (by kernel_rfl) (by kernel_rfl) (fun _ _ _ h => h) (.inl ⟨by kernel_rfl, fun w' hS => ?_⟩) hS ?_
                          rotate_left
                          ·
                            obtain ⟨q1, q2, q3⟩ := hS; have hd1 : ¬ E.length ≤ n := (by omega); have hd2 : ¬ (E.length : Int) ≤ (n : Int) := (by omega); have hd3 : ¬ (n : Int) ≤ l := (by omega); have hd5 : 0 < j := (by omega); have hd6 : (0 : Int) < (j : Int) := (by omega)
                            go_simp
                            try with_reducible rfl
                          simp only [List.getElem_toArray, List.getElem_cons_succ, List.getElem_cons_zero, Act.put, List.setIfInBounds_toArray, List.set_cons_zero, List.set_cons_succ]
                          refine wpAnyH_take (i := 31) (v := ?_) rfl (by kernel_rfl) (by kernel_rfl) (by kernel_rfl) (fun _ _ _ h => h) (.inl ⟨by kernel_rfl, fun w' hS => ?_⟩) hS ?_
                          rotate_left
                          ·
                            obtain ⟨q1, q2, q3⟩ := hS; have hd1 : ¬ E.length ≤ n := (by omega); have hd2 : ¬ (E.length : Int) ≤ (n : Int) := (by omega); have hd3 : ¬ (n : Int) ≤ l := (by omega); have hd5 : 0 < j := (by omega); have hd6 : (0 : Int) < (j : Int) := (by omega)
                            go_simp
                            try with_reducible rfl
                          simp only [List.getElem_toArray, List.getElem_cons_succ, List.getElem_cons_zero, Act.put, List.setIfInBounds_toArray, List.set_cons_zero, List.set_cons_succ]
                          refine wpAnyH_take (i := 32) (v := ?_) rfl (by kernel_rfl) (by kernel_rfl) (by kernel_rfl) (fun _ _ _ h => h) (.inl ⟨by kernel_rfl, fun w' hS => ?_⟩) hS ?_
                          rotate_left
                          ·
                            obtain ⟨q1, q2, q3⟩ := hS; have hd1 : ¬ E.length ≤ n := (by omega); have hd2 : ¬ (E.length : Int) ≤ (n : Int) := (by omega); have hd3 : ¬ (n : Int) ≤ l := (by omega); have hd5 : 0 < j := (by omega); have hd6 : (0 : Int) < (j : Int) := (by omega)
                            go_simp
                            try with_reducible rfl
                          simp only [List.getElem_toArray, List.getElem_cons_succ, List.getElem_cons_zero, Act.put, List.setIfInBounds_toArray, List.set_cons_zero, List.set_cons_succ]
                          refine wpAnyH_take (i := 33) (v := ?_) rfl (by kernel_rfl) (by kernel_rfl) (by kernel_rfl) (fun _ _ _ h => h) (.inl ⟨by kernel_rfl, fun w' hS => ?_⟩) hS ?_
                          rotate_left
                          ·
                            obtain ⟨q1, q2, q3⟩ := hS; have hd1 : ¬ E.length ≤ n := (by omega); have hd2 : ¬ (E.length : Int) ≤ (n : Int) := (by omega); have hd3 : ¬ (n : Int) ≤ l := (by omega); have hd5 : 0 < j := (by omega); have hd6 : (0 : Int) < (j : Int) := (by omega)
                            go_simp
                            try with_reducible rfl
                          simp only [List.getElem_toArray, List.getElem_cons_succ, List.getElem_cons_zero, Act.put, List.setIfInBounds_toArray, List.set_cons_zero, List.set_cons_succ]
                          refine wpAnyH_done (by kernel_rfl) ?_ _
                          obtain ⟨q1, q2⟩ : V0.cell? ⟨w.heap.size, 1, none⟩ = some (.slice (some ⟨b2, off2, none⟩) edges.length ce) ∧ V0.cell? ⟨b2, off2 + j, none⟩ = some (.int .i64 (n : Int)) := ⟨hS.1, hS.2.1⟩
                          clear hS
                          have hst4 := stay_of_below hWd.out.below
                          have hec3 := (hec.out.stay hst4).mono hWd.out.below.size
                          obtain ⟨ao3, cap3, hvv3, hec4⟩ := hec3.form
                          obtain ⟨rfl, rfl⟩ : ao = ao3 ∧ cap = cap3 := by injection hvv3 with h1 h2 h3; exact ⟨h1, h3⟩
                          obtain ⟨b3, off3, u3, rfl, -, hEc, hEt⟩ := hec4 n hnE
                          have hcd : coveredR E (edges.take (j + 1)) = coveredR E (edges.take j) ++ E[n] := by
                            rw [hcs.out, Int.toNat_natCast, List.getD_eq_getElem?_getD, List.getElem?_eq_getElem hnE, Option.getD_some]
                          have hEl2 := hEe _ (List.getElem_mem hnE)
                          have hrow3 := hEt.row
                          have hone3 : ∀ u ∈ textsV E[n], u.oneCell' = true := fun u hu => by
                            obtain ⟨s, -, rfl⟩ := List.mem_map.1 hu
                            rfl
                          have hown3 := hWd.out.own
                          have hsz3 := hWd.out.below.size
                          have hnEi : (n : Int) < (E.length : Int) := by omega
                          have hnE0 : (0 : Int) ≤ (n : Int) := by omega
                          clear hec3 hec4 hvv3 hEt hcs hst4
                          replace hcd := Lib.hid hcd
                          replace hec := Lib.hid hec
                          go_wp2_with (at_builtin; refine wpList_app_texts rfl _ _ rfl w1.heap.size _ u3 _ _ (textsV E[n]) rfl hown3 rfl hrow3 hone3 ?cxb2 hsz3 ?cyb2)
                          case cxb2 => simp only [textsV_length]; omega
                          case cyb2 =>
                            intro v' w' g1 g2
                            have g3 : w'.ownsRow w1.heap.size 9 1 v' ((textsV (coveredR E (edges.take j))).length + (textsV E[n]).length) (textsV (coveredR E (edges.take j)) ++ textsV E[n]) := by rw [textsV_length, textsV_length]; exact g1
                            have hW5 := Lib.hid (hWd.out.stepN hsz3 g3 g2)
                            have hb5 : Hid (OW 9 w1 w1.heap.size v' (textsV (coveredR E (edges.take (j + 1)))) w') := by
                              rw [hcd.out]
                              have := hW5.out
                              unfold textsV at this ⊢
                              rw [List.map_append]
                              exact Lib.hid this
                            clear hW5 hWd hown3 g1 g2 g3
                            go_wp2
                            go_round
                            case rel => exact ⟨j + 1, n, hj1.out, by go_num, hll3, hb5, hr⟩
                            case measure => have := hj1.out; simp [intOf]; omega
                · have hji : ¬ (j : Int) < (edges.length : Int) := by omega
                  obtain rfl : j = edges.length := by omega
                  rw [List.drop_length, riseE] at hr
                  have hq6 := hq5.out
                  rw [← hr.out, Bool.true_and] at hq6
                  rw [List.take_length] at hW
                  obtain ⟨ac, cc, rfl⟩ := hW.out.form
                  have hcl := covered_len hEe edges
                  have hwi := Lib.hid (within_any wr av cv names ac cc (coveredR E edges) (by omega) (by omega) (fun j hj => by
                    obtain ⟨b, off, h1, h2⟩ := hxv.out j hj
                    exact ⟨b, off, h1, (cell_lt (hst.cell h2)), hst.cell h2⟩) (fun j hj => by
                    obtain ⟨aa, cp, h0, -, h1⟩ := hW.out.row.form
                    obtain ⟨b, off, h2, h3, h4⟩ := h1 j (by simpa using hj)
                    injection h0 with h5 h6 h7
                    exact ⟨b, off, h5.trans h2, h3, by rw [h4]; simp [textsV]⟩))
                  rw [textsV_length] at hW ⊢
                  replace hq6 := Lib.hid hq6
                  clear hr hq5 hll hlt
                  go_wp2_with fail
                  refine hwi.out.mono ?_
                  rintro e1 w4 ⟨rfl, rfl⟩
                  go_wp2
                  go_ret
                  exact ⟨ret_bool hq6.out, hbr.out⟩
end Go.Proofs.Ytnocncmjdhlmkaa.hyp
