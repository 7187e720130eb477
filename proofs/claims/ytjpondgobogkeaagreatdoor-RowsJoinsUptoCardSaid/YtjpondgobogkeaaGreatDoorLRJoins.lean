/- A join goes in any order, but for that of columns and rows; with a table of no variables and one row it is the table, with none no rows; each joined row's cells are one row's or the other's: for every two tables, a list of variables, a language and a list of numbers, not above the bound of the statement, that may be read, where the listed variables of the library hold what the program's text lays. -/
import Derived.Test.YtjpondgobogkeaaGreatDoorTabKeyP
import Derived.Test.YtjpondgobogkeaaGreatDoorTabWake
import Derived.Test.YtjpondgobogkeaaGreatDoorTabPutA
import Derived.Test.YtjpondgobogkeaaGreatDoorTabFits
namespace Go.Proofs.YtjpondgobogkeaaGreatDoor.tab
open Go.RowKit dec val in
theorem look_cases {ns : List ByteArray} {r : List V} {nm : ByteArray} {xi : Int} (hl : r.length = ns.length) (h : idxI ns nm = xi) : xi = -1 ∨ ∃ (q : Nat) (hq : q < r.length), xi = (q : Int) ∧ r[q] = cellF ns r nm := by
  unfold idxI at h
  by_cases hm : nm ∈ ns
  · rw [if_pos hm] at h
    obtain ⟨h1, h2⟩ := cell_at hl hm
    exact .inr ⟨_, h1, h.symm, h2⟩
  · rw [if_neg hm] at h
    exact .inl h.symm
open Go.ChangeShapes Go.WideShapes Go.ChangeAt Go.RowKit kit dec val
open hyp (RowA TextsA CellsStay stay_of_below textsV textsV_length own_row)
set_option linter.unusedVariables false
set_option linter.unusedSimpArgs false
set_option maxRecDepth 100000 in
set_option maxHeartbeats 8000000 in
theorem rjoins_any (w : World) (hE : Env w) (v va ra vb rb vv nv : Value) (A B : Tab) (X : List ByteArray) (lang : Int) (L : List Int) (hT : TwoA w 1048576 v va ra vb rb vv nv A B X lang L) :
    Calls Tryz.prog 3 #[v] w fun e w' => e = .returned (.bool true) ∧ Below w.heap.size w w' := by
  obtain ⟨av, cv, hav, -⟩ := hT.av.form
  obtain ⟨ar, cr, har, -, -⟩ := hT.ar.form
  obtain ⟨bv, dv, hbv, -⟩ := hT.bv.form
  obtain ⟨br, dr, hbr, -, -⟩ := hT.br.form
  obtain ⟨xv, ex, hxv, -⟩ := hT.xs.form
  obtain ⟨nv, en, hnv, -, -⟩ := hT.ns.form
  rw [hyp.numsV_length] at hnv
  subst hav har hbv hbr hxv hnv
  have hveq := hT.eq
  subst hveq
  have hq := Blk.new w #[.slice av A.vars.length cv, .slice ar A.rows.length cr, .slice bv B.vars.length dv, .slice br B.rows.length dr, .slice xv X.length ex, .int .i64 lang, .slice nv L.length en] 28
  have hal : Below w.heap.size w (w.alloc (.cells #[.slice av A.vars.length cv, .slice ar A.rows.length cr, .slice bv B.vars.length dv, .slice br B.rows.length dr, .slice xv X.length ex, .int .i64 lang, .slice nv L.length en] 28)) := (Below.refl _ _).alloc (Nat.le_refl _) _
  have cM := Lib.hid (lmay_any _ _ _ _ _ _ _ _ A B X lang L (hT.stay hal))
  have x0 := hq.cell 0 rfl
  have x1 := hq.cell 1 rfl
  have x2 := hq.cell 2 rfl
  have x3 := hq.cell 3 rfl
  have x4 := hq.cell 4 rfl
  have x5 := hq.cell 5 rfl
  have x6 := hq.cell 6 rfl
  obtain ⟨m, hm⟩ : ∃ m, mayL A B = m := ⟨_, rfl⟩
  rw [hm] at cM
  replace hm := Lib.hid hm
  replace hal := Lib.hid hal
  clear hq
  go_enter Tryz.func3, Tryz.ntmps3
  go_wp2_with fail
  refine cM.out.mono ?_
  rintro e w2 ⟨rfl, hb2⟩
  replace x0 := (stay_of_below hb2).cell x0
  replace x1 := (stay_of_below hb2).cell x1
  replace x2 := (stay_of_below hb2).cell x2
  replace x3 := (stay_of_below hb2).cell x3
  replace x4 := (stay_of_below hb2).cell x4
  replace x5 := (stay_of_below hb2).cell x5
  replace x6 := (stay_of_below hb2).cell x6
  have hB2 := Lib.hid (hal.out.trans (hb2.mono hal.out.size))
  clear cM hb2 hal
  cases m with
  | false =>
    go_wp2_with fail
    refine (wakes9_any _ (hE.below hB2.out)).mono ?_
    rintro e wz ⟨rfl, hbz⟩
    have hbzz := Lib.hid (hB2.out.trans (hbz.mono hB2.out.size))
    clear hbz
    go_wp2
    go_ret
    exact ⟨rfl, hbzz.out⟩
  | true =>
    obtain ⟨hmA, hmB, h64, h900, h60a, h60b⟩ := may_parts hm.out
    have hlt : lightT A B = true := by
      have h := hm.out
      unfold mayL at h
      rw [Bool.and_eq_true] at h
      exact h.1
    obtain ⟨hwA, hwB⟩ := wt_light hlt
    obtain ⟨hnA, hrA⟩ := may_rows hmA
    obtain ⟨hnB, hrB⟩ := may_rows hmB
    have hfab := foldN_len B.vars A.vars
    have hfba := foldN_len A.vars B.vars
    have hjz : joinZ A B = joinT A B := by unfold joinZ; rw [hmA, hmB]; simp
    have hjz2 : joinZ B A = joinT B A := by unfold joinZ; rw [hmA, hmB]; simp
    have hTj : joinT A B = ⟨B.vars.foldl addN A.vars, joinRows A B⟩ := by unfold joinT; rw [if_pos (by omega)]
    have hT2 := Lib.hid (fun V (h : Below w2.heap.size w2 V) => hT.stay (hB2.out.trans (h.mono hB2.out.size)))
    have hE2 := Lib.hid (fun V (h : Below w2.heap.size w2 V) => hE.below (hB2.out.trans (h.mono hB2.out.size)))
    have h9001 : A.rows.length * B.rows.length ≤ 1048576 := by omega
    have h9002 : B.rows.length * A.rows.length ≤ 1048576 := by rw [Nat.mul_comm]; exact h9001
    have hjA := Lib.hid (fun V (h : Below w2.heap.size w2 V) => join_any 1048576 (by omega) V (hE2.out V h) _ _ A B (hT2.out V h).tabA (hT2.out V h).tabB (by omega) (by omega) (by omega) (by omega) (by omega) h9001)
    have hjB := Lib.hid (fun V (h : Below w2.heap.size w2 V) => join_any 1048576 (by omega) V (hE2.out V h) _ _ B A (hT2.out V h).tabB (hT2.out V h).tabA (by omega) (by omega) (by omega) (by omega) (by omega) h9002)
    rw [hjz] at hjA
    rw [hjz2] at hjB
    have hJm := joinT_may hmA hmB
    have hKm := joinT_may hmB hmA
    have hJw := wt_joinT hmA hmB h64 hwA hwB
    have hperm := join_perm hmA hmB h64
    have hcomm := join_comm hmA hmB h64
    have hPj : projZ (joinT B A) (joinT A B).vars = projT (joinT B A) (joinT A B).vars := by unfold projZ; rw [hKm, (may_rows hJm).1]; simp
    have hJl : (joinT A B).vars.length ≤ 64 := (names_parts (may_rows hJm).1).1
    have hKl : (joinT B A).vars.length ≤ 64 := (names_parts (may_rows hKm).1).1
    have hrl : (joinRows A B).length ≤ 900 := by
      by_cases h0 : 0 < A.rows.length
      · have h1 := rowsIJ_len A B (A.rows.length - 1) B.rows.length (by omega) (Nat.le_refl _)
        rw [← rowsIJ_next A B (by omega), show A.rows.length - 1 + 1 = A.rows.length by omega, rowsIJ_end] at h1
        have h2 : (A.rows.length - 1) * B.rows.length + B.rows.length = A.rows.length * B.rows.length := by
          obtain ⟨n, hn⟩ : ∃ n, A.rows.length = n + 1 := ⟨A.rows.length - 1, by omega⟩
          rw [hn, Nat.succ_mul]; simp
        omega
      · have h1 : A.rows = [] := List.eq_nil_of_length_eq_zero (by omega)
        unfold joinRows
        rw [h1]; simp
    have hJr : (joinT A B).rows.length ≤ 900 := by rw [hTj]; exact hrl
    have hKr : (joinT B A).rows.length ≤ 900 := by
      have h1 := hperm.length_eq
      have h2 : (projT (joinT B A) (joinT A B).vars).rows.length = (joinT B A).rows.length := by unfold projT; rw [List.length_map]
      omega
    obtain ⟨J, hJ⟩ : ∃ J, joinT A B = J := ⟨_, rfl⟩
    obtain ⟨K, hK⟩ : ∃ K, joinT B A = K := ⟨_, rfl⟩
    rw [hJ] at hJm hJw hperm hcomm hPj hJl hJr hTj hjA
    rw [hK] at hKm hperm hcomm hPj hKl hKr hjB
    have hkJ : KeyL J := key_light fun r hr => by have := hJw r hr; omega
    have hkP : KeyL (projT K J.vars) := key_light fun r hr => by have := hJw r (hperm.mem_iff.2 hr); omega
    have hkA : KeyL A := key_light fun r hr => by have := hwA r hr; omega
    have hPl : (projT K J.vars).rows.length ≤ 900 := by unfold projT; rw [List.length_map]; exact hKr
    replace hm := Lib.hid hm
    replace hperm := Lib.hid hperm
    replace hJw := Lib.hid hJw
    replace hTj := Lib.hid hTj
    have cJ := Lib.hid (hjA.out w2 (Below.refl _ _))
    replace hjB := Lib.hid hjB.out
    clear hjA hJ hK hjz hjz2 hwA hwB hlt
    go_wp2_with fail
    refine cJ.out.mono ?_
    rintro e w3 ⟨v, rfl, hO3⟩
    obtain ⟨vv3, rv3, rfl, hb3, hown3, hsz3, hMR3⟩ := hO3
    obtain ⟨an3, cn3, hvn⟩ := own_form4x hown3
    obtain ⟨ar3, cr3, hvr⟩ := hMR3.form
    subst hvn
    subst hvr
    have h3b : Below w2.heap.size w2 (w3.alloc (.cells #[.slice an3 J.vars.length cn3, .slice ar3 J.rows.length cr3] 25)) := hb3.alloc hb3.size _
    have t3 : TabA (w3.alloc (.cells #[.slice an3 J.vars.length cn3, .slice ar3 J.rows.length cr3] 25)) 1048576 (.agg #[.slice an3 J.vars.length cn3, .slice ar3 J.rows.length cr3]) J :=
      (⟨_, _, rfl, ⟨own_row (by rw [textsV_length]; exact hown3), hsz3⟩, hMR3.read⟩ : TabA w3 1048576 (.agg #[.slice an3 J.vars.length cn3, .slice ar3 J.rows.length cr3]) J).stay ((Below.refl _ _).alloc (Nat.le_refl _) _)
    have q3 := Blk.new w3 #[.slice an3 J.vars.length cn3, .slice ar3 J.rows.length cr3] 25
    have cK := Lib.hid (hjB.out _ h3b)
    replace x0 := (stay_of_below h3b).cell x0
    replace x1 := (stay_of_below h3b).cell x1
    replace x2 := (stay_of_below h3b).cell x2
    replace x3 := (stay_of_below h3b).cell x3
    replace x4 := (stay_of_below h3b).cell x4
    replace x5 := (stay_of_below h3b).cell x5
    replace x6 := (stay_of_below h3b).cell x6
    clear hb3 hown3 hsz3 hMR3 cJ
    go_wp2_with fail
    obtain ⟨p3, hp3⟩ : ∃ p3, w3.heap.size = p3 := ⟨_, rfl⟩
    rw [hp3] at q3
    try rw [hp3]
    generalize w3.alloc (.cells #[.slice an3 J.vars.length cn3, .slice ar3 J.rows.length cr3] 25) = w3b at *
    refine cK.out.mono ?_
    rintro e w4 ⟨v, rfl, hO4⟩
    obtain ⟨vv4, rv4, rfl, hb4, hown4, hsz4, hMR4⟩ := hO4
    obtain ⟨an4, cn4, hvn⟩ := own_form4x hown4
    obtain ⟨ar4, cr4, hvr⟩ := hMR4.form
    subst hvn
    subst hvr
    go_upto_region 6 with fail
    obtain ⟨wz, hwz⟩ : ∃ wz, (((w4.alloc (.cells #[.slice an4 K.vars.length cn4, .slice ar4 K.rows.length cr4] 25)).alloc (.cells #[.slice none 0 0] 36)).alloc (.cells #[.slice none 0 0, .slice (some ⟨w4.heap.size + 1, 0, none⟩) 1 1] 25)).drew = wz := ⟨_, rfl⟩
    have h4z : Below w4.heap.size w4 wz := by
      rw [← hwz]
      exact ((((Below.refl _ _).alloc (Nat.le_refl _) _).alloc (by simp) _).alloc (by simp; omega) _).drew
    have h3z : Below w3b.heap.size w3b wz := hb4.trans (h4z.mono hb4.size)
    have h2z : Below w2.heap.size w2 wz := h3b.trans (h3z.mono h3b.size)
    have q4 : Blk wz w4.heap.size #[.slice an4 K.vars.length cn4, .slice ar4 K.rows.length cr4] 25 := by
      rw [← hwz]
      exact (((Blk.new w4 _ _).alloc _).alloc _).drewN 1
    have qc : Blk wz (w4.heap.size + 1) #[.slice none 0 0] 36 := by
      have h := ((Blk.new (w4.alloc (.cells #[.slice an4 K.vars.length cn4, .slice ar4 K.rows.length cr4] 25)) #[.slice none 0 0] 36).alloc (.cells #[.slice none 0 0, .slice (some ⟨w4.heap.size + 1, 0, none⟩) 1 1] 25)).drewN 1
      rw [World.size_alloc] at h
      rw [← hwz]
      exact h
    have q5 : Blk wz (w4.heap.size + 1 + 1) #[.slice none 0 0, .slice (some ⟨w4.heap.size + 1, 0, none⟩) 1 1] 25 := by
      have h := (Blk.new ((w4.alloc (.cells #[.slice an4 K.vars.length cn4, .slice ar4 K.rows.length cr4] 25)).alloc (.cells #[.slice none 0 0] 36)) #[.slice none 0 0, .slice (some ⟨w4.heap.size + 1, 0, none⟩) 1 1] 25).drewN 1
      rw [World.size_alloc, World.size_alloc] at h
      rw [← hwz]
      exact h
    have q3z : Blk wz p3 #[.slice an3 J.vars.length cn3, .slice ar3 J.rows.length cr3] 25 := (h3z.block _ q3.lt).trans q3
    have tJ : TabA wz 1048576 (.agg #[.slice an3 J.vars.length cn3, .slice ar3 J.rows.length cr3]) J := t3.stay h3z
    have tK : TabA wz 1048576 (.agg #[.slice an4 K.vars.length cn4, .slice ar4 K.rows.length cr4]) K :=
      (⟨_, _, rfl, ⟨own_row (by rw [textsV_length]; exact hown4), hsz4⟩, hMR4.read⟩ : TabA w4 1048576 (.agg #[.slice an4 K.vars.length cn4, .slice ar4 K.rows.length cr4]) K).stay h4z
    have tU : TabA wz 1048576 (.agg #[.slice none 0 0, .slice (some ⟨w4.heap.size + 1, 0, none⟩) 1 1]) unitT :=
      ⟨_, _, rfl, ⟨Or.inl ⟨none, 0, rfl, rfl⟩, by simp [unitT]⟩, rows_blk (vs := [.slice none 0 0]) qc rfl (by simp) (fun j h h' => by
        obtain rfl : j = 0 := by simpa using h
        exact la_nil _ _)⟩
    have tZ : ∀ V, TabA V 1048576 (.agg #[.slice none 0 0, .slice none 0 0]) zeroT := fun V => ⟨_, _, rfl, ⟨Or.inl ⟨none, 0, rfl, rfl⟩, by simp [zeroT]⟩, ⟨[], rfl, Or.inl ⟨none, 0, rfl, rfl⟩, fun j hj => by simp at hj⟩⟩
    replace x0 := (stay_of_below h3z).cell x0
    replace x1 := (stay_of_below h3z).cell x1
    replace x2 := (stay_of_below h3z).cell x2
    replace x3 := (stay_of_below h3z).cell x3
    replace x4 := (stay_of_below h3z).cell x4
    replace x5 := (stay_of_below h3z).cell x5
    replace x6 := (stay_of_below h3z).cell x6
    have u0 := q3z.cell 0 rfl
    have u1 := q3z.cell 1 rfl
    have u2 := q4.cell 0 rfl
    have u3 := q4.cell 1 rfl
    have u4 := q5.cell 0 rfl
    have u5 := q5.cell 1 rfl
    have hTz := hT2.out wz h2z
    have hBz := Lib.hid (hB2.out.trans (h2z.mono hB2.out.size))
    have hEz := Lib.hid (fun V (h : Below wz.heap.size wz V) => hE2.out V (h2z.trans (h.mono h2z.size)))
    have q3h := Lib.hid q3z
    have hPj2 := hPj
    have hJU : joinZ A unitT = A := by unfold joinZ; rw [hmA, unit_may, join_unit hmA]; simp
    have hUJ : joinZ unitT A = A := by unfold joinZ; rw [hmA, unit_may, unit_join hmA]; simp
    obtain ⟨Fz, hJZ⟩ : ∃ Fz, joinZ A zeroT = ⟨Fz, []⟩ := by
      refine ⟨(joinZ A zeroT).vars, ?_⟩
      have h : (joinZ A zeroT).rows = [] := by
        unfold joinZ
        split
        · exact join_zero A
        · rfl
      rw [← h]
    obtain ⟨vJ, rJ, eJ, hJvars, hJrows⟩ := tJ.ex
    injection eJ with eJ
    have eJ2 := Array.mk.inj eJ
    simp only [List.cons.injEq, and_true] at eJ2
    obtain ⟨rfl, rfl⟩ := eJ2
    clear eJ
    have cP := fun V (h : Below wz.heap.size wz V) => project_any 1048576 (by omega) V (hEz.out V h) _ _ K J.vars (tK.stay h) (TextsA.below hJvars h) (by omega) (by omega) (by omega) (by omega)
    rw [hPj] at cP
    have cS1 := fun V (h : Below wz.heap.size wz V) u (hu : TabA V 1048576 u (projT K J.vars)) => sameT_any 1048576 (by omega) V (hEz.out V h) _ u J (projT K J.vars) (tJ.stay h) hu (by omega) (by omega) (by show J.vars.length ≤ 1048576; omega) (by omega) hkJ hkP
    rw [hcomm] at cS1
    have cU := fun V (h : Below wz.heap.size wz V) => join_any 1048576 (by omega) V (hEz.out V h) _ _ A unitT (hTz.stay h).tabA (tU.stay h) (by omega) (by omega) (by simp [unitT]) (by simp [unitT]) (by omega) (by simp [unitT]; omega)
    rw [hJU] at cU
    have cS2 := fun V (h : Below wz.heap.size wz V) u (hu : TabA V 1048576 u A) => sameT_any 1048576 (by omega) V (hEz.out V h) u _ A A hu (hTz.stay h).tabA (by omega) (by omega) (by omega) (by omega) hkA hkA
    rw [same_self hmA] at cS2
    have cV := fun V (h : Below wz.heap.size wz V) => join_any 1048576 (by omega) V (hEz.out V h) _ _ unitT A (tU.stay h) (hTz.stay h).tabA (by simp [unitT]) (by simp [unitT]) (by omega) (by omega) (by omega) (by simp [unitT]; omega)
    rw [hUJ] at cV
    have cZ := fun V (h : Below wz.heap.size wz V) => join_any 1048576 (by omega) V (hEz.out V h) _ _ A zeroT (hTz.stay h).tabA (tZ V) (by omega) (by omega) (by simp [zeroT]) (by simp [zeroT]) (by omega) (by simp [zeroT])
    rw [hJZ] at cZ
    replace cP := Lib.hid cP
    replace cS1 := Lib.hid cS1
    replace cU := Lib.hid cU
    replace cS2 := Lib.hid cS2
    replace cV := Lib.hid cV
    replace cZ := Lib.hid cZ
    have h0 : Below wz.heap.size wz wz := Below.refl _ _
    clear hPj hPj2 hcomm hJU hUJ hJZ tZ tK
    refine wp_region_held_drew (S := fun V => Below wz.heap.size wz V) (by kernel_rfl) (by rw [hwz]; exact Below.refl _ _) (fun hS => ?_)
    rw [hwz]
    rw [hwz] at hS
    obtain ⟨p4, hp4⟩ : ∃ p4, w4.heap.size = p4 := ⟨_, rfl⟩
    rw [hp4] at u2 u3 u4 u5 tU cU cV
    try rw [hp4]
    replace hp4 := Lib.hid hp4
    replace hwz := Lib.hid hwz
    replace hp3 := Lib.hid hp3
    clear hb4 hown4 hsz4 hMR4 h4z h3z h2z q4 qc q5 q3z q3 t3 h3b cK hjB hT2 hE2 hB2
    refine wpAnyH_take (i := 0) (v := ?_) rfl (by kernel_rfl) (by kernel_rfl) (by kernel_rfl) (fun _ _ _ h => h) (.inl ⟨by kernel_rfl, fun w' hS => ?_⟩) hS ?_
    rotate_left
    ·
      have y0 := (stay_of_below hS).cell u0; have y1 := (stay_of_below hS).cell u1; have y2 := (stay_of_below hS).cell u2; have y3 := (stay_of_below hS).cell u3
      go_simp
      try with_reducible rfl
    simp only [List.getElem_toArray, List.getElem_cons_succ, List.getElem_cons_zero, Act.put, List.setIfInBounds_toArray, List.set_cons_zero, List.set_cons_succ]
    refine wpAnyH_take (i := 1) (v := ?_) rfl (by kernel_rfl) (by kernel_rfl) (by kernel_rfl) (fun _ _ _ h => h) (.inl ⟨by kernel_rfl, fun w' hS => ?_⟩) hS ?_
    rotate_left
    ·
      have y0 := (stay_of_below hS).cell u0; have y1 := (stay_of_below hS).cell u1; have y2 := (stay_of_below hS).cell u2; have y3 := (stay_of_below hS).cell u3
      go_simp
      try with_reducible rfl
    simp only [List.getElem_toArray, List.getElem_cons_succ, List.getElem_cons_zero, Act.put, List.setIfInBounds_toArray, List.set_cons_zero, List.set_cons_succ]
    refine wpAnyH_take (i := 2) (v := ?_) rfl (by kernel_rfl) (by kernel_rfl) (by kernel_rfl) (fun _ _ _ h => h) (.inl ⟨by kernel_rfl, fun w' hS => ?_⟩) hS ?_
    rotate_left
    ·
      have y0 := (stay_of_below hS).cell u0; have y1 := (stay_of_below hS).cell u1; have y2 := (stay_of_below hS).cell u2; have y3 := (stay_of_below hS).cell u3
      go_simp
      try with_reducible rfl
    simp only [List.getElem_toArray, List.getElem_cons_succ, List.getElem_cons_zero, Act.put, List.setIfInBounds_toArray, List.set_cons_zero, List.set_cons_succ]
    refine wpAnyH_take (i := 3) (v := ?_) rfl (by kernel_rfl) (by kernel_rfl) (by kernel_rfl) (fun _ _ _ h => h) (.inl ⟨by kernel_rfl, fun w' hS => ?_⟩) hS ?_
    rotate_left
    ·
      have y0 := (stay_of_below hS).cell u0; have y1 := (stay_of_below hS).cell u1; have y2 := (stay_of_below hS).cell u2; have y3 := (stay_of_below hS).cell u3
      go_simp
      try with_reducible rfl
    simp only [List.getElem_toArray, List.getElem_cons_succ, List.getElem_cons_zero, Act.put, List.setIfInBounds_toArray, List.set_cons_zero, List.set_cons_succ]
    refine wpAnyH_ready (rs := [4]) (by kernel_rfl) (by simp) ?_
    refine AllReadyH.cons rfl (fun K hK => ?_) AllReadyH.nil
    clear hS
    go_simp
    refine (cP.out _ h0).mono ?_
    rintro e w5 ⟨v, rfl, hO⟩
    obtain ⟨vv, rv, rfl, hbw5, hown, hszs, hMR⟩ := hO
    obtain ⟨anw5, cnw5, hvn⟩ := own_form4x hown
    obtain ⟨arw5, crw5, hvr⟩ := hMR.form
    subst hvn
    subst hvr
    have tw5 : TabA w5 1048576 _ _ := ⟨_, _, rfl, ⟨own_row (by rw [textsV_length]; exact hown), hszs⟩, hMR.read⟩
    clear hown hszs hMR
    go_wp2_with fail
    refine hK.out _ _ (h0.trans (hbw5.mono h0.size)) (fun hS => ?_)
    clear hK K
    try simp only [List.getElem_toArray, List.getElem_cons_succ, List.getElem_cons_zero, Act.put, List.setIfInBounds_toArray, List.set_cons_zero, List.set_cons_succ]
    have h5 := h0.trans (hbw5.mono h0.size)
    have cc1 := Lib.hid (cS1.out _ h5 _ tw5)
    clear tw5 cP cS1
    refine wpAnyH_ready (rs := [5]) (by kernel_rfl) (by simp) ?_
    refine AllReadyH.cons rfl (fun K hK => ?_) AllReadyH.nil
    clear hS
    go_simp
    refine (cc1.out).mono ?_
    rintro e w6 ⟨rfl, hb6⟩
    go_wp2_with fail
    refine hK.out _ _ (h5.trans (hb6.mono h5.size)) (fun hS => ?_)
    clear hK K
    try simp only [List.getElem_toArray, List.getElem_cons_succ, List.getElem_cons_zero, Act.put, List.setIfInBounds_toArray, List.set_cons_zero, List.set_cons_succ]
    have h6 := h5.trans (hb6.mono h5.size)
    clear h5 hb6 hbw5 cc1
    refine wpAnyH_take (i := 6) (v := ?_) rfl (by kernel_rfl) (by kernel_rfl) (by kernel_rfl) (fun _ _ _ h => h) (.inl ⟨by kernel_rfl, fun w' hS => ?_⟩) hS ?_
    rotate_left
    ·
      have y0 := (stay_of_below hS).cell x0; have y1 := (stay_of_below hS).cell x1; have y4 := (stay_of_below hS).cell u4; have y5 := (stay_of_below hS).cell u5
      go_simp
      try with_reducible rfl
    simp only [List.getElem_toArray, List.getElem_cons_succ, List.getElem_cons_zero, Act.put, List.setIfInBounds_toArray, List.set_cons_zero, List.set_cons_succ]
    refine wpAnyH_take (i := 7) (v := ?_) rfl (by kernel_rfl) (by kernel_rfl) (by kernel_rfl) (fun _ _ _ h => h) (.inl ⟨by kernel_rfl, fun w' hS => ?_⟩) hS ?_
    rotate_left
    ·
      have y0 := (stay_of_below hS).cell x0; have y1 := (stay_of_below hS).cell x1; have y4 := (stay_of_below hS).cell u4; have y5 := (stay_of_below hS).cell u5
      go_simp
      try with_reducible rfl
    simp only [List.getElem_toArray, List.getElem_cons_succ, List.getElem_cons_zero, Act.put, List.setIfInBounds_toArray, List.set_cons_zero, List.set_cons_succ]
    refine wpAnyH_take (i := 8) (v := ?_) rfl (by kernel_rfl) (by kernel_rfl) (by kernel_rfl) (fun _ _ _ h => h) (.inl ⟨by kernel_rfl, fun w' hS => ?_⟩) hS ?_
    rotate_left
    ·
      have y0 := (stay_of_below hS).cell x0; have y1 := (stay_of_below hS).cell x1; have y4 := (stay_of_below hS).cell u4; have y5 := (stay_of_below hS).cell u5
      go_simp
      try with_reducible rfl
    simp only [List.getElem_toArray, List.getElem_cons_succ, List.getElem_cons_zero, Act.put, List.setIfInBounds_toArray, List.set_cons_zero, List.set_cons_succ]
    refine wpAnyH_take (i := 9) (v := ?_) rfl (by kernel_rfl) (by kernel_rfl) (by kernel_rfl) (fun _ _ _ h => h) (.inl ⟨by kernel_rfl, fun w' hS => ?_⟩) hS ?_
    rotate_left
    ·
      have y0 := (stay_of_below hS).cell x0; have y1 := (stay_of_below hS).cell x1; have y4 := (stay_of_below hS).cell u4; have y5 := (stay_of_below hS).cell u5
      go_simp
      try with_reducible rfl
    simp only [List.getElem_toArray, List.getElem_cons_succ, List.getElem_cons_zero, Act.put, List.setIfInBounds_toArray, List.set_cons_zero, List.set_cons_succ]
    refine wpAnyH_take (i := 10) (v := ?_) rfl (by kernel_rfl) (by kernel_rfl) (by kernel_rfl) (fun _ _ _ h => h) (.inl ⟨by kernel_rfl, fun w' hS => ?_⟩) hS ?_
    rotate_left
    ·
      have y0 := (stay_of_below hS).cell x0; have y1 := (stay_of_below hS).cell x1; have y4 := (stay_of_below hS).cell u4; have y5 := (stay_of_below hS).cell u5
      go_simp
      try with_reducible rfl
    simp only [List.getElem_toArray, List.getElem_cons_succ, List.getElem_cons_zero, Act.put, List.setIfInBounds_toArray, List.set_cons_zero, List.set_cons_succ]
    refine wpAnyH_take (i := 12) (v := ?_) rfl (by kernel_rfl) (by kernel_rfl) (by kernel_rfl) (fun _ _ _ h => h) (.inl ⟨by kernel_rfl, fun w' hS => ?_⟩) hS ?_
    rotate_left
    ·
      have y0 := (stay_of_below hS).cell x0; have y1 := (stay_of_below hS).cell x1; have y4 := (stay_of_below hS).cell u4; have y5 := (stay_of_below hS).cell u5
      go_simp
      try with_reducible rfl
    simp only [List.getElem_toArray, List.getElem_cons_succ, List.getElem_cons_zero, Act.put, List.setIfInBounds_toArray, List.set_cons_zero, List.set_cons_succ]
    refine wpAnyH_take (i := 13) (v := ?_) rfl (by kernel_rfl) (by kernel_rfl) (by kernel_rfl) (fun _ _ _ h => h) (.inl ⟨by kernel_rfl, fun w' hS => ?_⟩) hS ?_
    rotate_left
    ·
      have y0 := (stay_of_below hS).cell x0; have y1 := (stay_of_below hS).cell x1; have y4 := (stay_of_below hS).cell u4; have y5 := (stay_of_below hS).cell u5
      go_simp
      try with_reducible rfl
    simp only [List.getElem_toArray, List.getElem_cons_succ, List.getElem_cons_zero, Act.put, List.setIfInBounds_toArray, List.set_cons_zero, List.set_cons_succ]
    refine wpAnyH_ready (rs := [11]) (by kernel_rfl) (by simp) ?_
    refine AllReadyH.cons rfl (fun K hK => ?_) AllReadyH.nil
    clear hS
    go_simp
    refine (cU.out _ h6).mono ?_
    rintro e w7 ⟨v, rfl, hO⟩
    obtain ⟨vv, rv, rfl, hbw7, hown, hszs, hMR⟩ := hO
    obtain ⟨anw7, cnw7, hvn⟩ := own_form4x hown
    obtain ⟨arw7, crw7, hvr⟩ := hMR.form
    subst hvn
    subst hvr
    have tw7 : TabA w7 1048576 _ _ := ⟨_, _, rfl, ⟨own_row (by rw [textsV_length]; exact hown), hszs⟩, hMR.read⟩
    clear hown hszs hMR
    go_wp2_with fail
    refine hK.out _ _ (h6.trans (hbw7.mono h6.size)) (fun hS => ?_)
    clear hK K
    try simp only [List.getElem_toArray, List.getElem_cons_succ, List.getElem_cons_zero, Act.put, List.setIfInBounds_toArray, List.set_cons_zero, List.set_cons_succ]
    have h7 := h6.trans (hbw7.mono h6.size)
    have cc2 := Lib.hid (cS2.out _ h7 _ tw7)
    clear tw7 cU h6 hbw7
    refine wpAnyH_ready (rs := [14]) (by kernel_rfl) (by simp) ?_
    refine AllReadyH.cons rfl (fun K hK => ?_) AllReadyH.nil
    clear hS
    go_simp
    refine (cc2.out).mono ?_
    rintro e w8 ⟨rfl, hb8⟩
    go_wp2_with fail
    refine hK.out _ _ (h7.trans (hb8.mono h7.size)) (fun hS => ?_)
    clear hK K
    try simp only [List.getElem_toArray, List.getElem_cons_succ, List.getElem_cons_zero, Act.put, List.setIfInBounds_toArray, List.set_cons_zero, List.set_cons_succ]
    have h8 := h7.trans (hb8.mono h7.size)
    clear h7 hb8 cc2
    refine wpAnyH_take (i := 15) (v := ?_) rfl (by kernel_rfl) (by kernel_rfl) (by kernel_rfl) (fun _ _ _ h => h) (.inl ⟨by kernel_rfl, fun w' hS => ?_⟩) hS ?_
    rotate_left
    ·
      have y0 := (stay_of_below hS).cell x0; have y1 := (stay_of_below hS).cell x1; have y4 := (stay_of_below hS).cell u4; have y5 := (stay_of_below hS).cell u5
      go_simp
      try with_reducible rfl
    simp only [List.getElem_toArray, List.getElem_cons_succ, List.getElem_cons_zero, Act.put, List.setIfInBounds_toArray, List.set_cons_zero, List.set_cons_succ]
    refine wpAnyH_take (i := 16) (v := ?_) rfl (by kernel_rfl) (by kernel_rfl) (by kernel_rfl) (fun _ _ _ h => h) (.inl ⟨by kernel_rfl, fun w' hS => ?_⟩) hS ?_
    rotate_left
    ·
      have y0 := (stay_of_below hS).cell x0; have y1 := (stay_of_below hS).cell x1; have y4 := (stay_of_below hS).cell u4; have y5 := (stay_of_below hS).cell u5
      go_simp
      try with_reducible rfl
    simp only [List.getElem_toArray, List.getElem_cons_succ, List.getElem_cons_zero, Act.put, List.setIfInBounds_toArray, List.set_cons_zero, List.set_cons_succ]
    refine wpAnyH_take (i := 17) (v := ?_) rfl (by kernel_rfl) (by kernel_rfl) (by kernel_rfl) (fun _ _ _ h => h) (.inl ⟨by kernel_rfl, fun w' hS => ?_⟩) hS ?_
    rotate_left
    ·
      have y0 := (stay_of_below hS).cell x0; have y1 := (stay_of_below hS).cell x1; have y4 := (stay_of_below hS).cell u4; have y5 := (stay_of_below hS).cell u5
      go_simp
      try with_reducible rfl
    simp only [List.getElem_toArray, List.getElem_cons_succ, List.getElem_cons_zero, Act.put, List.setIfInBounds_toArray, List.set_cons_zero, List.set_cons_succ]
    refine wpAnyH_take (i := 18) (v := ?_) rfl (by kernel_rfl) (by kernel_rfl) (by kernel_rfl) (fun _ _ _ h => h) (.inl ⟨by kernel_rfl, fun w' hS => ?_⟩) hS ?_
    rotate_left
    ·
      have y0 := (stay_of_below hS).cell x0; have y1 := (stay_of_below hS).cell x1; have y4 := (stay_of_below hS).cell u4; have y5 := (stay_of_below hS).cell u5
      go_simp
      try with_reducible rfl
    simp only [List.getElem_toArray, List.getElem_cons_succ, List.getElem_cons_zero, Act.put, List.setIfInBounds_toArray, List.set_cons_zero, List.set_cons_succ]
    refine wpAnyH_take (i := 19) (v := ?_) rfl (by kernel_rfl) (by kernel_rfl) (by kernel_rfl) (fun _ _ _ h => h) (.inl ⟨by kernel_rfl, fun w' hS => ?_⟩) hS ?_
    rotate_left
    ·
      have y0 := (stay_of_below hS).cell x0; have y1 := (stay_of_below hS).cell x1; have y4 := (stay_of_below hS).cell u4; have y5 := (stay_of_below hS).cell u5
      go_simp
      try with_reducible rfl
    simp only [List.getElem_toArray, List.getElem_cons_succ, List.getElem_cons_zero, Act.put, List.setIfInBounds_toArray, List.set_cons_zero, List.set_cons_succ]
    refine wpAnyH_take (i := 20) (v := ?_) rfl (by kernel_rfl) (by kernel_rfl) (by kernel_rfl) (fun _ _ _ h => h) (.inl ⟨by kernel_rfl, fun w' hS => ?_⟩) hS ?_
    rotate_left
    ·
      have y0 := (stay_of_below hS).cell x0; have y1 := (stay_of_below hS).cell x1; have y4 := (stay_of_below hS).cell u4; have y5 := (stay_of_below hS).cell u5
      go_simp
      try with_reducible rfl
    simp only [List.getElem_toArray, List.getElem_cons_succ, List.getElem_cons_zero, Act.put, List.setIfInBounds_toArray, List.set_cons_zero, List.set_cons_succ]
    refine wpAnyH_take (i := 22) (v := ?_) rfl (by kernel_rfl) (by kernel_rfl) (by kernel_rfl) (fun _ _ _ h => h) (.inl ⟨by kernel_rfl, fun w' hS => ?_⟩) hS ?_
    rotate_left
    ·
      have y0 := (stay_of_below hS).cell x0; have y1 := (stay_of_below hS).cell x1; have y4 := (stay_of_below hS).cell u4; have y5 := (stay_of_below hS).cell u5
      go_simp
      try with_reducible rfl
    simp only [List.getElem_toArray, List.getElem_cons_succ, List.getElem_cons_zero, Act.put, List.setIfInBounds_toArray, List.set_cons_zero, List.set_cons_succ]
    refine wpAnyH_take (i := 23) (v := ?_) rfl (by kernel_rfl) (by kernel_rfl) (by kernel_rfl) (fun _ _ _ h => h) (.inl ⟨by kernel_rfl, fun w' hS => ?_⟩) hS ?_
    rotate_left
    ·
      have y0 := (stay_of_below hS).cell x0; have y1 := (stay_of_below hS).cell x1; have y4 := (stay_of_below hS).cell u4; have y5 := (stay_of_below hS).cell u5
      go_simp
      try with_reducible rfl
    simp only [List.getElem_toArray, List.getElem_cons_succ, List.getElem_cons_zero, Act.put, List.setIfInBounds_toArray, List.set_cons_zero, List.set_cons_succ]
    refine wpAnyH_ready (rs := [21]) (by kernel_rfl) (by simp) ?_
    refine AllReadyH.cons rfl (fun K hK => ?_) AllReadyH.nil
    clear hS
    go_simp
    refine (cV.out _ h8).mono ?_
    rintro e w9 ⟨v, rfl, hO⟩
    obtain ⟨vv, rv, rfl, hbw9, hown, hszs, hMR⟩ := hO
    obtain ⟨anw9, cnw9, hvn⟩ := own_form4x hown
    obtain ⟨arw9, crw9, hvr⟩ := hMR.form
    subst hvn
    subst hvr
    have tw9 : TabA w9 1048576 _ _ := ⟨_, _, rfl, ⟨own_row (by rw [textsV_length]; exact hown), hszs⟩, hMR.read⟩
    clear hown hszs hMR
    go_wp2_with fail
    refine hK.out _ _ (h8.trans (hbw9.mono h8.size)) (fun hS => ?_)
    clear hK K
    try simp only [List.getElem_toArray, List.getElem_cons_succ, List.getElem_cons_zero, Act.put, List.setIfInBounds_toArray, List.set_cons_zero, List.set_cons_succ]
    have h9 := h8.trans (hbw9.mono h8.size)
    have cc3 := Lib.hid (cS2.out _ h9 _ tw9)
    clear tw9 cV h8 hbw9 cS2
    refine wpAnyH_ready (rs := [24]) (by kernel_rfl) (by simp) ?_
    refine AllReadyH.cons rfl (fun K hK => ?_) AllReadyH.nil
    clear hS
    go_simp
    refine (cc3.out).mono ?_
    rintro e w10 ⟨rfl, hb10⟩
    go_wp2_with fail
    refine hK.out _ _ (h9.trans (hb10.mono h9.size)) (fun hS => ?_)
    clear hK K
    try simp only [List.getElem_toArray, List.getElem_cons_succ, List.getElem_cons_zero, Act.put, List.setIfInBounds_toArray, List.set_cons_zero, List.set_cons_succ]
    have h10 := h9.trans (hb10.mono h9.size)
    clear h9 hb10 cc3
    refine wpAnyH_take (i := 25) (v := ?_) rfl (by kernel_rfl) (by kernel_rfl) (by kernel_rfl) (fun _ _ _ h => h) (.inl ⟨by kernel_rfl, fun w' hS => ?_⟩) hS ?_
    rotate_left
    ·
      have y0 := (stay_of_below hS).cell x0; have y1 := (stay_of_below hS).cell x1
      go_simp
      try with_reducible rfl
    simp only [List.getElem_toArray, List.getElem_cons_succ, List.getElem_cons_zero, Act.put, List.setIfInBounds_toArray, List.set_cons_zero, List.set_cons_succ]
    refine wpAnyH_take (i := 26) (v := ?_) rfl (by kernel_rfl) (by kernel_rfl) (by kernel_rfl) (fun _ _ _ h => h) (.inl ⟨by kernel_rfl, fun w' hS => ?_⟩) hS ?_
    rotate_left
    ·
      have y0 := (stay_of_below hS).cell x0; have y1 := (stay_of_below hS).cell x1
      go_simp
      try with_reducible rfl
    simp only [List.getElem_toArray, List.getElem_cons_succ, List.getElem_cons_zero, Act.put, List.setIfInBounds_toArray, List.set_cons_zero, List.set_cons_succ]
    refine wpAnyH_take (i := 27) (v := ?_) rfl (by kernel_rfl) (by kernel_rfl) (by kernel_rfl) (fun _ _ _ h => h) (.inl ⟨by kernel_rfl, fun w' hS => ?_⟩) hS ?_
    rotate_left
    ·
      have y0 := (stay_of_below hS).cell x0; have y1 := (stay_of_below hS).cell x1
      go_simp
      try with_reducible rfl
    simp only [List.getElem_toArray, List.getElem_cons_succ, List.getElem_cons_zero, Act.put, List.setIfInBounds_toArray, List.set_cons_zero, List.set_cons_succ]
    refine wpAnyH_take (i := 28) (v := ?_) rfl (by kernel_rfl) (by kernel_rfl) (by kernel_rfl) (fun _ _ _ h => h) (.inl ⟨by kernel_rfl, fun w' hS => ?_⟩) hS ?_
    rotate_left
    ·
      have y0 := (stay_of_below hS).cell x0; have y1 := (stay_of_below hS).cell x1
      go_simp
      try with_reducible rfl
    simp only [List.getElem_toArray, List.getElem_cons_succ, List.getElem_cons_zero, Act.put, List.setIfInBounds_toArray, List.set_cons_zero, List.set_cons_succ]
    refine wpAnyH_take (i := 29) (v := ?_) rfl (by kernel_rfl) (by kernel_rfl) (by kernel_rfl) (fun _ _ _ h => h) (.inl ⟨by kernel_rfl, fun w' hS => ?_⟩) hS ?_
    rotate_left
    ·
      have y0 := (stay_of_below hS).cell x0; have y1 := (stay_of_below hS).cell x1
      go_simp
      try with_reducible rfl
    simp only [List.getElem_toArray, List.getElem_cons_succ, List.getElem_cons_zero, Act.put, List.setIfInBounds_toArray, List.set_cons_zero, List.set_cons_succ]
    refine wpAnyH_take (i := 30) (v := ?_) rfl (by kernel_rfl) (by kernel_rfl) (by kernel_rfl) (fun _ _ _ h => h) (.inl ⟨by kernel_rfl, fun w' hS => ?_⟩) hS ?_
    rotate_left
    ·
      have y0 := (stay_of_below hS).cell x0; have y1 := (stay_of_below hS).cell x1
      go_simp
      try with_reducible rfl
    simp only [List.getElem_toArray, List.getElem_cons_succ, List.getElem_cons_zero, Act.put, List.setIfInBounds_toArray, List.set_cons_zero, List.set_cons_succ]
    refine wpAnyH_ready (rs := [31]) (by kernel_rfl) (by simp) ?_
    refine AllReadyH.cons rfl (fun K hK => ?_) AllReadyH.nil
    clear hS
    go_simp
    refine (cZ.out _ h10).mono ?_
    rintro e w11 ⟨v, rfl, hO⟩
    obtain ⟨vv, rv, rfl, hb11, hown, hszs, hMR⟩ := hO
    obtain ⟨an11, cn11, hvn⟩ := own_form4x hown
    obtain ⟨ar11, cr11, hvr⟩ := hMR.form
    have hvr2 : rv = .slice ar11 0 cr11 := hvr
    subst hvn
    subst hvr2
    clear hown hszs hMR hvr cZ
    go_wp2_with fail
    refine hK.out _ _ (h10.trans (hb11.mono h10.size)) (fun hS => ?_)
    clear hK K
    try simp only [List.getElem_toArray, List.getElem_cons_succ, List.getElem_cons_zero, Act.put, List.setIfInBounds_toArray, List.set_cons_zero, List.set_cons_succ]
    have h11 := h10.trans (hb11.mono h10.size)
    clear h10 hb11
    refine wpAnyH_take (i := 32) (v := ?_) rfl (by kernel_rfl) (by kernel_rfl) (by kernel_rfl) (fun _ _ _ h => h) (.inl ⟨by kernel_rfl, fun w' hS => ?_⟩) hS ?_
    rotate_left
    ·
      have hfl := field_rows
      go_simp
      try with_reducible rfl
    simp only [List.getElem_toArray, List.getElem_cons_succ, List.getElem_cons_zero, Act.put, List.setIfInBounds_toArray, List.set_cons_zero, List.set_cons_succ]
    refine wpAnyH_take (i := 33) (v := ?_) rfl (by kernel_rfl) (by kernel_rfl) (by kernel_rfl) (fun _ _ _ h => h) (.inl ⟨by kernel_rfl, fun w' hS => ?_⟩) hS ?_
    rotate_left
    ·
      have hfl := field_rows
      go_simp
      try with_reducible rfl
    simp only [List.getElem_toArray, List.getElem_cons_succ, List.getElem_cons_zero, Act.put, List.setIfInBounds_toArray, List.set_cons_zero, List.set_cons_succ]
    refine wpAnyH_take (i := 34) (v := ?_) rfl (by kernel_rfl) (by kernel_rfl) (by kernel_rfl) (fun _ _ _ h => h) (.inl ⟨by kernel_rfl, fun w' hS => ?_⟩) hS ?_
    rotate_left
    ·
      have hfl := field_rows
      go_simp
      try with_reducible rfl
    simp only [List.getElem_toArray, List.getElem_cons_succ, List.getElem_cons_zero, Act.put, List.setIfInBounds_toArray, List.set_cons_zero, List.set_cons_succ]
    refine wpAnyH_take (i := 35) (v := ?_) rfl (by kernel_rfl) (by kernel_rfl) (by kernel_rfl) (fun _ _ _ h => h) (.inl ⟨by kernel_rfl, fun w' hS => ?_⟩) hS ?_
    rotate_left
    ·
      have hfl := field_rows
      go_simp
      try with_reducible rfl
    simp only [List.getElem_toArray, List.getElem_cons_succ, List.getElem_cons_zero, Act.put, List.setIfInBounds_toArray, List.set_cons_zero, List.set_cons_succ]
    refine wpAnyH_done (by kernel_rfl) ?_ _
    clear hS
    have hJv : J.vars = B.vars.foldl addN A.vars := by rw [hTj.out]
    have hJrs : J.rows = joinRows A B := by rw [hTj.out]
    have hpack := Lib.hid (nest_pack hJv hJrs)
    have hRA : Hid (∀ j (hj : j < A.rows.length), ∃ b off a c, ar = some ⟨b, off, none⟩ ∧ b < wz.heap.size ∧ wz.cell? ⟨b, off + j, none⟩ = some (.slice a A.rows[j].length c) ∧ LA wz 1048576 (.slice a A.rows[j].length c) A.rows[j]) := Lib.hid (by
      obtain ⟨_, _, e, -, h⟩ := hTz.ar.form
      injection e with e1 _ _
      subst e1
      exact h)
    have hRB : Hid (∀ j (hj : j < B.rows.length), ∃ b off a c, br = some ⟨b, off, none⟩ ∧ b < wz.heap.size ∧ wz.cell? ⟨b, off + j, none⟩ = some (.slice a B.rows[j].length c) ∧ LA wz 1048576 (.slice a B.rows[j].length c) B.rows[j]) := Lib.hid (by
      obtain ⟨_, _, e, -, h⟩ := hTz.br.form
      injection e with e1 _ _
      subst e1
      exact h)
    have hRJ : Hid (∀ j (hj : j < J.rows.length), ∃ b off a c, ar3 = some ⟨b, off, none⟩ ∧ b < wz.heap.size ∧ wz.cell? ⟨b, off + j, none⟩ = some (.slice a J.rows[j].length c) ∧ LA wz 1048576 (.slice a J.rows[j].length c) J.rows[j]) := Lib.hid (by
      obtain ⟨_, _, e, -, h⟩ := hJrows.form
      injection e with e1 _ _
      subst e1
      exact h)
    have hVA : Hid (∀ j (hj : j < A.vars.length), ∃ b off, av = some ⟨b, off, none⟩ ∧ b < wz.heap.size ∧ wz.cell? ⟨b, off + j, none⟩ = some (.string A.vars[j])) := Lib.hid (by
      obtain ⟨_, _, e, h⟩ := hTz.av.form
      injection e with e1 _ _
      subst e1
      exact h)
    have hVB : Hid (∀ j (hj : j < B.vars.length), ∃ b off, bv = some ⟨b, off, none⟩ ∧ b < wz.heap.size ∧ wz.cell? ⟨b, off + j, none⟩ = some (.string B.vars[j])) := Lib.hid (by
      obtain ⟨_, _, e, h⟩ := hTz.bv.form
      injection e with e1 _ _
      subst e1
      exact h)
    have hVJ : Hid (∀ j (hj : j < J.vars.length), ∃ b off, an3 = some ⟨b, off, none⟩ ∧ b < wz.heap.size ∧ wz.cell? ⟨b, off + j, none⟩ = some (.string J.vars[j])) := Lib.hid (by
      obtain ⟨_, _, e, h⟩ := hJvars.form
      injection e with e1 _ _
      subst e1
      exact h)
    have hF := Lib.hid (fun V (h : Below wz.heap.size wz V) (i k : Nat) => fits_any 1048576 (by omega) (by omega) V (hEz.out V h) _ _ A B (hTz.stay h).tabA (hTz.stay h).tabB (by omega) (by omega) (by omega) (by omega) (i : Int) (k : Int))
    have hfz := Lib.hid (fun (i k : Nat) (hi : i < A.rows.length) (hk : k < B.rows.length) => fitsZ_at hmA hmB hi hk)
    have hnle : Hid (∀ i k, i < A.rows.length → k ≤ B.rows.length → (rowsIJ A B i k).length ≤ 100000) := Lib.hid fun i k hi hk => by
      have h1 := rowsIJ_len A B i k hi hk
      have h2 := Nat.mul_le_mul (show i ≤ 60 by omega) (show B.rows.length ≤ 60 from h60b)
      omega
    have hrlA := Lib.hid (fun (i : Nat) (hi : i < A.rows.length) => rowL_of (hrA _ (List.getElem_mem hi)))
    have hrlB := Lib.hid (fun (i : Nat) (hi : i < B.rows.length) => rowL_of (hrB _ (List.getElem_mem hi)))
    have hz0 := Lib.hid (rowsIJ_zero A B)
    have hC : Hid (∀ V, Below wz.heap.size wz V → (V.cell? ⟨w.heap.size, 0, none⟩ = some (.slice av A.vars.length cv) ∧ V.cell? ⟨w.heap.size, 1, none⟩ = some (.slice ar A.rows.length cr) ∧ V.cell? ⟨w.heap.size, 2, none⟩ = some (.slice bv B.vars.length dv) ∧ V.cell? ⟨w.heap.size, 3, none⟩ = some (.slice br B.rows.length dr)) ∧ V.cell? ⟨p3, 0, none⟩ = some (.slice an3 J.vars.length cn3) ∧ V.cell? ⟨p3, 1, none⟩ = some (.slice ar3 J.rows.length cr3)) := Lib.hid fun V h =>
      ⟨⟨(stay_of_below h).cell x0, (stay_of_below h).cell x1, (stay_of_below h).cell x2, (stay_of_below h).cell x3⟩, (stay_of_below h).cell u0, (stay_of_below h).cell u1⟩
    have hJr2 := Lib.hid hJrs
    have h11h := Lib.hid h11
    have hvl1 : A.vars.length ≤ 1048576 := by omega
    have hvl2 : B.vars.length ≤ 1048576 := by omega
    clear hnA hnB hrA hrB hperm hJw hTj hTz hJvars hJrows hkJ hkP hkA hPl hJv hJrs x0 x1 x2 x3 x4 x5 x6 u0 u1 u2 u3 u4 u5 tJ tU h0 h11 hm hmA hmB hJm hKm hfab hfba hrl hKr hT hE h9001 h9002 q3h hp4 hp3 hwz
    go_wp2
    go_loopw [6, 7] (fun n i wr => ∃ k : Nat, k ≤ A.rows.length ∧ i = .int .i64 (k : Int) ∧ n = .int .i64 ((rowsIJ A B k 0).length : Nat) ∧ Hid (Below wz.heap.size wz wr)) (fun _ i _ => A.rows.length - (intOf i).toNat)
    case atStart => exact ⟨0, Nat.zero_le _, rfl, by rw [hz0.out]; rfl, h11h⟩
    case round =>
      clear h11h hz0
      obtain ⟨i, hi, rfl, rfl, hb⟩ := hrel
      obtain ⟨w12, rfl⟩ : ∃ w12 : World, w12 = wr := ⟨_, rfl⟩
      obtain ⟨⟨x0, x1, x2, x3⟩, u0, u1⟩ := hC.out _ hb.out
      by_cases hlt : i < A.rows.length
      · have hki : (i : Int) < (A.rows.length : Int) := by omega
        have hi1 := Lib.hid (show i + 1 ≤ A.rows.length from hlt)
        have hnext := Lib.hid (rowsIJ_next A B hlt)
        clear x0 x2 x3 u0 u1
        go_wp2
        go_loopw [6, 8] (fun n j wr => ∃ k : Nat, k ≤ B.rows.length ∧ j = .int .i64 (k : Int) ∧ n = .int .i64 ((rowsIJ A B i k).length : Nat) ∧ Hid (Below wz.heap.size wz wr)) (fun _ j _ => B.rows.length - (intOf j).toNat)
        case atStart => exact ⟨0, Nat.zero_le _, rfl, rfl, hb⟩
        case round =>
          clear hb x1
          obtain ⟨k, hk, rfl, rfl, hb⟩ := hrel
          obtain ⟨w13, rfl⟩ : ∃ w13 : World, w13 = wr := ⟨_, rfl⟩
          obtain ⟨⟨x0, x1, x2, x3⟩, u0, u1⟩ := hC.out _ hb.out
          by_cases hlk : k < B.rows.length
          · have hkk : (k : Int) < (B.rows.length : Int) := by omega
            have hk1 := Lib.hid (show k + 1 ≤ B.rows.length from hlk)
            have cF := hF.out _ hb.out i k
            rw [hfz.out i k hlt hlk] at cF
            have hno := Lib.hid (rowsIJ_no A B hlt hlk)
            have hyes := Lib.hid (rowsIJ_yes A B hlt hlk)
            have hpk := Lib.hid (hpack.out i k hlt hlk)
            have hnl := hnle.out i k hlt hk
            have hl1 := hrlA.out i hlt
            have hl2 := hrlB.out k hlk
            obtain ⟨b1, o1, a1, c1, rfl, -, hc1, hla1⟩ := hRA.out i hlt
            obtain ⟨b2, o2, a2, c2, rfl, -, hc2, hla2⟩ := hRB.out k hlk
            replace cF := Lib.hid cF
            replace hl1 := Lib.hid hl1
            replace hl2 := Lib.hid hl2
            replace hla1 := Lib.hid hla1
            replace hla2 := Lib.hid hla2
            replace hc1 := Lib.hid hc1
            replace hc2 := Lib.hid hc2
            generalize A.rows[i] = r at *
            generalize B.rows[k] = s at *
            go_wp2_with fail
            refine cF.out.mono ?_
            rintro e w14 ⟨rfl, hb14⟩
            have hb2 := hb.out.trans (hb14.mono hb.out.size)
            clear hb hb14 cF x0 x1 x2 x3 u0 u1
            obtain ⟨⟨x0, x1, x2, x3⟩, u0, u1⟩ := hC.out _ hb2
            replace hb2 := Lib.hid hb2
            cases hc : compat A.vars B.vars r s with
            | false =>
              have he := hno.out hc
              replace hc := Lib.hid hc
              replace he := Lib.hid he
              clear x0 x1 x2 x3 u0 u1 hyes hpk hno
              go_wp2
              go_roundw
              case rel => exact ⟨k + 1, hk1.out, by go_num, by rw [he.out], hb2⟩
              case measure => have := hk1.out; simp [intOf]; omega
            | true =>
              obtain ⟨hn, hxl, hxv⟩ := hpk.out hc
              have he := hyes.out hc
              have hel : (rowsIJ A B i (k + 1)).length = (rowsIJ A B i k).length + 1 := by rw [he]; simp
              obtain ⟨b3, o3, a3, c3, rfl, -, hc3, hla3⟩ := hRJ.out _ hn
              replace hc := Lib.hid hc
              replace hel := Lib.hid hel
              generalize J.rows[(rowsIJ A B i k).length] = x at *
              obtain ⟨n, hnn⟩ : ∃ n, (rowsIJ A B i k).length = n := ⟨_, rfl⟩
              rw [hnn] at hn hel hnl hc3 ⊢
              have hni : ¬ ((J.rows.length : Int) ≤ (n : Int)) := by omega
              have hnN : ¬ (J.rows.length ≤ n) := by omega
              have hni2 : (n : Int) < (J.rows.length : Int) := by omega
              replace hnn := Lib.hid hnn
              replace hxl := Lib.hid hxl
              replace hxv := Lib.hid hxv
              replace hla3 := Lib.hid hla3
              replace hc3 := Lib.hid hc3
              clear he hyes hno hpk
              go_wp2
              go_loopw [9] (fun v wr => ∃ m : Nat, m ≤ J.vars.length ∧ v = .int .i64 (m : Int) ∧ Hid (Below wz.heap.size wz wr)) (fun v _ => J.vars.length - (intOf v).toNat)
              case atStart => exact ⟨0, Nat.zero_le _, rfl, hb2⟩
              case round =>
                as_aux_lemma =>
                  clear hb2 x0 x1 x2 x3 u0 u1
                  obtain ⟨m, hm, rfl, hb⟩ := hrel
                  obtain ⟨w15, rfl⟩ : ∃ w15 : World, w15 = wr := ⟨_, rfl⟩
                  obtain ⟨⟨x0, x1, x2, x3⟩, u0, u1⟩ := hC.out _ hb.out
                  by_cases hlm : m < J.vars.length
                  · have hmi : (m : Int) < (J.vars.length : Int) := by omega
                    have hm1 := Lib.hid (show m + 1 ≤ J.vars.length from hlm)
                    have hmx : m < x.length := by rw [hxl.out]; exact hlm
                    have hmxi : (m : Int) < (x.length : Int) := by omega
                    obtain ⟨gs, os, rfl, -, hcs⟩ := hVJ.out m hlm
                    have hxm0 := hxv.out m hlm hmx
                    obtain ⟨nm, hnm⟩ : ∃ nm, J.vars[m]'hlm = nm := ⟨_, rfl⟩
                    rw [hnm] at hcs hxm0
                    obtain ⟨g6, o6, k6, bo6, n6, t6, x6, l6, aoE, capE, e6, he6, hr6, hok6, hsl6⟩ := la_at hla3.out m hmx
                    subst e6
                    have hxm : Hid (V.mk k6 bo6 n6 t6 x6 l6 = orN (cellF A.vars r nm) (cellF B.vars s nm)) := Lib.hid (he6.symm.trans hxm0)
                    have hnA : Hid (isN (cellF A.vars r nm) = false → orN (cellF A.vars r nm) (cellF B.vars s nm) = cellF A.vars r nm) := Lib.hid fun h => nest_a h
                    have hnB : Hid (isN (cellF B.vars s nm) = false → orN (cellF A.vars r nm) (cellF B.vars s nm) = cellF B.vars s nm) := Lib.hid fun h => nest_b hl1.out hc.out (by
                      refine Classical.byContradiction fun hb => ?_
                      rw [cell_out hl2.out hb] at h
                      cases h) h
                    obtain ⟨xi, hxi⟩ : ∃ xi, idxI A.vars nm = xi := ⟨_, rfl⟩
                    obtain ⟨yi, hyi⟩ : ∃ yi, idxI B.vars nm = yi := ⟨_, rfl⟩
                    have cIA := fun V (h : Below wz.heap.size wz V) => rindex_any V av cv A.vars nm hvl1 (fun j hj => by
                      obtain ⟨b, off, h1, h2, h3⟩ := hVA.out j hj
                      exact ⟨b, off, h1, Nat.lt_of_lt_of_le h2 h.size, (stay_of_below h).cell h3⟩)
                    have cIB := fun V (h : Below wz.heap.size wz V) => rindex_any V bv dv B.vars nm hvl2 (fun j hj => by
                      obtain ⟨b, off, h1, h2, h3⟩ := hVB.out j hj
                      exact ⟨b, off, h1, Nat.lt_of_lt_of_le h2 h.size, (stay_of_below h).cell h3⟩)
                    rw [hxi] at cIA
                    rw [hyi] at cIB
                    replace cIA := Lib.hid cIA
                    replace cIB := Lib.hid cIB
                    replace hxi := Lib.hid hxi
                    replace hyi := Lib.hid hyi
                    replace hnm := Lib.hid hnm
                    replace hsl6 := Lib.hid hsl6
                    have hcs2 := Lib.hid hcs
                    have hbd : Below wz.heap.size wz w15.drew := hb.out.trans ((below_drewN (Below.refl w15.heap.size w15) 1 : Below w15.heap.size w15 w15.drew).mono hb.out.size)
                    clear hxm0 he6 hok6 hb hcs
                    go_upto_region 21 with fail
                    clear x0 x1 x2 x3 u0 u1
                    refine wp_region_held_drew (S := fun V => Below wz.heap.size wz V) (by kernel_rfl) hbd (fun hS => ?_)
                    generalize w15.drew = V1 at *
                    refine wpAnyH_take (i := 0) (v := ?_) rfl (by kernel_rfl) (by kernel_rfl) (by kernel_rfl) (fun _ _ _ h => h) (.inl ⟨by kernel_rfl, fun w' hS => ?_⟩) hS ?_
                    rotate_left
                    ·
                      obtain ⟨⟨y0, y1, y2, y3⟩, v0, v1⟩ := hC.out _ hS; have y4 := (stay_of_below hS).cell hcs2.out
                      go_simp
                      try with_reducible rfl
                    simp only [List.getElem_toArray, List.getElem_cons_succ, List.getElem_cons_zero, Act.put, List.setIfInBounds_toArray, List.set_cons_zero, List.set_cons_succ]
                    refine wpAnyH_take (i := 1) (v := ?_) rfl (by kernel_rfl) (by kernel_rfl) (by kernel_rfl) (fun _ _ _ h => h) (.inl ⟨by kernel_rfl, fun w' hS => ?_⟩) hS ?_
                    rotate_left
                    ·
                      obtain ⟨⟨y0, y1, y2, y3⟩, v0, v1⟩ := hC.out _ hS; have y4 := (stay_of_below hS).cell hcs2.out
                      go_simp
                      try with_reducible rfl
                    simp only [List.getElem_toArray, List.getElem_cons_succ, List.getElem_cons_zero, Act.put, List.setIfInBounds_toArray, List.set_cons_zero, List.set_cons_succ]
                    refine wpAnyH_take (i := 2) (v := ?_) rfl (by kernel_rfl) (by kernel_rfl) (by kernel_rfl) (fun _ _ _ h => h) (.inl ⟨by kernel_rfl, fun w' hS => ?_⟩) hS ?_
                    rotate_left
                    ·
                      obtain ⟨⟨y0, y1, y2, y3⟩, v0, v1⟩ := hC.out _ hS; have y4 := (stay_of_below hS).cell hcs2.out
                      go_simp
                      try with_reducible rfl
                    simp only [List.getElem_toArray, List.getElem_cons_succ, List.getElem_cons_zero, Act.put, List.setIfInBounds_toArray, List.set_cons_zero, List.set_cons_succ]
                    refine wpAnyH_take (i := 3) (v := ?_) rfl (by kernel_rfl) (by kernel_rfl) (by kernel_rfl) (fun _ _ _ h => h) (.inl ⟨by kernel_rfl, fun w' hS => ?_⟩) hS ?_
                    rotate_left
                    ·
                      obtain ⟨⟨y0, y1, y2, y3⟩, v0, v1⟩ := hC.out _ hS; have y4 := (stay_of_below hS).cell hcs2.out
                      go_simp
                      try with_reducible rfl
                    simp only [List.getElem_toArray, List.getElem_cons_succ, List.getElem_cons_zero, Act.put, List.setIfInBounds_toArray, List.set_cons_zero, List.set_cons_succ]
                    refine wpAnyH_take (i := 4) (v := ?_) rfl (by kernel_rfl) (by kernel_rfl) (by kernel_rfl) (fun _ _ _ h => h) (.inl ⟨by kernel_rfl, fun w' hS => ?_⟩) hS ?_
                    rotate_left
                    ·
                      obtain ⟨⟨y0, y1, y2, y3⟩, v0, v1⟩ := hC.out _ hS; have y4 := (stay_of_below hS).cell hcs2.out
                      go_simp
                      try with_reducible rfl
                    simp only [List.getElem_toArray, List.getElem_cons_succ, List.getElem_cons_zero, Act.put, List.setIfInBounds_toArray, List.set_cons_zero, List.set_cons_succ]
                    refine wpAnyH_take (i := 5) (v := ?_) rfl (by kernel_rfl) (by kernel_rfl) (by kernel_rfl) (fun _ _ _ h => h) (.inl ⟨by kernel_rfl, fun w' hS => ?_⟩) hS ?_
                    rotate_left
                    ·
                      obtain ⟨⟨y0, y1, y2, y3⟩, v0, v1⟩ := hC.out _ hS; have y4 := (stay_of_below hS).cell hcs2.out
                      go_simp
                      try with_reducible rfl
                    simp only [List.getElem_toArray, List.getElem_cons_succ, List.getElem_cons_zero, Act.put, List.setIfInBounds_toArray, List.set_cons_zero, List.set_cons_succ]
                    refine wpAnyH_take (i := 6) (v := ?_) rfl (by kernel_rfl) (by kernel_rfl) (by kernel_rfl) (fun _ _ _ h => h) (.inl ⟨by kernel_rfl, fun w' hS => ?_⟩) hS ?_
                    rotate_left
                    ·
                      obtain ⟨⟨y0, y1, y2, y3⟩, v0, v1⟩ := hC.out _ hS; have y4 := (stay_of_below hS).cell hcs2.out
                      go_simp
                      try with_reducible rfl
                    simp only [List.getElem_toArray, List.getElem_cons_succ, List.getElem_cons_zero, Act.put, List.setIfInBounds_toArray, List.set_cons_zero, List.set_cons_succ]
                    refine wpAnyH_take (i := 7) (v := ?_) rfl (by kernel_rfl) (by kernel_rfl) (by kernel_rfl) (fun _ _ _ h => h) (.inl ⟨by kernel_rfl, fun w' hS => ?_⟩) hS ?_
                    rotate_left
                    ·
                      obtain ⟨⟨y0, y1, y2, y3⟩, v0, v1⟩ := hC.out _ hS; have y4 := (stay_of_below hS).cell hcs2.out
                      go_simp
                      try with_reducible rfl
                    simp only [List.getElem_toArray, List.getElem_cons_succ, List.getElem_cons_zero, Act.put, List.setIfInBounds_toArray, List.set_cons_zero, List.set_cons_succ]
                    refine wpAnyH_ready (rs := [8]) (by kernel_rfl) (by simp) ?_
                    refine AllReadyH.cons rfl (fun K hK => ?_) AllReadyH.nil
                    clear hS
                    go_simp
                    refine (cIA.out _ hbd).mono ?_
                    rintro e w6 ⟨rfl, rfl⟩
                    go_wp2_with fail
                    refine hK.out _ _ (hbd) (fun hS => ?_)
                    clear hK K
                    try simp only [List.getElem_toArray, List.getElem_cons_succ, List.getElem_cons_zero, Act.put, List.setIfInBounds_toArray, List.set_cons_zero, List.set_cons_succ]
                    refine wpAnyH_take (i := 9) (v := ?_) rfl (by kernel_rfl) (by kernel_rfl) (by kernel_rfl) (fun _ _ _ h => h) (.inl ⟨by kernel_rfl, fun w' hS => ?_⟩) hS ?_
                    rotate_left
                    ·
                      skip
                      go_simp
                      try with_reducible rfl
                    simp only [List.getElem_toArray, List.getElem_cons_succ, List.getElem_cons_zero, Act.put, List.setIfInBounds_toArray, List.set_cons_zero, List.set_cons_succ]
                    refine wpAnyH_done (by kernel_rfl) ?_ _
                    clear hS
                    have hbd2 : Below wz.heap.size wz w6.drew := hbd.trans ((below_drewN (Below.refl w6.heap.size w6) 1 : Below w6.heap.size w6 w6.drew).mono hbd.size)
                    clear hbd cIA
                    go_upto_region 22 with fail
                    refine wp_region_held_drew (S := fun V => Below wz.heap.size wz V) (by kernel_rfl) hbd2 (fun hS => ?_)
                    generalize w6.drew = V2 at *
                    refine wpAnyH_take (i := 0) (v := ?_) rfl (by kernel_rfl) (by kernel_rfl) (by kernel_rfl) (fun _ _ _ h => h) (.inl ⟨by kernel_rfl, fun w' hS => ?_⟩) hS ?_
                    rotate_left
                    ·
                      obtain ⟨⟨y0, y1, y2, y3⟩, v0, v1⟩ := hC.out _ hS; have y4 := (stay_of_below hS).cell hcs2.out
                      go_simp
                      try with_reducible rfl
                    simp only [List.getElem_toArray, List.getElem_cons_succ, List.getElem_cons_zero, Act.put, List.setIfInBounds_toArray, List.set_cons_zero, List.set_cons_succ]
                    refine wpAnyH_take (i := 1) (v := ?_) rfl (by kernel_rfl) (by kernel_rfl) (by kernel_rfl) (fun _ _ _ h => h) (.inl ⟨by kernel_rfl, fun w' hS => ?_⟩) hS ?_
                    rotate_left
                    ·
                      obtain ⟨⟨y0, y1, y2, y3⟩, v0, v1⟩ := hC.out _ hS; have y4 := (stay_of_below hS).cell hcs2.out
                      go_simp
                      try with_reducible rfl
                    simp only [List.getElem_toArray, List.getElem_cons_succ, List.getElem_cons_zero, Act.put, List.setIfInBounds_toArray, List.set_cons_zero, List.set_cons_succ]
                    refine wpAnyH_take (i := 2) (v := ?_) rfl (by kernel_rfl) (by kernel_rfl) (by kernel_rfl) (fun _ _ _ h => h) (.inl ⟨by kernel_rfl, fun w' hS => ?_⟩) hS ?_
                    rotate_left
                    ·
                      obtain ⟨⟨y0, y1, y2, y3⟩, v0, v1⟩ := hC.out _ hS; have y4 := (stay_of_below hS).cell hcs2.out
                      go_simp
                      try with_reducible rfl
                    simp only [List.getElem_toArray, List.getElem_cons_succ, List.getElem_cons_zero, Act.put, List.setIfInBounds_toArray, List.set_cons_zero, List.set_cons_succ]
                    refine wpAnyH_take (i := 3) (v := ?_) rfl (by kernel_rfl) (by kernel_rfl) (by kernel_rfl) (fun _ _ _ h => h) (.inl ⟨by kernel_rfl, fun w' hS => ?_⟩) hS ?_
                    rotate_left
                    ·
                      obtain ⟨⟨y0, y1, y2, y3⟩, v0, v1⟩ := hC.out _ hS; have y4 := (stay_of_below hS).cell hcs2.out
                      go_simp
                      try with_reducible rfl
                    simp only [List.getElem_toArray, List.getElem_cons_succ, List.getElem_cons_zero, Act.put, List.setIfInBounds_toArray, List.set_cons_zero, List.set_cons_succ]
                    refine wpAnyH_take (i := 4) (v := ?_) rfl (by kernel_rfl) (by kernel_rfl) (by kernel_rfl) (fun _ _ _ h => h) (.inl ⟨by kernel_rfl, fun w' hS => ?_⟩) hS ?_
                    rotate_left
                    ·
                      obtain ⟨⟨y0, y1, y2, y3⟩, v0, v1⟩ := hC.out _ hS; have y4 := (stay_of_below hS).cell hcs2.out
                      go_simp
                      try with_reducible rfl
                    simp only [List.getElem_toArray, List.getElem_cons_succ, List.getElem_cons_zero, Act.put, List.setIfInBounds_toArray, List.set_cons_zero, List.set_cons_succ]
                    refine wpAnyH_take (i := 5) (v := ?_) rfl (by kernel_rfl) (by kernel_rfl) (by kernel_rfl) (fun _ _ _ h => h) (.inl ⟨by kernel_rfl, fun w' hS => ?_⟩) hS ?_
                    rotate_left
                    ·
                      obtain ⟨⟨y0, y1, y2, y3⟩, v0, v1⟩ := hC.out _ hS; have y4 := (stay_of_below hS).cell hcs2.out
                      go_simp
                      try with_reducible rfl
                    simp only [List.getElem_toArray, List.getElem_cons_succ, List.getElem_cons_zero, Act.put, List.setIfInBounds_toArray, List.set_cons_zero, List.set_cons_succ]
                    refine wpAnyH_take (i := 6) (v := ?_) rfl (by kernel_rfl) (by kernel_rfl) (by kernel_rfl) (fun _ _ _ h => h) (.inl ⟨by kernel_rfl, fun w' hS => ?_⟩) hS ?_
                    rotate_left
                    ·
                      obtain ⟨⟨y0, y1, y2, y3⟩, v0, v1⟩ := hC.out _ hS; have y4 := (stay_of_below hS).cell hcs2.out
                      go_simp
                      try with_reducible rfl
                    simp only [List.getElem_toArray, List.getElem_cons_succ, List.getElem_cons_zero, Act.put, List.setIfInBounds_toArray, List.set_cons_zero, List.set_cons_succ]
                    refine wpAnyH_take (i := 7) (v := ?_) rfl (by kernel_rfl) (by kernel_rfl) (by kernel_rfl) (fun _ _ _ h => h) (.inl ⟨by kernel_rfl, fun w' hS => ?_⟩) hS ?_
                    rotate_left
                    ·
                      obtain ⟨⟨y0, y1, y2, y3⟩, v0, v1⟩ := hC.out _ hS; have y4 := (stay_of_below hS).cell hcs2.out
                      go_simp
                      try with_reducible rfl
                    simp only [List.getElem_toArray, List.getElem_cons_succ, List.getElem_cons_zero, Act.put, List.setIfInBounds_toArray, List.set_cons_zero, List.set_cons_succ]
                    refine wpAnyH_ready (rs := [8]) (by kernel_rfl) (by simp) ?_
                    refine AllReadyH.cons rfl (fun K hK => ?_) AllReadyH.nil
                    clear hS
                    go_simp
                    refine (cIB.out _ hbd2).mono ?_
                    rintro e w7 ⟨rfl, rfl⟩
                    go_wp2_with fail
                    refine hK.out _ _ (hbd2) (fun hS => ?_)
                    clear hK K
                    try simp only [List.getElem_toArray, List.getElem_cons_succ, List.getElem_cons_zero, Act.put, List.setIfInBounds_toArray, List.set_cons_zero, List.set_cons_succ]
                    refine wpAnyH_take (i := 9) (v := ?_) rfl (by kernel_rfl) (by kernel_rfl) (by kernel_rfl) (fun _ _ _ h => h) (.inl ⟨by kernel_rfl, fun w' hS => ?_⟩) hS ?_
                    rotate_left
                    ·
                      skip
                      go_simp
                      try with_reducible rfl
                    simp only [List.getElem_toArray, List.getElem_cons_succ, List.getElem_cons_zero, Act.put, List.setIfInBounds_toArray, List.set_cons_zero, List.set_cons_succ]
                    refine wpAnyH_done (by kernel_rfl) ?_ _
                    clear hS cIB
                    obtain ⟨⟨x0, x1, x2, x3⟩, u0, u1⟩ := hC.out _ hbd2
                    have hc3r := (stay_of_below hbd2).cell hc3.out
                    obtain ⟨d0, d1, d2, d3, d4, d5⟩ := (hr6.below hbd2).six
                    go_upto_region 24 with fail
                    clear x0 x1 x2 x3 u0 u1 hc3r d0 d1 d2 d3 d4 d5 hr6
                    obtain ⟨V3, hV3⟩ : ∃ V3, (w7.alloc (.cells #[.int .i64 k6, .bool bo6, .int .i64 n6, .string t6, .string x6, .slice aoE l6.length capE] 38)).drew = V3 := ⟨_, rfl⟩
                    have zb : Blk V3 w7.heap.size #[.int .i64 k6, .bool bo6, .int .i64 n6, .string t6, .string x6, .slice aoE l6.length capE] 38 := by rw [← hV3]; exact (Blk.new w7 _ _).drewN 1
                    have hbd3 : Below wz.heap.size wz V3 := by
                      rw [← hV3]
                      have h1 : Below w7.heap.size w7 (w7.alloc (.cells #[.int .i64 k6, .bool bo6, .int .i64 n6, .string t6, .string x6, .slice aoE l6.length capE] 38)).drew := ((Below.refl _ _).alloc (Nat.le_refl _) _).drew
                      exact hbd2.trans (h1.mono hbd2.size)
                    have zz0 := zb.cell 0 rfl
                    have zz1 := zb.cell 1 rfl
                    have zz2 := zb.cell 2 rfl
                    have zz3 := zb.cell 3 rfl
                    have zz4 := zb.cell 4 rfl
                    have zz5 := zb.cell 5 rfl
                    refine wp_region_held_drew (S := fun V => Below V3.heap.size V3 V) (by kernel_rfl) (by rw [hV3]; exact Below.refl _ _) (fun hS => ?_)
                    rw [hV3]
                    rw [hV3] at hS
                    replace hV3 := Lib.hid hV3
                    clear hbd2 zb hpack hRA hRB hRJ hVA hVB hVJ hF hfz hnle hrlA hrlB hJr2 hBz hEz hcs2
                    refine (look_cases hl1.out hxi.out).elim (fun hx => ?ca) (fun hx => ?cb)
                    case' ca =>
                      subst hx
                      have hcur : Below V3.heap.size V3 V3 := Below.refl _ _
                      refine wpAnyH_take (i := 0) (v := ?_) rfl (by kernel_rfl) (by kernel_rfl) (by kernel_rfl) (fun _ _ _ h => h) (.inl ⟨by kernel_rfl, fun w' hS => ?_⟩) hS ?_
                      rotate_left
                      ·
                        skip
                        go_simp
                        try with_reducible rfl
                      simp only [List.getElem_toArray, List.getElem_cons_succ, List.getElem_cons_zero, Act.put, List.setIfInBounds_toArray, List.set_cons_zero, List.set_cons_succ]
                      refine wpAnyH_take (i := 1) (v := ?_) rfl (by kernel_rfl) (by kernel_rfl) (by kernel_rfl) (fun _ _ _ h => h) (.inl ⟨by kernel_rfl, fun w' hS => ?_⟩) hS ?_
                      rotate_left
                      ·
                        skip
                        go_simp
                        try with_reducible rfl
                      simp only [List.getElem_toArray, List.getElem_cons_succ, List.getElem_cons_zero, Act.put, List.setIfInBounds_toArray, List.set_cons_zero, List.set_cons_succ]
                      refine wpAnyH_take (i := 2) (v := ?_) rfl (by kernel_rfl) (by kernel_rfl) (by kernel_rfl) (fun _ _ _ h => h) (.inl ⟨by kernel_rfl, fun w' hS => ?_⟩) hS ?_
                      rotate_left
                      ·
                        skip
                        go_simp
                        try with_reducible rfl
                      simp only [List.getElem_toArray, List.getElem_cons_succ, List.getElem_cons_zero, Act.put, List.setIfInBounds_toArray, List.set_cons_zero, List.set_cons_succ]
                      refine wpAnyH_take (i := 3) (v := undef) rfl (by kernel_rfl) (by kernel_rfl) (by kernel_rfl) (fun _ _ _ h => h) (.inr ⟨by kernel_rfl, rfl⟩) hS ?_
                      simp only [List.getElem_toArray, List.getElem_cons_succ, List.getElem_cons_zero, Act.put, List.setIfInBounds_toArray, List.set_cons_zero, List.set_cons_succ]
                      refine wpAnyH_take (i := 4) (v := undef) rfl (by kernel_rfl) (by kernel_rfl) (by kernel_rfl) (fun _ _ _ h => h) (.inr ⟨by kernel_rfl, rfl⟩) hS ?_
                      simp only [List.getElem_toArray, List.getElem_cons_succ, List.getElem_cons_zero, Act.put, List.setIfInBounds_toArray, List.set_cons_zero, List.set_cons_succ]
                      refine wpAnyH_take (i := 5) (v := undef) rfl (by kernel_rfl) (by kernel_rfl) (by kernel_rfl) (fun _ _ _ h => h) (.inr ⟨by kernel_rfl, rfl⟩) hS ?_
                      simp only [List.getElem_toArray, List.getElem_cons_succ, List.getElem_cons_zero, Act.put, List.setIfInBounds_toArray, List.set_cons_zero, List.set_cons_succ]
                      refine wpAnyH_take (i := 6) (v := undef) rfl (by kernel_rfl) (by kernel_rfl) (by kernel_rfl) (fun _ _ _ h => h) (.inr ⟨by kernel_rfl, rfl⟩) hS ?_
                      simp only [List.getElem_toArray, List.getElem_cons_succ, List.getElem_cons_zero, Act.put, List.setIfInBounds_toArray, List.set_cons_zero, List.set_cons_succ]
                      refine wpAnyH_take (i := 7) (v := undef) rfl (by kernel_rfl) (by kernel_rfl) (by kernel_rfl) (fun _ _ _ h => h) (.inr ⟨by kernel_rfl, rfl⟩) hS ?_
                      simp only [List.getElem_toArray, List.getElem_cons_succ, List.getElem_cons_zero, Act.put, List.setIfInBounds_toArray, List.set_cons_zero, List.set_cons_succ]
                      refine wpAnyH_take (i := 8) (v := undef) rfl (by kernel_rfl) (by kernel_rfl) (by kernel_rfl) (fun _ _ _ h => h) (.inr ⟨by kernel_rfl, rfl⟩) hS ?_
                      simp only [List.getElem_toArray, List.getElem_cons_succ, List.getElem_cons_zero, Act.put, List.setIfInBounds_toArray, List.set_cons_zero, List.set_cons_succ]
                      refine wpAnyH_take (i := 9) (v := undef) rfl (by kernel_rfl) (by kernel_rfl) (by kernel_rfl) (fun _ _ _ h => h) (.inr ⟨by kernel_rfl, rfl⟩) hS ?_
                      simp only [List.getElem_toArray, List.getElem_cons_succ, List.getElem_cons_zero, Act.put, List.setIfInBounds_toArray, List.set_cons_zero, List.set_cons_succ]
                      refine wpAnyH_take (i := 10) (v := undef) rfl (by kernel_rfl) (by kernel_rfl) (by kernel_rfl) (fun _ _ _ h => h) (.inr ⟨by kernel_rfl, rfl⟩) hS ?_
                      simp only [List.getElem_toArray, List.getElem_cons_succ, List.getElem_cons_zero, Act.put, List.setIfInBounds_toArray, List.set_cons_zero, List.set_cons_succ]
                      refine wpAnyH_take (i := 11) (v := undef) rfl (by kernel_rfl) (by kernel_rfl) (by kernel_rfl) (fun _ _ _ h => h) (.inr ⟨by kernel_rfl, rfl⟩) hS ?_
                      simp only [List.getElem_toArray, List.getElem_cons_succ, List.getElem_cons_zero, Act.put, List.setIfInBounds_toArray, List.set_cons_zero, List.set_cons_succ]
                      refine wpAnyH_take (i := 12) (v := undef) rfl (by kernel_rfl) (by kernel_rfl) (by kernel_rfl) (fun _ _ _ h => h) (.inr ⟨by kernel_rfl, rfl⟩) hS ?_
                      simp only [List.getElem_toArray, List.getElem_cons_succ, List.getElem_cons_zero, Act.put, List.setIfInBounds_toArray, List.set_cons_zero, List.set_cons_succ]
                      refine wpAnyH_take (i := 13) (v := undef) rfl (by kernel_rfl) (by kernel_rfl) (by kernel_rfl) (fun _ _ _ h => h) (.inr ⟨by kernel_rfl, rfl⟩) hS ?_
                      simp only [List.getElem_toArray, List.getElem_cons_succ, List.getElem_cons_zero, Act.put, List.setIfInBounds_toArray, List.set_cons_zero, List.set_cons_succ]
                      refine wpAnyH_take (i := 14) (v := ?_) rfl (by kernel_rfl) (by kernel_rfl) (by kernel_rfl) (fun _ _ _ h => h) (.inl ⟨by kernel_rfl, fun w' hS => ?_⟩) hS ?_
                      rotate_left
                      ·
                        skip
                        go_simp
                        try with_reducible rfl
                      simp only [List.getElem_toArray, List.getElem_cons_succ, List.getElem_cons_zero, Act.put, List.setIfInBounds_toArray, List.set_cons_zero, List.set_cons_succ]
                      refine wpAnyH_take (i := 15) (v := ?_) rfl (by kernel_rfl) (by kernel_rfl) (by kernel_rfl) (fun _ _ _ h => h) (.inl ⟨by kernel_rfl, fun w' hS => ?_⟩) hS ?_
                      rotate_left
                      ·
                        skip
                        go_simp
                        try with_reducible rfl
                      simp only [List.getElem_toArray, List.getElem_cons_succ, List.getElem_cons_zero, Act.put, List.setIfInBounds_toArray, List.set_cons_zero, List.set_cons_succ]
                      refine wpAnyH_take (i := 16) (v := undef) rfl (by kernel_rfl) (by kernel_rfl) (by kernel_rfl) (fun _ _ _ h => h) (.inr ⟨by kernel_rfl, rfl⟩) hS ?_
                      simp only [List.getElem_toArray, List.getElem_cons_succ, List.getElem_cons_zero, Act.put, List.setIfInBounds_toArray, List.set_cons_zero, List.set_cons_succ]
                      refine wpAnyH_take (i := 17) (v := undef) rfl (by kernel_rfl) (by kernel_rfl) (by kernel_rfl) (fun _ _ _ h => h) (.inr ⟨by kernel_rfl, rfl⟩) hS ?_
                      simp only [List.getElem_toArray, List.getElem_cons_succ, List.getElem_cons_zero, Act.put, List.setIfInBounds_toArray, List.set_cons_zero, List.set_cons_succ]
                      refine wpAnyH_take (i := 18) (v := undef) rfl (by kernel_rfl) (by kernel_rfl) (by kernel_rfl) (fun _ _ _ h => h) (.inr ⟨by kernel_rfl, rfl⟩) hS ?_
                      simp only [List.getElem_toArray, List.getElem_cons_succ, List.getElem_cons_zero, Act.put, List.setIfInBounds_toArray, List.set_cons_zero, List.set_cons_succ]
                      refine wpAnyH_take (i := 19) (v := undef) rfl (by kernel_rfl) (by kernel_rfl) (by kernel_rfl) (fun _ _ _ h => h) (.inr ⟨by kernel_rfl, rfl⟩) hS ?_
                      simp only [List.getElem_toArray, List.getElem_cons_succ, List.getElem_cons_zero, Act.put, List.setIfInBounds_toArray, List.set_cons_zero, List.set_cons_succ]
                      refine wpAnyH_take (i := 20) (v := undef) rfl (by kernel_rfl) (by kernel_rfl) (by kernel_rfl) (fun _ _ _ h => h) (.inr ⟨by kernel_rfl, rfl⟩) hS ?_
                      simp only [List.getElem_toArray, List.getElem_cons_succ, List.getElem_cons_zero, Act.put, List.setIfInBounds_toArray, List.set_cons_zero, List.set_cons_succ]
                      refine wpAnyH_take (i := 21) (v := undef) rfl (by kernel_rfl) (by kernel_rfl) (by kernel_rfl) (fun _ _ _ h => h) (.inr ⟨by kernel_rfl, rfl⟩) hS ?_
                      simp only [List.getElem_toArray, List.getElem_cons_succ, List.getElem_cons_zero, Act.put, List.setIfInBounds_toArray, List.set_cons_zero, List.set_cons_succ]
                      refine wpAnyH_take (i := 22) (v := undef) rfl (by kernel_rfl) (by kernel_rfl) (by kernel_rfl) (fun _ _ _ h => h) (.inr ⟨by kernel_rfl, rfl⟩) hS ?_
                      simp only [List.getElem_toArray, List.getElem_cons_succ, List.getElem_cons_zero, Act.put, List.setIfInBounds_toArray, List.set_cons_zero, List.set_cons_succ]
                      refine wpAnyH_take (i := 23) (v := undef) rfl (by kernel_rfl) (by kernel_rfl) (by kernel_rfl) (fun _ _ _ h => h) (.inr ⟨by kernel_rfl, rfl⟩) hS ?_
                      simp only [List.getElem_toArray, List.getElem_cons_succ, List.getElem_cons_zero, Act.put, List.setIfInBounds_toArray, List.set_cons_zero, List.set_cons_succ]
                      refine wpAnyH_take (i := 24) (v := undef) rfl (by kernel_rfl) (by kernel_rfl) (by kernel_rfl) (fun _ _ _ h => h) (.inr ⟨by kernel_rfl, rfl⟩) hS ?_
                      simp only [List.getElem_toArray, List.getElem_cons_succ, List.getElem_cons_zero, Act.put, List.setIfInBounds_toArray, List.set_cons_zero, List.set_cons_succ]
                      refine wpAnyH_take (i := 25) (v := undef) rfl (by kernel_rfl) (by kernel_rfl) (by kernel_rfl) (fun _ _ _ h => h) (.inr ⟨by kernel_rfl, rfl⟩) hS ?_
                      simp only [List.getElem_toArray, List.getElem_cons_succ, List.getElem_cons_zero, Act.put, List.setIfInBounds_toArray, List.set_cons_zero, List.set_cons_succ]
                      refine wpAnyH_take (i := 26) (v := undef) rfl (by kernel_rfl) (by kernel_rfl) (by kernel_rfl) (fun _ _ _ h => h) (.inr ⟨by kernel_rfl, rfl⟩) hS ?_
                      simp only [List.getElem_toArray, List.getElem_cons_succ, List.getElem_cons_zero, Act.put, List.setIfInBounds_toArray, List.set_cons_zero, List.set_cons_succ]
                      refine wpAnyH_take (i := 27) (v := undef) rfl (by kernel_rfl) (by kernel_rfl) (by kernel_rfl) (fun _ _ _ h => h) (.inr ⟨by kernel_rfl, rfl⟩) hS ?_
                      simp only [List.getElem_toArray, List.getElem_cons_succ, List.getElem_cons_zero, Act.put, List.setIfInBounds_toArray, List.set_cons_zero, List.set_cons_succ]
                      refine wpAnyH_take (i := 28) (v := ?_) rfl (by kernel_rfl) (by kernel_rfl) (by kernel_rfl) (fun _ _ _ h => h) (.inl ⟨by kernel_rfl, fun w' hS => ?_⟩) hS ?_
                      rotate_left
                      ·
                        skip
                        go_simp
                        try with_reducible rfl
                      simp only [List.getElem_toArray, List.getElem_cons_succ, List.getElem_cons_zero, Act.put, List.setIfInBounds_toArray, List.set_cons_zero, List.set_cons_succ]
                      refine wpAnyH_take (i := 29) (v := ?_) rfl (by kernel_rfl) (by kernel_rfl) (by kernel_rfl) (fun _ _ _ h => h) (.inl ⟨by kernel_rfl, fun w' hS => ?_⟩) hS ?_
                      rotate_left
                      ·
                        skip
                        go_simp
                        try with_reducible rfl
                      simp only [List.getElem_toArray, List.getElem_cons_succ, List.getElem_cons_zero, Act.put, List.setIfInBounds_toArray, List.set_cons_zero, List.set_cons_succ]
                    case' cb =>
                      obtain ⟨qa, hqa, hx, hrqa⟩ := hx
                      subst hx
                      obtain ⟨gA, oA, kA, boA, nA, tA, xA, lA, aoA, capA, eA, heA, hrA, -, hslA⟩ := la_at hla1.out qa hqa
                      subst eA
                      have hFA : Hid (∀ V, Below V3.heap.size V3 V → V.cell? ⟨w.heap.size, 1, none⟩ = some (.slice (some ⟨b1, o1, none⟩) A.rows.length cr) ∧ V.cell? ⟨p3, 1, none⟩ = some (.slice (some ⟨b3, o3, none⟩) J.rows.length cr3) ∧ V.cell? ⟨b1, o1 + i, none⟩ = some (.slice (some ⟨gA, oA, none⟩) r.length c1) ∧ V.cell? ⟨gA, oA + qa * 6, none⟩ = some (.int .i64 kA) ∧ V.cell? ⟨gA, oA + qa * 6 + 1, none⟩ = some (.bool boA) ∧ V.cell? ⟨gA, oA + qa * 6 + 2, none⟩ = some (.int .i64 nA) ∧ V.cell? ⟨gA, oA + qa * 6 + 3, none⟩ = some (.string tA) ∧ V.cell? ⟨gA, oA + qa * 6 + 4, none⟩ = some (.string xA) ∧ V.cell? ⟨gA, oA + qa * 6 + 5, none⟩ = some (.slice aoA lA.length capA) ∧ V.cell? ⟨w7.heap.size, 0, none⟩ = some (.int .i64 k6) ∧ V.cell? ⟨w7.heap.size, 1, none⟩ = some (.bool bo6) ∧ V.cell? ⟨w7.heap.size, 2, none⟩ = some (.int .i64 n6) ∧ V.cell? ⟨w7.heap.size, 3, none⟩ = some (.string t6) ∧ V.cell? ⟨w7.heap.size, 4, none⟩ = some (.string x6) ∧ V.cell? ⟨w7.heap.size, 5, none⟩ = some (.slice aoE l6.length capE)) := Lib.hid fun V hS => by
                        have hS2 := hbd3.trans (hS.mono hbd3.size)
                        obtain ⟨⟨y0, y1, y2, y3⟩, v0, v1⟩ := hC.out _ hS2
                        obtain ⟨f0, f1, f2, f3, f4, f5⟩ := (hrA.below hS2).six
                        exact ⟨y1, v1, (stay_of_below hS2).cell hc1.out, f0, f1, f2, f3, f4, f5, (stay_of_below hS).cell zz0, (stay_of_below hS).cell zz1, (stay_of_below hS).cell zz2, (stay_of_below hS).cell zz3, (stay_of_below hS).cell zz4, (stay_of_below hS).cell zz5⟩
                      have hqai : (qa : Int) < (r.length : Int) := by omega
                      have hcA : cellF A.vars r nm = .mk kA boA nA tA xA lA := hrqa.symm.trans heA
                      refine (Decidable.em (kA = 0)).elim (fun hkA => ?cc) (fun hkA => ?cd)
                    case' cc =>
                      subst hkA
                      have hcur : Below V3.heap.size V3 V3 := Below.refl _ _
                      refine wpAnyH_take (i := 0) (v := ?_) rfl (by kernel_rfl) (by kernel_rfl) (by kernel_rfl) (fun _ _ _ h => h) (.inl ⟨by kernel_rfl, fun w' hS => ?_⟩) hS ?_
                      rotate_left
                      ·
                        obtain ⟨y1, v1, y4, f0, f1, f2, f3, f4, f5, z0, z1, z2, z3, z4, z5⟩ := hFA.out _ hS
                        go_simp
                        try with_reducible rfl
                      simp only [List.getElem_toArray, List.getElem_cons_succ, List.getElem_cons_zero, Act.put, List.setIfInBounds_toArray, List.set_cons_zero, List.set_cons_succ]
                      refine wpAnyH_take (i := 1) (v := ?_) rfl (by kernel_rfl) (by kernel_rfl) (by kernel_rfl) (fun _ _ _ h => h) (.inl ⟨by kernel_rfl, fun w' hS => ?_⟩) hS ?_
                      rotate_left
                      ·
                        obtain ⟨y1, v1, y4, f0, f1, f2, f3, f4, f5, z0, z1, z2, z3, z4, z5⟩ := hFA.out _ hS
                        go_simp
                        try with_reducible rfl
                      simp only [List.getElem_toArray, List.getElem_cons_succ, List.getElem_cons_zero, Act.put, List.setIfInBounds_toArray, List.set_cons_zero, List.set_cons_succ]
                      refine wpAnyH_take (i := 2) (v := ?_) rfl (by kernel_rfl) (by kernel_rfl) (by kernel_rfl) (fun _ _ _ h => h) (.inl ⟨by kernel_rfl, fun w' hS => ?_⟩) hS ?_
                      rotate_left
                      ·
                        obtain ⟨y1, v1, y4, f0, f1, f2, f3, f4, f5, z0, z1, z2, z3, z4, z5⟩ := hFA.out _ hS
                        go_simp
                        try with_reducible rfl
                      simp only [List.getElem_toArray, List.getElem_cons_succ, List.getElem_cons_zero, Act.put, List.setIfInBounds_toArray, List.set_cons_zero, List.set_cons_succ]
                      refine wpAnyH_take (i := 3) (v := ?_) rfl (by kernel_rfl) (by kernel_rfl) (by kernel_rfl) (fun _ _ _ h => h) (.inl ⟨by kernel_rfl, fun w' hS => ?_⟩) hS ?_
                      rotate_left
                      ·
                        obtain ⟨y1, v1, y4, f0, f1, f2, f3, f4, f5, z0, z1, z2, z3, z4, z5⟩ := hFA.out _ hS
                        go_simp
                        try with_reducible rfl
                      simp only [List.getElem_toArray, List.getElem_cons_succ, List.getElem_cons_zero, Act.put, List.setIfInBounds_toArray, List.set_cons_zero, List.set_cons_succ]
                      refine wpAnyH_take (i := 4) (v := ?_) rfl (by kernel_rfl) (by kernel_rfl) (by kernel_rfl) (fun _ _ _ h => h) (.inl ⟨by kernel_rfl, fun w' hS => ?_⟩) hS ?_
                      rotate_left
                      ·
                        obtain ⟨y1, v1, y4, f0, f1, f2, f3, f4, f5, z0, z1, z2, z3, z4, z5⟩ := hFA.out _ hS
                        go_simp
                        try with_reducible rfl
                      simp only [List.getElem_toArray, List.getElem_cons_succ, List.getElem_cons_zero, Act.put, List.setIfInBounds_toArray, List.set_cons_zero, List.set_cons_succ]
                      refine wpAnyH_take (i := 5) (v := ?_) rfl (by kernel_rfl) (by kernel_rfl) (by kernel_rfl) (fun _ _ _ h => h) (.inl ⟨by kernel_rfl, fun w' hS => ?_⟩) hS ?_
                      rotate_left
                      ·
                        obtain ⟨y1, v1, y4, f0, f1, f2, f3, f4, f5, z0, z1, z2, z3, z4, z5⟩ := hFA.out _ hS
                        go_simp
                        try with_reducible rfl
                      simp only [List.getElem_toArray, List.getElem_cons_succ, List.getElem_cons_zero, Act.put, List.setIfInBounds_toArray, List.set_cons_zero, List.set_cons_succ]
                      refine wpAnyH_take (i := 6) (v := ?_) rfl (by kernel_rfl) (by kernel_rfl) (by kernel_rfl) (fun _ _ _ h => h) (.inl ⟨by kernel_rfl, fun w' hS => ?_⟩) hS ?_
                      rotate_left
                      ·
                        obtain ⟨y1, v1, y4, f0, f1, f2, f3, f4, f5, z0, z1, z2, z3, z4, z5⟩ := hFA.out _ hS
                        go_simp
                        try with_reducible rfl
                      simp only [List.getElem_toArray, List.getElem_cons_succ, List.getElem_cons_zero, Act.put, List.setIfInBounds_toArray, List.set_cons_zero, List.set_cons_succ]
                      refine wpAnyH_take (i := 7) (v := ?_) rfl (by kernel_rfl) (by kernel_rfl) (by kernel_rfl) (fun _ _ _ h => h) (.inl ⟨by kernel_rfl, fun w' hS => ?_⟩) hS ?_
                      rotate_left
                      ·
                        obtain ⟨y1, v1, y4, f0, f1, f2, f3, f4, f5, z0, z1, z2, z3, z4, z5⟩ := hFA.out _ hS
                        go_simp
                        try with_reducible rfl
                      simp only [List.getElem_toArray, List.getElem_cons_succ, List.getElem_cons_zero, Act.put, List.setIfInBounds_toArray, List.set_cons_zero, List.set_cons_succ]
                      refine wpAnyH_take (i := 8) (v := ?_) rfl (by kernel_rfl) (by kernel_rfl) (by kernel_rfl) (fun _ _ _ h => h) (.inl ⟨by kernel_rfl, fun w' hS => ?_⟩) hS ?_
                      rotate_left
                      ·
                        obtain ⟨y1, v1, y4, f0, f1, f2, f3, f4, f5, z0, z1, z2, z3, z4, z5⟩ := hFA.out _ hS
                        go_simp
                        try with_reducible rfl
                      simp only [List.getElem_toArray, List.getElem_cons_succ, List.getElem_cons_zero, Act.put, List.setIfInBounds_toArray, List.set_cons_zero, List.set_cons_succ]
                      refine wpAnyH_take (i := 9) (v := ?_) rfl (by kernel_rfl) (by kernel_rfl) (by kernel_rfl) (fun _ _ _ h => h) (.inl ⟨by kernel_rfl, fun w' hS => ?_⟩) hS ?_
                      rotate_left
                      ·
                        obtain ⟨y1, v1, y4, f0, f1, f2, f3, f4, f5, z0, z1, z2, z3, z4, z5⟩ := hFA.out _ hS
                        go_simp
                        try with_reducible rfl
                      simp only [List.getElem_toArray, List.getElem_cons_succ, List.getElem_cons_zero, Act.put, List.setIfInBounds_toArray, List.set_cons_zero, List.set_cons_succ]
                      refine wpAnyH_take (i := 10) (v := ?_) rfl (by kernel_rfl) (by kernel_rfl) (by kernel_rfl) (fun _ _ _ h => h) (.inl ⟨by kernel_rfl, fun w' hS => ?_⟩) hS ?_
                      rotate_left
                      ·
                        obtain ⟨y1, v1, y4, f0, f1, f2, f3, f4, f5, z0, z1, z2, z3, z4, z5⟩ := hFA.out _ hS
                        go_simp
                        try with_reducible rfl
                      simp only [List.getElem_toArray, List.getElem_cons_succ, List.getElem_cons_zero, Act.put, List.setIfInBounds_toArray, List.set_cons_zero, List.set_cons_succ]
                      refine wpAnyH_take (i := 11) (v := ?_) rfl (by kernel_rfl) (by kernel_rfl) (by kernel_rfl) (fun _ _ _ h => h) (.inl ⟨by kernel_rfl, fun w' hS => ?_⟩) hS ?_
                      rotate_left
                      ·
                        obtain ⟨y1, v1, y4, f0, f1, f2, f3, f4, f5, z0, z1, z2, z3, z4, z5⟩ := hFA.out _ hS
                        go_simp
                        try with_reducible rfl
                      simp only [List.getElem_toArray, List.getElem_cons_succ, List.getElem_cons_zero, Act.put, List.setIfInBounds_toArray, List.set_cons_zero, List.set_cons_succ]
                      refine wpAnyH_take (i := 12) (v := ?_) rfl (by kernel_rfl) (by kernel_rfl) (by kernel_rfl) (fun _ _ _ h => h) (.inl ⟨by kernel_rfl, fun w' hS => ?_⟩) hS ?_
                      rotate_left
                      ·
                        obtain ⟨y1, v1, y4, f0, f1, f2, f3, f4, f5, z0, z1, z2, z3, z4, z5⟩ := hFA.out _ hS
                        go_simp
                        try with_reducible rfl
                      simp only [List.getElem_toArray, List.getElem_cons_succ, List.getElem_cons_zero, Act.put, List.setIfInBounds_toArray, List.set_cons_zero, List.set_cons_succ]
                      refine wpAnyH_take (i := 13) (v := ?_) rfl (by kernel_rfl) (by kernel_rfl) (by kernel_rfl) (fun _ _ _ h => h) (.inl ⟨by kernel_rfl, fun w' hS => ?_⟩) hS ?_
                      rotate_left
                      ·
                        obtain ⟨y1, v1, y4, f0, f1, f2, f3, f4, f5, z0, z1, z2, z3, z4, z5⟩ := hFA.out _ hS
                        go_simp
                        try with_reducible rfl
                      simp only [List.getElem_toArray, List.getElem_cons_succ, List.getElem_cons_zero, Act.put, List.setIfInBounds_toArray, List.set_cons_zero, List.set_cons_succ]
                      refine wpAnyH_take (i := 14) (v := ?_) rfl (by kernel_rfl) (by kernel_rfl) (by kernel_rfl) (fun _ _ _ h => h) (.inl ⟨by kernel_rfl, fun w' hS => ?_⟩) hS ?_
                      rotate_left
                      ·
                        obtain ⟨y1, v1, y4, f0, f1, f2, f3, f4, f5, z0, z1, z2, z3, z4, z5⟩ := hFA.out _ hS
                        go_simp
                        try with_reducible rfl
                      simp only [List.getElem_toArray, List.getElem_cons_succ, List.getElem_cons_zero, Act.put, List.setIfInBounds_toArray, List.set_cons_zero, List.set_cons_succ]
                      refine wpAnyH_take (i := 15) (v := ?_) rfl (by kernel_rfl) (by kernel_rfl) (by kernel_rfl) (fun _ _ _ h => h) (.inl ⟨by kernel_rfl, fun w' hS => ?_⟩) hS ?_
                      rotate_left
                      ·
                        obtain ⟨y1, v1, y4, f0, f1, f2, f3, f4, f5, z0, z1, z2, z3, z4, z5⟩ := hFA.out _ hS
                        go_simp
                        try with_reducible rfl
                      simp only [List.getElem_toArray, List.getElem_cons_succ, List.getElem_cons_zero, Act.put, List.setIfInBounds_toArray, List.set_cons_zero, List.set_cons_succ]
                      refine wpAnyH_take (i := 16) (v := undef) rfl (by kernel_rfl) (by kernel_rfl) (by kernel_rfl) (fun _ _ _ h => h) (.inr ⟨by kernel_rfl, rfl⟩) hS ?_
                      simp only [List.getElem_toArray, List.getElem_cons_succ, List.getElem_cons_zero, Act.put, List.setIfInBounds_toArray, List.set_cons_zero, List.set_cons_succ]
                      refine wpAnyH_take (i := 17) (v := undef) rfl (by kernel_rfl) (by kernel_rfl) (by kernel_rfl) (fun _ _ _ h => h) (.inr ⟨by kernel_rfl, rfl⟩) hS ?_
                      simp only [List.getElem_toArray, List.getElem_cons_succ, List.getElem_cons_zero, Act.put, List.setIfInBounds_toArray, List.set_cons_zero, List.set_cons_succ]
                      refine wpAnyH_take (i := 18) (v := undef) rfl (by kernel_rfl) (by kernel_rfl) (by kernel_rfl) (fun _ _ _ h => h) (.inr ⟨by kernel_rfl, rfl⟩) hS ?_
                      simp only [List.getElem_toArray, List.getElem_cons_succ, List.getElem_cons_zero, Act.put, List.setIfInBounds_toArray, List.set_cons_zero, List.set_cons_succ]
                      refine wpAnyH_take (i := 19) (v := undef) rfl (by kernel_rfl) (by kernel_rfl) (by kernel_rfl) (fun _ _ _ h => h) (.inr ⟨by kernel_rfl, rfl⟩) hS ?_
                      simp only [List.getElem_toArray, List.getElem_cons_succ, List.getElem_cons_zero, Act.put, List.setIfInBounds_toArray, List.set_cons_zero, List.set_cons_succ]
                      refine wpAnyH_take (i := 20) (v := undef) rfl (by kernel_rfl) (by kernel_rfl) (by kernel_rfl) (fun _ _ _ h => h) (.inr ⟨by kernel_rfl, rfl⟩) hS ?_
                      simp only [List.getElem_toArray, List.getElem_cons_succ, List.getElem_cons_zero, Act.put, List.setIfInBounds_toArray, List.set_cons_zero, List.set_cons_succ]
                      refine wpAnyH_take (i := 21) (v := undef) rfl (by kernel_rfl) (by kernel_rfl) (by kernel_rfl) (fun _ _ _ h => h) (.inr ⟨by kernel_rfl, rfl⟩) hS ?_
                      simp only [List.getElem_toArray, List.getElem_cons_succ, List.getElem_cons_zero, Act.put, List.setIfInBounds_toArray, List.set_cons_zero, List.set_cons_succ]
                      refine wpAnyH_take (i := 22) (v := undef) rfl (by kernel_rfl) (by kernel_rfl) (by kernel_rfl) (fun _ _ _ h => h) (.inr ⟨by kernel_rfl, rfl⟩) hS ?_
                      simp only [List.getElem_toArray, List.getElem_cons_succ, List.getElem_cons_zero, Act.put, List.setIfInBounds_toArray, List.set_cons_zero, List.set_cons_succ]
                      refine wpAnyH_take (i := 23) (v := undef) rfl (by kernel_rfl) (by kernel_rfl) (by kernel_rfl) (fun _ _ _ h => h) (.inr ⟨by kernel_rfl, rfl⟩) hS ?_
                      simp only [List.getElem_toArray, List.getElem_cons_succ, List.getElem_cons_zero, Act.put, List.setIfInBounds_toArray, List.set_cons_zero, List.set_cons_succ]
                      refine wpAnyH_take (i := 24) (v := undef) rfl (by kernel_rfl) (by kernel_rfl) (by kernel_rfl) (fun _ _ _ h => h) (.inr ⟨by kernel_rfl, rfl⟩) hS ?_
                      simp only [List.getElem_toArray, List.getElem_cons_succ, List.getElem_cons_zero, Act.put, List.setIfInBounds_toArray, List.set_cons_zero, List.set_cons_succ]
                      refine wpAnyH_take (i := 25) (v := undef) rfl (by kernel_rfl) (by kernel_rfl) (by kernel_rfl) (fun _ _ _ h => h) (.inr ⟨by kernel_rfl, rfl⟩) hS ?_
                      simp only [List.getElem_toArray, List.getElem_cons_succ, List.getElem_cons_zero, Act.put, List.setIfInBounds_toArray, List.set_cons_zero, List.set_cons_succ]
                      refine wpAnyH_take (i := 26) (v := undef) rfl (by kernel_rfl) (by kernel_rfl) (by kernel_rfl) (fun _ _ _ h => h) (.inr ⟨by kernel_rfl, rfl⟩) hS ?_
                      simp only [List.getElem_toArray, List.getElem_cons_succ, List.getElem_cons_zero, Act.put, List.setIfInBounds_toArray, List.set_cons_zero, List.set_cons_succ]
                      refine wpAnyH_take (i := 27) (v := undef) rfl (by kernel_rfl) (by kernel_rfl) (by kernel_rfl) (fun _ _ _ h => h) (.inr ⟨by kernel_rfl, rfl⟩) hS ?_
                      simp only [List.getElem_toArray, List.getElem_cons_succ, List.getElem_cons_zero, Act.put, List.setIfInBounds_toArray, List.set_cons_zero, List.set_cons_succ]
                      refine wpAnyH_take (i := 28) (v := ?_) rfl (by kernel_rfl) (by kernel_rfl) (by kernel_rfl) (fun _ _ _ h => h) (.inl ⟨by kernel_rfl, fun w' hS => ?_⟩) hS ?_
                      rotate_left
                      ·
                        obtain ⟨y1, v1, y4, f0, f1, f2, f3, f4, f5, z0, z1, z2, z3, z4, z5⟩ := hFA.out _ hS
                        go_simp
                        try with_reducible rfl
                      simp only [List.getElem_toArray, List.getElem_cons_succ, List.getElem_cons_zero, Act.put, List.setIfInBounds_toArray, List.set_cons_zero, List.set_cons_succ]
                      refine wpAnyH_take (i := 29) (v := ?_) rfl (by kernel_rfl) (by kernel_rfl) (by kernel_rfl) (fun _ _ _ h => h) (.inl ⟨by kernel_rfl, fun w' hS => ?_⟩) hS ?_
                      rotate_left
                      ·
                        obtain ⟨y1, v1, y4, f0, f1, f2, f3, f4, f5, z0, z1, z2, z3, z4, z5⟩ := hFA.out _ hS
                        go_simp
                        try with_reducible rfl
                      simp only [List.getElem_toArray, List.getElem_cons_succ, List.getElem_cons_zero, Act.put, List.setIfInBounds_toArray, List.set_cons_zero, List.set_cons_succ]
                    case' cd =>
                      have hkAb : (kA != 0) = true := by simpa using hkA
                      have hsmA : sameP (.mk k6 bo6 n6 t6 x6 l6) (.mk kA boA nA tA xA lA) = true := (sameP_iff _ _).2 (by rw [hxm.out, ← hcA]; exact hnA.out (by rw [hcA]; exact decide_eq_false hkA))
                      have hcalA := fun V (h : Below V3.heap.size V3 V) => rsame_call 1048576 (by omega) V k6 bo6 n6 t6 x6 _ l6 kA boA nA tA xA _ lA (hsl6.out.stay (hbd3.trans (h.mono hbd3.size))) (hslA.stay (hbd3.trans (h.mono hbd3.size)))
                      rw [hsmA] at hcalA
                      unfold agg6 at hcalA
                      replace hcalA := Lib.hid hcalA
                      clear hsmA
                      refine wpAnyH_take (i := 0) (v := ?_) rfl (by kernel_rfl) (by kernel_rfl) (by kernel_rfl) (fun _ _ _ h => h) (.inl ⟨by kernel_rfl, fun w' hS => ?_⟩) hS ?_
                      rotate_left
                      ·
                        obtain ⟨y1, v1, y4, f0, f1, f2, f3, f4, f5, z0, z1, z2, z3, z4, z5⟩ := hFA.out _ hS
                        go_simp
                        try with_reducible rfl
                      simp only [List.getElem_toArray, List.getElem_cons_succ, List.getElem_cons_zero, Act.put, List.setIfInBounds_toArray, List.set_cons_zero, List.set_cons_succ]
                      refine wpAnyH_take (i := 1) (v := ?_) rfl (by kernel_rfl) (by kernel_rfl) (by kernel_rfl) (fun _ _ _ h => h) (.inl ⟨by kernel_rfl, fun w' hS => ?_⟩) hS ?_
                      rotate_left
                      ·
                        obtain ⟨y1, v1, y4, f0, f1, f2, f3, f4, f5, z0, z1, z2, z3, z4, z5⟩ := hFA.out _ hS
                        go_simp
                        try with_reducible rfl
                      simp only [List.getElem_toArray, List.getElem_cons_succ, List.getElem_cons_zero, Act.put, List.setIfInBounds_toArray, List.set_cons_zero, List.set_cons_succ]
                      refine wpAnyH_take (i := 2) (v := ?_) rfl (by kernel_rfl) (by kernel_rfl) (by kernel_rfl) (fun _ _ _ h => h) (.inl ⟨by kernel_rfl, fun w' hS => ?_⟩) hS ?_
                      rotate_left
                      ·
                        obtain ⟨y1, v1, y4, f0, f1, f2, f3, f4, f5, z0, z1, z2, z3, z4, z5⟩ := hFA.out _ hS
                        go_simp
                        try with_reducible rfl
                      simp only [List.getElem_toArray, List.getElem_cons_succ, List.getElem_cons_zero, Act.put, List.setIfInBounds_toArray, List.set_cons_zero, List.set_cons_succ]
                      refine wpAnyH_take (i := 3) (v := ?_) rfl (by kernel_rfl) (by kernel_rfl) (by kernel_rfl) (fun _ _ _ h => h) (.inl ⟨by kernel_rfl, fun w' hS => ?_⟩) hS ?_
                      rotate_left
                      ·
                        obtain ⟨y1, v1, y4, f0, f1, f2, f3, f4, f5, z0, z1, z2, z3, z4, z5⟩ := hFA.out _ hS
                        go_simp
                        try with_reducible rfl
                      simp only [List.getElem_toArray, List.getElem_cons_succ, List.getElem_cons_zero, Act.put, List.setIfInBounds_toArray, List.set_cons_zero, List.set_cons_succ]
                      refine wpAnyH_take (i := 4) (v := ?_) rfl (by kernel_rfl) (by kernel_rfl) (by kernel_rfl) (fun _ _ _ h => h) (.inl ⟨by kernel_rfl, fun w' hS => ?_⟩) hS ?_
                      rotate_left
                      ·
                        obtain ⟨y1, v1, y4, f0, f1, f2, f3, f4, f5, z0, z1, z2, z3, z4, z5⟩ := hFA.out _ hS
                        go_simp
                        try with_reducible rfl
                      simp only [List.getElem_toArray, List.getElem_cons_succ, List.getElem_cons_zero, Act.put, List.setIfInBounds_toArray, List.set_cons_zero, List.set_cons_succ]
                      refine wpAnyH_take (i := 5) (v := ?_) rfl (by kernel_rfl) (by kernel_rfl) (by kernel_rfl) (fun _ _ _ h => h) (.inl ⟨by kernel_rfl, fun w' hS => ?_⟩) hS ?_
                      rotate_left
                      ·
                        obtain ⟨y1, v1, y4, f0, f1, f2, f3, f4, f5, z0, z1, z2, z3, z4, z5⟩ := hFA.out _ hS
                        go_simp
                        try with_reducible rfl
                      simp only [List.getElem_toArray, List.getElem_cons_succ, List.getElem_cons_zero, Act.put, List.setIfInBounds_toArray, List.set_cons_zero, List.set_cons_succ]
                      refine wpAnyH_take (i := 6) (v := ?_) rfl (by kernel_rfl) (by kernel_rfl) (by kernel_rfl) (fun _ _ _ h => h) (.inl ⟨by kernel_rfl, fun w' hS => ?_⟩) hS ?_
                      rotate_left
                      ·
                        obtain ⟨y1, v1, y4, f0, f1, f2, f3, f4, f5, z0, z1, z2, z3, z4, z5⟩ := hFA.out _ hS
                        go_simp
                        try with_reducible rfl
                      simp only [List.getElem_toArray, List.getElem_cons_succ, List.getElem_cons_zero, Act.put, List.setIfInBounds_toArray, List.set_cons_zero, List.set_cons_succ]
                      refine wpAnyH_take (i := 7) (v := ?_) rfl (by kernel_rfl) (by kernel_rfl) (by kernel_rfl) (fun _ _ _ h => h) (.inl ⟨by kernel_rfl, fun w' hS => ?_⟩) hS ?_
                      rotate_left
                      ·
                        obtain ⟨y1, v1, y4, f0, f1, f2, f3, f4, f5, z0, z1, z2, z3, z4, z5⟩ := hFA.out _ hS
                        go_simp
                        try with_reducible rfl
                      simp only [List.getElem_toArray, List.getElem_cons_succ, List.getElem_cons_zero, Act.put, List.setIfInBounds_toArray, List.set_cons_zero, List.set_cons_succ]
                      refine wpAnyH_take (i := 8) (v := ?_) rfl (by kernel_rfl) (by kernel_rfl) (by kernel_rfl) (fun _ _ _ h => h) (.inl ⟨by kernel_rfl, fun w' hS => ?_⟩) hS ?_
                      rotate_left
                      ·
                        obtain ⟨y1, v1, y4, f0, f1, f2, f3, f4, f5, z0, z1, z2, z3, z4, z5⟩ := hFA.out _ hS
                        go_simp
                        try with_reducible rfl
                      simp only [List.getElem_toArray, List.getElem_cons_succ, List.getElem_cons_zero, Act.put, List.setIfInBounds_toArray, List.set_cons_zero, List.set_cons_succ]
                      refine wpAnyH_take (i := 9) (v := ?_) rfl (by kernel_rfl) (by kernel_rfl) (by kernel_rfl) (fun _ _ _ h => h) (.inl ⟨by kernel_rfl, fun w' hS => ?_⟩) hS ?_
                      rotate_left
                      ·
                        obtain ⟨y1, v1, y4, f0, f1, f2, f3, f4, f5, z0, z1, z2, z3, z4, z5⟩ := hFA.out _ hS
                        go_simp
                        try with_reducible rfl
                      simp only [List.getElem_toArray, List.getElem_cons_succ, List.getElem_cons_zero, Act.put, List.setIfInBounds_toArray, List.set_cons_zero, List.set_cons_succ]
                      refine wpAnyH_take (i := 10) (v := ?_) rfl (by kernel_rfl) (by kernel_rfl) (by kernel_rfl) (fun _ _ _ h => h) (.inl ⟨by kernel_rfl, fun w' hS => ?_⟩) hS ?_
                      rotate_left
                      ·
                        obtain ⟨y1, v1, y4, f0, f1, f2, f3, f4, f5, z0, z1, z2, z3, z4, z5⟩ := hFA.out _ hS
                        go_simp
                        try with_reducible rfl
                      simp only [List.getElem_toArray, List.getElem_cons_succ, List.getElem_cons_zero, Act.put, List.setIfInBounds_toArray, List.set_cons_zero, List.set_cons_succ]
                      refine wpAnyH_take (i := 11) (v := ?_) rfl (by kernel_rfl) (by kernel_rfl) (by kernel_rfl) (fun _ _ _ h => h) (.inl ⟨by kernel_rfl, fun w' hS => ?_⟩) hS ?_
                      rotate_left
                      ·
                        obtain ⟨y1, v1, y4, f0, f1, f2, f3, f4, f5, z0, z1, z2, z3, z4, z5⟩ := hFA.out _ hS
                        go_simp
                        try with_reducible rfl
                      simp only [List.getElem_toArray, List.getElem_cons_succ, List.getElem_cons_zero, Act.put, List.setIfInBounds_toArray, List.set_cons_zero, List.set_cons_succ]
                      refine wpAnyH_take (i := 12) (v := ?_) rfl (by kernel_rfl) (by kernel_rfl) (by kernel_rfl) (fun _ _ _ h => h) (.inl ⟨by kernel_rfl, fun w' hS => ?_⟩) hS ?_
                      rotate_left
                      ·
                        obtain ⟨y1, v1, y4, f0, f1, f2, f3, f4, f5, z0, z1, z2, z3, z4, z5⟩ := hFA.out _ hS
                        go_simp
                        try with_reducible rfl
                      simp only [List.getElem_toArray, List.getElem_cons_succ, List.getElem_cons_zero, Act.put, List.setIfInBounds_toArray, List.set_cons_zero, List.set_cons_succ]
                      refine wpAnyH_take (i := 13) (v := ?_) rfl (by kernel_rfl) (by kernel_rfl) (by kernel_rfl) (fun _ _ _ h => h) (.inl ⟨by kernel_rfl, fun w' hS => ?_⟩) hS ?_
                      rotate_left
                      ·
                        obtain ⟨y1, v1, y4, f0, f1, f2, f3, f4, f5, z0, z1, z2, z3, z4, z5⟩ := hFA.out _ hS
                        go_simp
                        try with_reducible rfl
                      simp only [List.getElem_toArray, List.getElem_cons_succ, List.getElem_cons_zero, Act.put, List.setIfInBounds_toArray, List.set_cons_zero, List.set_cons_succ]
                      refine wpAnyH_take (i := 14) (v := ?_) rfl (by kernel_rfl) (by kernel_rfl) (by kernel_rfl) (fun _ _ _ h => h) (.inl ⟨by kernel_rfl, fun w' hS => ?_⟩) hS ?_
                      rotate_left
                      ·
                        obtain ⟨y1, v1, y4, f0, f1, f2, f3, f4, f5, z0, z1, z2, z3, z4, z5⟩ := hFA.out _ hS
                        go_simp
                        try with_reducible rfl
                      simp only [List.getElem_toArray, List.getElem_cons_succ, List.getElem_cons_zero, Act.put, List.setIfInBounds_toArray, List.set_cons_zero, List.set_cons_succ]
                      refine wpAnyH_take (i := 15) (v := ?_) rfl (by kernel_rfl) (by kernel_rfl) (by kernel_rfl) (fun _ _ _ h => h) (.inl ⟨by kernel_rfl, fun w' hS => ?_⟩) hS ?_
                      rotate_left
                      ·
                        obtain ⟨y1, v1, y4, f0, f1, f2, f3, f4, f5, z0, z1, z2, z3, z4, z5⟩ := hFA.out _ hS
                        go_simp
                        try with_reducible rfl
                      simp only [List.getElem_toArray, List.getElem_cons_succ, List.getElem_cons_zero, Act.put, List.setIfInBounds_toArray, List.set_cons_zero, List.set_cons_succ]
                      refine wpAnyH_take (i := 16) (v := ?_) rfl (by kernel_rfl) (by kernel_rfl) (by kernel_rfl) (fun _ _ _ h => h) (.inl ⟨by kernel_rfl, fun w' hS => ?_⟩) hS ?_
                      rotate_left
                      ·
                        obtain ⟨y1, v1, y4, f0, f1, f2, f3, f4, f5, z0, z1, z2, z3, z4, z5⟩ := hFA.out _ hS
                        go_simp
                        try with_reducible rfl
                      simp only [List.getElem_toArray, List.getElem_cons_succ, List.getElem_cons_zero, Act.put, List.setIfInBounds_toArray, List.set_cons_zero, List.set_cons_succ]
                      refine wpAnyH_take (i := 17) (v := ?_) rfl (by kernel_rfl) (by kernel_rfl) (by kernel_rfl) (fun _ _ _ h => h) (.inl ⟨by kernel_rfl, fun w' hS => ?_⟩) hS ?_
                      rotate_left
                      ·
                        obtain ⟨y1, v1, y4, f0, f1, f2, f3, f4, f5, z0, z1, z2, z3, z4, z5⟩ := hFA.out _ hS
                        go_simp
                        try with_reducible rfl
                      simp only [List.getElem_toArray, List.getElem_cons_succ, List.getElem_cons_zero, Act.put, List.setIfInBounds_toArray, List.set_cons_zero, List.set_cons_succ]
                      refine wpAnyH_take (i := 18) (v := ?_) rfl (by kernel_rfl) (by kernel_rfl) (by kernel_rfl) (fun _ _ _ h => h) (.inl ⟨by kernel_rfl, fun w' hS => ?_⟩) hS ?_
                      rotate_left
                      ·
                        obtain ⟨y1, v1, y4, f0, f1, f2, f3, f4, f5, z0, z1, z2, z3, z4, z5⟩ := hFA.out _ hS
                        go_simp
                        try with_reducible rfl
                      simp only [List.getElem_toArray, List.getElem_cons_succ, List.getElem_cons_zero, Act.put, List.setIfInBounds_toArray, List.set_cons_zero, List.set_cons_succ]
                      refine wpAnyH_take (i := 19) (v := ?_) rfl (by kernel_rfl) (by kernel_rfl) (by kernel_rfl) (fun _ _ _ h => h) (.inl ⟨by kernel_rfl, fun w' hS => ?_⟩) hS ?_
                      rotate_left
                      ·
                        obtain ⟨y1, v1, y4, f0, f1, f2, f3, f4, f5, z0, z1, z2, z3, z4, z5⟩ := hFA.out _ hS
                        go_simp
                        try with_reducible rfl
                      simp only [List.getElem_toArray, List.getElem_cons_succ, List.getElem_cons_zero, Act.put, List.setIfInBounds_toArray, List.set_cons_zero, List.set_cons_succ]
                      refine wpAnyH_take (i := 20) (v := ?_) rfl (by kernel_rfl) (by kernel_rfl) (by kernel_rfl) (fun _ _ _ h => h) (.inl ⟨by kernel_rfl, fun w' hS => ?_⟩) hS ?_
                      rotate_left
                      ·
                        obtain ⟨y1, v1, y4, f0, f1, f2, f3, f4, f5, z0, z1, z2, z3, z4, z5⟩ := hFA.out _ hS
                        go_simp
                        try with_reducible rfl
                      simp only [List.getElem_toArray, List.getElem_cons_succ, List.getElem_cons_zero, Act.put, List.setIfInBounds_toArray, List.set_cons_zero, List.set_cons_succ]
                      refine wpAnyH_take (i := 21) (v := ?_) rfl (by kernel_rfl) (by kernel_rfl) (by kernel_rfl) (fun _ _ _ h => h) (.inl ⟨by kernel_rfl, fun w' hS => ?_⟩) hS ?_
                      rotate_left
                      ·
                        obtain ⟨y1, v1, y4, f0, f1, f2, f3, f4, f5, z0, z1, z2, z3, z4, z5⟩ := hFA.out _ hS
                        go_simp
                        try with_reducible rfl
                      simp only [List.getElem_toArray, List.getElem_cons_succ, List.getElem_cons_zero, Act.put, List.setIfInBounds_toArray, List.set_cons_zero, List.set_cons_succ]
                      refine wpAnyH_take (i := 22) (v := ?_) rfl (by kernel_rfl) (by kernel_rfl) (by kernel_rfl) (fun _ _ _ h => h) (.inl ⟨by kernel_rfl, fun w' hS => ?_⟩) hS ?_
                      rotate_left
                      ·
                        obtain ⟨y1, v1, y4, f0, f1, f2, f3, f4, f5, z0, z1, z2, z3, z4, z5⟩ := hFA.out _ hS
                        go_simp
                        try with_reducible rfl
                      simp only [List.getElem_toArray, List.getElem_cons_succ, List.getElem_cons_zero, Act.put, List.setIfInBounds_toArray, List.set_cons_zero, List.set_cons_succ]
                      refine wpAnyH_take (i := 23) (v := ?_) rfl (by kernel_rfl) (by kernel_rfl) (by kernel_rfl) (fun _ _ _ h => h) (.inl ⟨by kernel_rfl, fun w' hS => ?_⟩) hS ?_
                      rotate_left
                      ·
                        obtain ⟨y1, v1, y4, f0, f1, f2, f3, f4, f5, z0, z1, z2, z3, z4, z5⟩ := hFA.out _ hS
                        go_simp
                        try with_reducible rfl
                      simp only [List.getElem_toArray, List.getElem_cons_succ, List.getElem_cons_zero, Act.put, List.setIfInBounds_toArray, List.set_cons_zero, List.set_cons_succ]
                      refine wpAnyH_take (i := 24) (v := ?_) rfl (by kernel_rfl) (by kernel_rfl) (by kernel_rfl) (fun _ _ _ h => h) (.inl ⟨by kernel_rfl, fun w' hS => ?_⟩) hS ?_
                      rotate_left
                      ·
                        obtain ⟨y1, v1, y4, f0, f1, f2, f3, f4, f5, z0, z1, z2, z3, z4, z5⟩ := hFA.out _ hS
                        go_simp
                        try with_reducible rfl
                      simp only [List.getElem_toArray, List.getElem_cons_succ, List.getElem_cons_zero, Act.put, List.setIfInBounds_toArray, List.set_cons_zero, List.set_cons_succ]
                      refine wpAnyH_take (i := 25) (v := ?_) rfl (by kernel_rfl) (by kernel_rfl) (by kernel_rfl) (fun _ _ _ h => h) (.inl ⟨by kernel_rfl, fun w' hS => ?_⟩) hS ?_
                      rotate_left
                      ·
                        obtain ⟨y1, v1, y4, f0, f1, f2, f3, f4, f5, z0, z1, z2, z3, z4, z5⟩ := hFA.out _ hS
                        go_simp
                        try with_reducible rfl
                      simp only [List.getElem_toArray, List.getElem_cons_succ, List.getElem_cons_zero, Act.put, List.setIfInBounds_toArray, List.set_cons_zero, List.set_cons_succ]
                      refine wpAnyH_ready (rs := [26]) (by kernel_rfl) (by simp) ?_
                      refine AllReadyH.cons rfl (fun K hK => ?_) AllReadyH.nil
                      clear hS
                      go_simp
                      refine (hcalA.out _ (Below.refl _ _)).mono ?_
                      rintro e w21 ⟨rfl, hb21⟩
                      go_wp2_with fail
                      refine hK.out _ _ (hb21) (fun hS => ?_)
                      clear hK K
                      try simp only [List.getElem_toArray, List.getElem_cons_succ, List.getElem_cons_zero, Act.put, List.setIfInBounds_toArray, List.set_cons_zero, List.set_cons_succ]
                      have hcur := hb21
                      refine wpAnyH_take (i := 27) (v := ?_) rfl (by kernel_rfl) (by kernel_rfl) (by kernel_rfl) (fun _ _ _ h => h) (.inl ⟨by kernel_rfl, fun w' hS => ?_⟩) hS ?_
                      rotate_left
                      ·
                        skip
                        go_simp
                        try with_reducible rfl
                      simp only [List.getElem_toArray, List.getElem_cons_succ, List.getElem_cons_zero, Act.put, List.setIfInBounds_toArray, List.set_cons_zero, List.set_cons_succ]
                      refine wpAnyH_take (i := 28) (v := ?_) rfl (by kernel_rfl) (by kernel_rfl) (by kernel_rfl) (fun _ _ _ h => h) (.inl ⟨by kernel_rfl, fun w' hS => ?_⟩) hS ?_
                      rotate_left
                      ·
                        skip
                        go_simp
                        try with_reducible rfl
                      simp only [List.getElem_toArray, List.getElem_cons_succ, List.getElem_cons_zero, Act.put, List.setIfInBounds_toArray, List.set_cons_zero, List.set_cons_succ]
                      refine wpAnyH_take (i := 29) (v := ?_) rfl (by kernel_rfl) (by kernel_rfl) (by kernel_rfl) (fun _ _ _ h => h) (.inl ⟨by kernel_rfl, fun w' hS => ?_⟩) hS ?_
                      rotate_left
                      ·
                        skip
                        go_simp
                        try with_reducible rfl
                      simp only [List.getElem_toArray, List.getElem_cons_succ, List.getElem_cons_zero, Act.put, List.setIfInBounds_toArray, List.set_cons_zero, List.set_cons_succ]
                    all_goals
                      as_aux_lemma =>
                        rcases look_cases hl2.out hyi.out with hy | ⟨qb, hqb, hy, hrqb⟩
                        · subst hy
                          refine wpAnyH_take (i := 30) (v := ?_) rfl (by kernel_rfl) (by kernel_rfl) (by kernel_rfl) (fun _ _ _ h => h) (.inl ⟨by kernel_rfl, fun w' hS => ?_⟩) hS ?_
                          rotate_left
                          ·
                            skip
                            go_simp
                            try with_reducible rfl
                          simp only [List.getElem_toArray, List.getElem_cons_succ, List.getElem_cons_zero, Act.put, List.setIfInBounds_toArray, List.set_cons_zero, List.set_cons_succ]
                          refine wpAnyH_take (i := 31) (v := ?_) rfl (by kernel_rfl) (by kernel_rfl) (by kernel_rfl) (fun _ _ _ h => h) (.inl ⟨by kernel_rfl, fun w' hS => ?_⟩) hS ?_
                          rotate_left
                          ·
                            skip
                            go_simp
                            try with_reducible rfl
                          simp only [List.getElem_toArray, List.getElem_cons_succ, List.getElem_cons_zero, Act.put, List.setIfInBounds_toArray, List.set_cons_zero, List.set_cons_succ]
                          refine wpAnyH_take (i := 32) (v := ?_) rfl (by kernel_rfl) (by kernel_rfl) (by kernel_rfl) (fun _ _ _ h => h) (.inl ⟨by kernel_rfl, fun w' hS => ?_⟩) hS ?_
                          rotate_left
                          ·
                            skip
                            go_simp
                            try with_reducible rfl
                          simp only [List.getElem_toArray, List.getElem_cons_succ, List.getElem_cons_zero, Act.put, List.setIfInBounds_toArray, List.set_cons_zero, List.set_cons_succ]
                          refine wpAnyH_take (i := 33) (v := undef) rfl (by kernel_rfl) (by kernel_rfl) (by kernel_rfl) (fun _ _ _ h => h) (.inr ⟨by kernel_rfl, rfl⟩) hS ?_
                          simp only [List.getElem_toArray, List.getElem_cons_succ, List.getElem_cons_zero, Act.put, List.setIfInBounds_toArray, List.set_cons_zero, List.set_cons_succ]
                          refine wpAnyH_take (i := 34) (v := undef) rfl (by kernel_rfl) (by kernel_rfl) (by kernel_rfl) (fun _ _ _ h => h) (.inr ⟨by kernel_rfl, rfl⟩) hS ?_
                          simp only [List.getElem_toArray, List.getElem_cons_succ, List.getElem_cons_zero, Act.put, List.setIfInBounds_toArray, List.set_cons_zero, List.set_cons_succ]
                          refine wpAnyH_take (i := 35) (v := undef) rfl (by kernel_rfl) (by kernel_rfl) (by kernel_rfl) (fun _ _ _ h => h) (.inr ⟨by kernel_rfl, rfl⟩) hS ?_
                          simp only [List.getElem_toArray, List.getElem_cons_succ, List.getElem_cons_zero, Act.put, List.setIfInBounds_toArray, List.set_cons_zero, List.set_cons_succ]
                          refine wpAnyH_take (i := 36) (v := undef) rfl (by kernel_rfl) (by kernel_rfl) (by kernel_rfl) (fun _ _ _ h => h) (.inr ⟨by kernel_rfl, rfl⟩) hS ?_
                          simp only [List.getElem_toArray, List.getElem_cons_succ, List.getElem_cons_zero, Act.put, List.setIfInBounds_toArray, List.set_cons_zero, List.set_cons_succ]
                          refine wpAnyH_take (i := 37) (v := undef) rfl (by kernel_rfl) (by kernel_rfl) (by kernel_rfl) (fun _ _ _ h => h) (.inr ⟨by kernel_rfl, rfl⟩) hS ?_
                          simp only [List.getElem_toArray, List.getElem_cons_succ, List.getElem_cons_zero, Act.put, List.setIfInBounds_toArray, List.set_cons_zero, List.set_cons_succ]
                          refine wpAnyH_take (i := 38) (v := undef) rfl (by kernel_rfl) (by kernel_rfl) (by kernel_rfl) (fun _ _ _ h => h) (.inr ⟨by kernel_rfl, rfl⟩) hS ?_
                          simp only [List.getElem_toArray, List.getElem_cons_succ, List.getElem_cons_zero, Act.put, List.setIfInBounds_toArray, List.set_cons_zero, List.set_cons_succ]
                          refine wpAnyH_take (i := 39) (v := undef) rfl (by kernel_rfl) (by kernel_rfl) (by kernel_rfl) (fun _ _ _ h => h) (.inr ⟨by kernel_rfl, rfl⟩) hS ?_
                          simp only [List.getElem_toArray, List.getElem_cons_succ, List.getElem_cons_zero, Act.put, List.setIfInBounds_toArray, List.set_cons_zero, List.set_cons_succ]
                          refine wpAnyH_take (i := 40) (v := undef) rfl (by kernel_rfl) (by kernel_rfl) (by kernel_rfl) (fun _ _ _ h => h) (.inr ⟨by kernel_rfl, rfl⟩) hS ?_
                          simp only [List.getElem_toArray, List.getElem_cons_succ, List.getElem_cons_zero, Act.put, List.setIfInBounds_toArray, List.set_cons_zero, List.set_cons_succ]
                          refine wpAnyH_take (i := 41) (v := undef) rfl (by kernel_rfl) (by kernel_rfl) (by kernel_rfl) (fun _ _ _ h => h) (.inr ⟨by kernel_rfl, rfl⟩) hS ?_
                          simp only [List.getElem_toArray, List.getElem_cons_succ, List.getElem_cons_zero, Act.put, List.setIfInBounds_toArray, List.set_cons_zero, List.set_cons_succ]
                          refine wpAnyH_take (i := 42) (v := undef) rfl (by kernel_rfl) (by kernel_rfl) (by kernel_rfl) (fun _ _ _ h => h) (.inr ⟨by kernel_rfl, rfl⟩) hS ?_
                          simp only [List.getElem_toArray, List.getElem_cons_succ, List.getElem_cons_zero, Act.put, List.setIfInBounds_toArray, List.set_cons_zero, List.set_cons_succ]
                          refine wpAnyH_take (i := 43) (v := undef) rfl (by kernel_rfl) (by kernel_rfl) (by kernel_rfl) (fun _ _ _ h => h) (.inr ⟨by kernel_rfl, rfl⟩) hS ?_
                          simp only [List.getElem_toArray, List.getElem_cons_succ, List.getElem_cons_zero, Act.put, List.setIfInBounds_toArray, List.set_cons_zero, List.set_cons_succ]
                          refine wpAnyH_take (i := 44) (v := ?_) rfl (by kernel_rfl) (by kernel_rfl) (by kernel_rfl) (fun _ _ _ h => h) (.inl ⟨by kernel_rfl, fun w' hS => ?_⟩) hS ?_
                          rotate_left
                          ·
                            skip
                            go_simp
                            try with_reducible rfl
                          simp only [List.getElem_toArray, List.getElem_cons_succ, List.getElem_cons_zero, Act.put, List.setIfInBounds_toArray, List.set_cons_zero, List.set_cons_succ]
                          refine wpAnyH_take (i := 45) (v := ?_) rfl (by kernel_rfl) (by kernel_rfl) (by kernel_rfl) (fun _ _ _ h => h) (.inl ⟨by kernel_rfl, fun w' hS => ?_⟩) hS ?_
                          rotate_left
                          ·
                            skip
                            go_simp
                            try with_reducible rfl
                          simp only [List.getElem_toArray, List.getElem_cons_succ, List.getElem_cons_zero, Act.put, List.setIfInBounds_toArray, List.set_cons_zero, List.set_cons_succ]
                          refine wpAnyH_take (i := 46) (v := undef) rfl (by kernel_rfl) (by kernel_rfl) (by kernel_rfl) (fun _ _ _ h => h) (.inr ⟨by kernel_rfl, rfl⟩) hS ?_
                          simp only [List.getElem_toArray, List.getElem_cons_succ, List.getElem_cons_zero, Act.put, List.setIfInBounds_toArray, List.set_cons_zero, List.set_cons_succ]
                          refine wpAnyH_take (i := 47) (v := undef) rfl (by kernel_rfl) (by kernel_rfl) (by kernel_rfl) (fun _ _ _ h => h) (.inr ⟨by kernel_rfl, rfl⟩) hS ?_
                          simp only [List.getElem_toArray, List.getElem_cons_succ, List.getElem_cons_zero, Act.put, List.setIfInBounds_toArray, List.set_cons_zero, List.set_cons_succ]
                          refine wpAnyH_take (i := 48) (v := undef) rfl (by kernel_rfl) (by kernel_rfl) (by kernel_rfl) (fun _ _ _ h => h) (.inr ⟨by kernel_rfl, rfl⟩) hS ?_
                          simp only [List.getElem_toArray, List.getElem_cons_succ, List.getElem_cons_zero, Act.put, List.setIfInBounds_toArray, List.set_cons_zero, List.set_cons_succ]
                          refine wpAnyH_take (i := 49) (v := undef) rfl (by kernel_rfl) (by kernel_rfl) (by kernel_rfl) (fun _ _ _ h => h) (.inr ⟨by kernel_rfl, rfl⟩) hS ?_
                          simp only [List.getElem_toArray, List.getElem_cons_succ, List.getElem_cons_zero, Act.put, List.setIfInBounds_toArray, List.set_cons_zero, List.set_cons_succ]
                          refine wpAnyH_take (i := 50) (v := undef) rfl (by kernel_rfl) (by kernel_rfl) (by kernel_rfl) (fun _ _ _ h => h) (.inr ⟨by kernel_rfl, rfl⟩) hS ?_
                          simp only [List.getElem_toArray, List.getElem_cons_succ, List.getElem_cons_zero, Act.put, List.setIfInBounds_toArray, List.set_cons_zero, List.set_cons_succ]
                          refine wpAnyH_take (i := 51) (v := undef) rfl (by kernel_rfl) (by kernel_rfl) (by kernel_rfl) (fun _ _ _ h => h) (.inr ⟨by kernel_rfl, rfl⟩) hS ?_
                          simp only [List.getElem_toArray, List.getElem_cons_succ, List.getElem_cons_zero, Act.put, List.setIfInBounds_toArray, List.set_cons_zero, List.set_cons_succ]
                          refine wpAnyH_take (i := 52) (v := undef) rfl (by kernel_rfl) (by kernel_rfl) (by kernel_rfl) (fun _ _ _ h => h) (.inr ⟨by kernel_rfl, rfl⟩) hS ?_
                          simp only [List.getElem_toArray, List.getElem_cons_succ, List.getElem_cons_zero, Act.put, List.setIfInBounds_toArray, List.set_cons_zero, List.set_cons_succ]
                          refine wpAnyH_take (i := 53) (v := undef) rfl (by kernel_rfl) (by kernel_rfl) (by kernel_rfl) (fun _ _ _ h => h) (.inr ⟨by kernel_rfl, rfl⟩) hS ?_
                          simp only [List.getElem_toArray, List.getElem_cons_succ, List.getElem_cons_zero, Act.put, List.setIfInBounds_toArray, List.set_cons_zero, List.set_cons_succ]
                          refine wpAnyH_take (i := 54) (v := undef) rfl (by kernel_rfl) (by kernel_rfl) (by kernel_rfl) (fun _ _ _ h => h) (.inr ⟨by kernel_rfl, rfl⟩) hS ?_
                          simp only [List.getElem_toArray, List.getElem_cons_succ, List.getElem_cons_zero, Act.put, List.setIfInBounds_toArray, List.set_cons_zero, List.set_cons_succ]
                          refine wpAnyH_take (i := 55) (v := undef) rfl (by kernel_rfl) (by kernel_rfl) (by kernel_rfl) (fun _ _ _ h => h) (.inr ⟨by kernel_rfl, rfl⟩) hS ?_
                          simp only [List.getElem_toArray, List.getElem_cons_succ, List.getElem_cons_zero, Act.put, List.setIfInBounds_toArray, List.set_cons_zero, List.set_cons_succ]
                          refine wpAnyH_take (i := 56) (v := undef) rfl (by kernel_rfl) (by kernel_rfl) (by kernel_rfl) (fun _ _ _ h => h) (.inr ⟨by kernel_rfl, rfl⟩) hS ?_
                          simp only [List.getElem_toArray, List.getElem_cons_succ, List.getElem_cons_zero, Act.put, List.setIfInBounds_toArray, List.set_cons_zero, List.set_cons_succ]
                          refine wpAnyH_take (i := 57) (v := undef) rfl (by kernel_rfl) (by kernel_rfl) (by kernel_rfl) (fun _ _ _ h => h) (.inr ⟨by kernel_rfl, rfl⟩) hS ?_
                          simp only [List.getElem_toArray, List.getElem_cons_succ, List.getElem_cons_zero, Act.put, List.setIfInBounds_toArray, List.set_cons_zero, List.set_cons_succ]
                          refine wpAnyH_take (i := 58) (v := ?_) rfl (by kernel_rfl) (by kernel_rfl) (by kernel_rfl) (fun _ _ _ h => h) (.inl ⟨by kernel_rfl, fun w' hS => ?_⟩) hS ?_
                          rotate_left
                          ·
                            skip
                            go_simp
                            try with_reducible rfl
                          simp only [List.getElem_toArray, List.getElem_cons_succ, List.getElem_cons_zero, Act.put, List.setIfInBounds_toArray, List.set_cons_zero, List.set_cons_succ]
                          refine wpAnyH_take (i := 59) (v := ?_) rfl (by kernel_rfl) (by kernel_rfl) (by kernel_rfl) (fun _ _ _ h => h) (.inl ⟨by kernel_rfl, fun w' hS => ?_⟩) hS ?_
                          rotate_left
                          ·
                            skip
                            go_simp
                            try with_reducible rfl
                          simp only [List.getElem_toArray, List.getElem_cons_succ, List.getElem_cons_zero, Act.put, List.setIfInBounds_toArray, List.set_cons_zero, List.set_cons_succ]
                          refine wpAnyH_done (by kernel_rfl) ?_ _
                          clear hS
                          have hbe := Lib.hid (hbd3.trans (hcur.mono hbd3.size))
                          clear zz0 zz1 zz2 zz3 zz4 zz5
                          go_wp2
                          go_roundw
                          case rel => exact ⟨m + 1, hm1.out, by go_num, hbe⟩
                          case measure => have := hm1.out; simp [intOf]; omega
                        · subst hy
                          obtain ⟨gB, oB, kB, boB, nB, tB, xB, lB, aoB, capB, eB, heB, hrB, -, hslB⟩ := la_at hla2.out qb hqb
                          subst eB
                          have hFB : Hid (∀ V, Below V3.heap.size V3 V → V.cell? ⟨w.heap.size, 3, none⟩ = some (.slice (some ⟨b2, o2, none⟩) B.rows.length dr) ∧ V.cell? ⟨p3, 1, none⟩ = some (.slice (some ⟨b3, o3, none⟩) J.rows.length cr3) ∧ V.cell? ⟨b2, o2 + k, none⟩ = some (.slice (some ⟨gB, oB, none⟩) s.length c2) ∧ V.cell? ⟨gB, oB + qb * 6, none⟩ = some (.int .i64 kB) ∧ V.cell? ⟨gB, oB + qb * 6 + 1, none⟩ = some (.bool boB) ∧ V.cell? ⟨gB, oB + qb * 6 + 2, none⟩ = some (.int .i64 nB) ∧ V.cell? ⟨gB, oB + qb * 6 + 3, none⟩ = some (.string tB) ∧ V.cell? ⟨gB, oB + qb * 6 + 4, none⟩ = some (.string xB) ∧ V.cell? ⟨gB, oB + qb * 6 + 5, none⟩ = some (.slice aoB lB.length capB) ∧ V.cell? ⟨w7.heap.size, 0, none⟩ = some (.int .i64 k6) ∧ V.cell? ⟨w7.heap.size, 1, none⟩ = some (.bool bo6) ∧ V.cell? ⟨w7.heap.size, 2, none⟩ = some (.int .i64 n6) ∧ V.cell? ⟨w7.heap.size, 3, none⟩ = some (.string t6) ∧ V.cell? ⟨w7.heap.size, 4, none⟩ = some (.string x6) ∧ V.cell? ⟨w7.heap.size, 5, none⟩ = some (.slice aoE l6.length capE)) := Lib.hid fun V hS => by
                            have hS2 := hbd3.trans (hS.mono hbd3.size)
                            obtain ⟨⟨y0, y1, y2, y3⟩, v0, v1⟩ := hC.out _ hS2
                            obtain ⟨f0, f1, f2, f3, f4, f5⟩ := (hrB.below hS2).six
                            exact ⟨y3, v1, (stay_of_below hS2).cell hc2.out, f0, f1, f2, f3, f4, f5, (stay_of_below hS).cell zz0, (stay_of_below hS).cell zz1, (stay_of_below hS).cell zz2, (stay_of_below hS).cell zz3, (stay_of_below hS).cell zz4, (stay_of_below hS).cell zz5⟩
                          have hqbi : (qb : Int) < (s.length : Int) := by omega
                          have hcB : cellF B.vars s nm = .mk kB boB nB tB xB lB := hrqb.symm.trans heB
                          by_cases hkB : kB = 0
                          · subst hkB
                            refine wpAnyH_take (i := 30) (v := ?_) rfl (by kernel_rfl) (by kernel_rfl) (by kernel_rfl) (fun _ _ _ h => h) (.inl ⟨by kernel_rfl, fun w' hS => ?_⟩) hS ?_
                            rotate_left
                            ·
                              obtain ⟨y1, v1, y4, f0, f1, f2, f3, f4, f5, z0, z1, z2, z3, z4, z5⟩ := hFB.out _ hS
                              go_simp
                              try with_reducible rfl
                            simp only [List.getElem_toArray, List.getElem_cons_succ, List.getElem_cons_zero, Act.put, List.setIfInBounds_toArray, List.set_cons_zero, List.set_cons_succ]
                            refine wpAnyH_take (i := 31) (v := ?_) rfl (by kernel_rfl) (by kernel_rfl) (by kernel_rfl) (fun _ _ _ h => h) (.inl ⟨by kernel_rfl, fun w' hS => ?_⟩) hS ?_
                            rotate_left
                            ·
                              obtain ⟨y1, v1, y4, f0, f1, f2, f3, f4, f5, z0, z1, z2, z3, z4, z5⟩ := hFB.out _ hS
                              go_simp
                              try with_reducible rfl
                            simp only [List.getElem_toArray, List.getElem_cons_succ, List.getElem_cons_zero, Act.put, List.setIfInBounds_toArray, List.set_cons_zero, List.set_cons_succ]
                            refine wpAnyH_take (i := 32) (v := ?_) rfl (by kernel_rfl) (by kernel_rfl) (by kernel_rfl) (fun _ _ _ h => h) (.inl ⟨by kernel_rfl, fun w' hS => ?_⟩) hS ?_
                            rotate_left
                            ·
                              obtain ⟨y1, v1, y4, f0, f1, f2, f3, f4, f5, z0, z1, z2, z3, z4, z5⟩ := hFB.out _ hS
                              go_simp
                              try with_reducible rfl
                            simp only [List.getElem_toArray, List.getElem_cons_succ, List.getElem_cons_zero, Act.put, List.setIfInBounds_toArray, List.set_cons_zero, List.set_cons_succ]
                            refine wpAnyH_take (i := 33) (v := ?_) rfl (by kernel_rfl) (by kernel_rfl) (by kernel_rfl) (fun _ _ _ h => h) (.inl ⟨by kernel_rfl, fun w' hS => ?_⟩) hS ?_
                            rotate_left
                            ·
                              obtain ⟨y1, v1, y4, f0, f1, f2, f3, f4, f5, z0, z1, z2, z3, z4, z5⟩ := hFB.out _ hS
                              go_simp
                              try with_reducible rfl
                            simp only [List.getElem_toArray, List.getElem_cons_succ, List.getElem_cons_zero, Act.put, List.setIfInBounds_toArray, List.set_cons_zero, List.set_cons_succ]
                            refine wpAnyH_take (i := 34) (v := ?_) rfl (by kernel_rfl) (by kernel_rfl) (by kernel_rfl) (fun _ _ _ h => h) (.inl ⟨by kernel_rfl, fun w' hS => ?_⟩) hS ?_
                            rotate_left
                            ·
                              obtain ⟨y1, v1, y4, f0, f1, f2, f3, f4, f5, z0, z1, z2, z3, z4, z5⟩ := hFB.out _ hS
                              go_simp
                              try with_reducible rfl
                            simp only [List.getElem_toArray, List.getElem_cons_succ, List.getElem_cons_zero, Act.put, List.setIfInBounds_toArray, List.set_cons_zero, List.set_cons_succ]
                            refine wpAnyH_take (i := 35) (v := ?_) rfl (by kernel_rfl) (by kernel_rfl) (by kernel_rfl) (fun _ _ _ h => h) (.inl ⟨by kernel_rfl, fun w' hS => ?_⟩) hS ?_
                            rotate_left
                            ·
                              obtain ⟨y1, v1, y4, f0, f1, f2, f3, f4, f5, z0, z1, z2, z3, z4, z5⟩ := hFB.out _ hS
                              go_simp
                              try with_reducible rfl
                            simp only [List.getElem_toArray, List.getElem_cons_succ, List.getElem_cons_zero, Act.put, List.setIfInBounds_toArray, List.set_cons_zero, List.set_cons_succ]
                            refine wpAnyH_take (i := 36) (v := ?_) rfl (by kernel_rfl) (by kernel_rfl) (by kernel_rfl) (fun _ _ _ h => h) (.inl ⟨by kernel_rfl, fun w' hS => ?_⟩) hS ?_
                            rotate_left
                            ·
                              obtain ⟨y1, v1, y4, f0, f1, f2, f3, f4, f5, z0, z1, z2, z3, z4, z5⟩ := hFB.out _ hS
                              go_simp
                              try with_reducible rfl
                            simp only [List.getElem_toArray, List.getElem_cons_succ, List.getElem_cons_zero, Act.put, List.setIfInBounds_toArray, List.set_cons_zero, List.set_cons_succ]
                            refine wpAnyH_take (i := 37) (v := ?_) rfl (by kernel_rfl) (by kernel_rfl) (by kernel_rfl) (fun _ _ _ h => h) (.inl ⟨by kernel_rfl, fun w' hS => ?_⟩) hS ?_
                            rotate_left
                            ·
                              obtain ⟨y1, v1, y4, f0, f1, f2, f3, f4, f5, z0, z1, z2, z3, z4, z5⟩ := hFB.out _ hS
                              go_simp
                              try with_reducible rfl
                            simp only [List.getElem_toArray, List.getElem_cons_succ, List.getElem_cons_zero, Act.put, List.setIfInBounds_toArray, List.set_cons_zero, List.set_cons_succ]
                            refine wpAnyH_take (i := 38) (v := ?_) rfl (by kernel_rfl) (by kernel_rfl) (by kernel_rfl) (fun _ _ _ h => h) (.inl ⟨by kernel_rfl, fun w' hS => ?_⟩) hS ?_
                            rotate_left
                            ·
                              obtain ⟨y1, v1, y4, f0, f1, f2, f3, f4, f5, z0, z1, z2, z3, z4, z5⟩ := hFB.out _ hS
                              go_simp
                              try with_reducible rfl
                            simp only [List.getElem_toArray, List.getElem_cons_succ, List.getElem_cons_zero, Act.put, List.setIfInBounds_toArray, List.set_cons_zero, List.set_cons_succ]
                            refine wpAnyH_take (i := 39) (v := ?_) rfl (by kernel_rfl) (by kernel_rfl) (by kernel_rfl) (fun _ _ _ h => h) (.inl ⟨by kernel_rfl, fun w' hS => ?_⟩) hS ?_
                            rotate_left
                            ·
                              obtain ⟨y1, v1, y4, f0, f1, f2, f3, f4, f5, z0, z1, z2, z3, z4, z5⟩ := hFB.out _ hS
                              go_simp
                              try with_reducible rfl
                            simp only [List.getElem_toArray, List.getElem_cons_succ, List.getElem_cons_zero, Act.put, List.setIfInBounds_toArray, List.set_cons_zero, List.set_cons_succ]
                            refine wpAnyH_take (i := 40) (v := ?_) rfl (by kernel_rfl) (by kernel_rfl) (by kernel_rfl) (fun _ _ _ h => h) (.inl ⟨by kernel_rfl, fun w' hS => ?_⟩) hS ?_
                            rotate_left
                            ·
                              obtain ⟨y1, v1, y4, f0, f1, f2, f3, f4, f5, z0, z1, z2, z3, z4, z5⟩ := hFB.out _ hS
                              go_simp
                              try with_reducible rfl
                            simp only [List.getElem_toArray, List.getElem_cons_succ, List.getElem_cons_zero, Act.put, List.setIfInBounds_toArray, List.set_cons_zero, List.set_cons_succ]
                            refine wpAnyH_take (i := 41) (v := ?_) rfl (by kernel_rfl) (by kernel_rfl) (by kernel_rfl) (fun _ _ _ h => h) (.inl ⟨by kernel_rfl, fun w' hS => ?_⟩) hS ?_
                            rotate_left
                            ·
                              obtain ⟨y1, v1, y4, f0, f1, f2, f3, f4, f5, z0, z1, z2, z3, z4, z5⟩ := hFB.out _ hS
                              go_simp
                              try with_reducible rfl
                            simp only [List.getElem_toArray, List.getElem_cons_succ, List.getElem_cons_zero, Act.put, List.setIfInBounds_toArray, List.set_cons_zero, List.set_cons_succ]
                            refine wpAnyH_take (i := 42) (v := ?_) rfl (by kernel_rfl) (by kernel_rfl) (by kernel_rfl) (fun _ _ _ h => h) (.inl ⟨by kernel_rfl, fun w' hS => ?_⟩) hS ?_
                            rotate_left
                            ·
                              obtain ⟨y1, v1, y4, f0, f1, f2, f3, f4, f5, z0, z1, z2, z3, z4, z5⟩ := hFB.out _ hS
                              go_simp
                              try with_reducible rfl
                            simp only [List.getElem_toArray, List.getElem_cons_succ, List.getElem_cons_zero, Act.put, List.setIfInBounds_toArray, List.set_cons_zero, List.set_cons_succ]
                            refine wpAnyH_take (i := 43) (v := ?_) rfl (by kernel_rfl) (by kernel_rfl) (by kernel_rfl) (fun _ _ _ h => h) (.inl ⟨by kernel_rfl, fun w' hS => ?_⟩) hS ?_
                            rotate_left
                            ·
                              obtain ⟨y1, v1, y4, f0, f1, f2, f3, f4, f5, z0, z1, z2, z3, z4, z5⟩ := hFB.out _ hS
                              go_simp
                              try with_reducible rfl
                            simp only [List.getElem_toArray, List.getElem_cons_succ, List.getElem_cons_zero, Act.put, List.setIfInBounds_toArray, List.set_cons_zero, List.set_cons_succ]
                            refine wpAnyH_take (i := 44) (v := ?_) rfl (by kernel_rfl) (by kernel_rfl) (by kernel_rfl) (fun _ _ _ h => h) (.inl ⟨by kernel_rfl, fun w' hS => ?_⟩) hS ?_
                            rotate_left
                            ·
                              obtain ⟨y1, v1, y4, f0, f1, f2, f3, f4, f5, z0, z1, z2, z3, z4, z5⟩ := hFB.out _ hS
                              go_simp
                              try with_reducible rfl
                            simp only [List.getElem_toArray, List.getElem_cons_succ, List.getElem_cons_zero, Act.put, List.setIfInBounds_toArray, List.set_cons_zero, List.set_cons_succ]
                            refine wpAnyH_take (i := 45) (v := ?_) rfl (by kernel_rfl) (by kernel_rfl) (by kernel_rfl) (fun _ _ _ h => h) (.inl ⟨by kernel_rfl, fun w' hS => ?_⟩) hS ?_
                            rotate_left
                            ·
                              obtain ⟨y1, v1, y4, f0, f1, f2, f3, f4, f5, z0, z1, z2, z3, z4, z5⟩ := hFB.out _ hS
                              go_simp
                              try with_reducible rfl
                            simp only [List.getElem_toArray, List.getElem_cons_succ, List.getElem_cons_zero, Act.put, List.setIfInBounds_toArray, List.set_cons_zero, List.set_cons_succ]
                            refine wpAnyH_take (i := 46) (v := undef) rfl (by kernel_rfl) (by kernel_rfl) (by kernel_rfl) (fun _ _ _ h => h) (.inr ⟨by kernel_rfl, rfl⟩) hS ?_
                            simp only [List.getElem_toArray, List.getElem_cons_succ, List.getElem_cons_zero, Act.put, List.setIfInBounds_toArray, List.set_cons_zero, List.set_cons_succ]
                            refine wpAnyH_take (i := 47) (v := undef) rfl (by kernel_rfl) (by kernel_rfl) (by kernel_rfl) (fun _ _ _ h => h) (.inr ⟨by kernel_rfl, rfl⟩) hS ?_
                            simp only [List.getElem_toArray, List.getElem_cons_succ, List.getElem_cons_zero, Act.put, List.setIfInBounds_toArray, List.set_cons_zero, List.set_cons_succ]
                            refine wpAnyH_take (i := 48) (v := undef) rfl (by kernel_rfl) (by kernel_rfl) (by kernel_rfl) (fun _ _ _ h => h) (.inr ⟨by kernel_rfl, rfl⟩) hS ?_
                            simp only [List.getElem_toArray, List.getElem_cons_succ, List.getElem_cons_zero, Act.put, List.setIfInBounds_toArray, List.set_cons_zero, List.set_cons_succ]
                            refine wpAnyH_take (i := 49) (v := undef) rfl (by kernel_rfl) (by kernel_rfl) (by kernel_rfl) (fun _ _ _ h => h) (.inr ⟨by kernel_rfl, rfl⟩) hS ?_
                            simp only [List.getElem_toArray, List.getElem_cons_succ, List.getElem_cons_zero, Act.put, List.setIfInBounds_toArray, List.set_cons_zero, List.set_cons_succ]
                            refine wpAnyH_take (i := 50) (v := undef) rfl (by kernel_rfl) (by kernel_rfl) (by kernel_rfl) (fun _ _ _ h => h) (.inr ⟨by kernel_rfl, rfl⟩) hS ?_
                            simp only [List.getElem_toArray, List.getElem_cons_succ, List.getElem_cons_zero, Act.put, List.setIfInBounds_toArray, List.set_cons_zero, List.set_cons_succ]
                            refine wpAnyH_take (i := 51) (v := undef) rfl (by kernel_rfl) (by kernel_rfl) (by kernel_rfl) (fun _ _ _ h => h) (.inr ⟨by kernel_rfl, rfl⟩) hS ?_
                            simp only [List.getElem_toArray, List.getElem_cons_succ, List.getElem_cons_zero, Act.put, List.setIfInBounds_toArray, List.set_cons_zero, List.set_cons_succ]
                            refine wpAnyH_take (i := 52) (v := undef) rfl (by kernel_rfl) (by kernel_rfl) (by kernel_rfl) (fun _ _ _ h => h) (.inr ⟨by kernel_rfl, rfl⟩) hS ?_
                            simp only [List.getElem_toArray, List.getElem_cons_succ, List.getElem_cons_zero, Act.put, List.setIfInBounds_toArray, List.set_cons_zero, List.set_cons_succ]
                            refine wpAnyH_take (i := 53) (v := undef) rfl (by kernel_rfl) (by kernel_rfl) (by kernel_rfl) (fun _ _ _ h => h) (.inr ⟨by kernel_rfl, rfl⟩) hS ?_
                            simp only [List.getElem_toArray, List.getElem_cons_succ, List.getElem_cons_zero, Act.put, List.setIfInBounds_toArray, List.set_cons_zero, List.set_cons_succ]
                            refine wpAnyH_take (i := 54) (v := undef) rfl (by kernel_rfl) (by kernel_rfl) (by kernel_rfl) (fun _ _ _ h => h) (.inr ⟨by kernel_rfl, rfl⟩) hS ?_
                            simp only [List.getElem_toArray, List.getElem_cons_succ, List.getElem_cons_zero, Act.put, List.setIfInBounds_toArray, List.set_cons_zero, List.set_cons_succ]
                            refine wpAnyH_take (i := 55) (v := undef) rfl (by kernel_rfl) (by kernel_rfl) (by kernel_rfl) (fun _ _ _ h => h) (.inr ⟨by kernel_rfl, rfl⟩) hS ?_
                            simp only [List.getElem_toArray, List.getElem_cons_succ, List.getElem_cons_zero, Act.put, List.setIfInBounds_toArray, List.set_cons_zero, List.set_cons_succ]
                            refine wpAnyH_take (i := 56) (v := undef) rfl (by kernel_rfl) (by kernel_rfl) (by kernel_rfl) (fun _ _ _ h => h) (.inr ⟨by kernel_rfl, rfl⟩) hS ?_
                            simp only [List.getElem_toArray, List.getElem_cons_succ, List.getElem_cons_zero, Act.put, List.setIfInBounds_toArray, List.set_cons_zero, List.set_cons_succ]
                            refine wpAnyH_take (i := 57) (v := undef) rfl (by kernel_rfl) (by kernel_rfl) (by kernel_rfl) (fun _ _ _ h => h) (.inr ⟨by kernel_rfl, rfl⟩) hS ?_
                            simp only [List.getElem_toArray, List.getElem_cons_succ, List.getElem_cons_zero, Act.put, List.setIfInBounds_toArray, List.set_cons_zero, List.set_cons_succ]
                            refine wpAnyH_take (i := 58) (v := ?_) rfl (by kernel_rfl) (by kernel_rfl) (by kernel_rfl) (fun _ _ _ h => h) (.inl ⟨by kernel_rfl, fun w' hS => ?_⟩) hS ?_
                            rotate_left
                            ·
                              obtain ⟨y1, v1, y4, f0, f1, f2, f3, f4, f5, z0, z1, z2, z3, z4, z5⟩ := hFB.out _ hS
                              go_simp
                              try with_reducible rfl
                            simp only [List.getElem_toArray, List.getElem_cons_succ, List.getElem_cons_zero, Act.put, List.setIfInBounds_toArray, List.set_cons_zero, List.set_cons_succ]
                            refine wpAnyH_take (i := 59) (v := ?_) rfl (by kernel_rfl) (by kernel_rfl) (by kernel_rfl) (fun _ _ _ h => h) (.inl ⟨by kernel_rfl, fun w' hS => ?_⟩) hS ?_
                            rotate_left
                            ·
                              obtain ⟨y1, v1, y4, f0, f1, f2, f3, f4, f5, z0, z1, z2, z3, z4, z5⟩ := hFB.out _ hS
                              go_simp
                              try with_reducible rfl
                            simp only [List.getElem_toArray, List.getElem_cons_succ, List.getElem_cons_zero, Act.put, List.setIfInBounds_toArray, List.set_cons_zero, List.set_cons_succ]
                            refine wpAnyH_done (by kernel_rfl) ?_ _
                            clear hS
                            have hbe := Lib.hid (hbd3.trans (hcur.mono hbd3.size))
                            clear zz0 zz1 zz2 zz3 zz4 zz5
                            go_wp2
                            go_roundw
                            case rel => exact ⟨m + 1, hm1.out, by go_num, hbe⟩
                            case measure => have := hm1.out; simp [intOf]; omega
                          · have hkBb : (kB != 0) = true := by simpa using hkB
                            have hsmB : sameP (.mk k6 bo6 n6 t6 x6 l6) (.mk kB boB nB tB xB lB) = true := (sameP_iff _ _).2 (by rw [hxm.out, ← hcB]; exact hnB.out (by rw [hcB]; exact decide_eq_false hkB))
                            have hcalB := fun V (h : Below V3.heap.size V3 V) => rsame_call 1048576 (by omega) V k6 bo6 n6 t6 x6 _ l6 kB boB nB tB xB _ lB (hsl6.out.stay (hbd3.trans (h.mono hbd3.size))) (hslB.stay (hbd3.trans (h.mono hbd3.size)))
                            rw [hsmB] at hcalB
                            unfold agg6 at hcalB
                            replace hcalB := Lib.hid hcalB
                            clear hsmB
                            refine wpAnyH_take (i := 30) (v := ?_) rfl (by kernel_rfl) (by kernel_rfl) (by kernel_rfl) (fun _ _ _ h => h) (.inl ⟨by kernel_rfl, fun w' hS => ?_⟩) hS ?_
                            rotate_left
                            ·
                              obtain ⟨y1, v1, y4, f0, f1, f2, f3, f4, f5, z0, z1, z2, z3, z4, z5⟩ := hFB.out _ hS
                              go_simp
                              try with_reducible rfl
                            simp only [List.getElem_toArray, List.getElem_cons_succ, List.getElem_cons_zero, Act.put, List.setIfInBounds_toArray, List.set_cons_zero, List.set_cons_succ]
                            refine wpAnyH_take (i := 31) (v := ?_) rfl (by kernel_rfl) (by kernel_rfl) (by kernel_rfl) (fun _ _ _ h => h) (.inl ⟨by kernel_rfl, fun w' hS => ?_⟩) hS ?_
                            rotate_left
                            ·
                              obtain ⟨y1, v1, y4, f0, f1, f2, f3, f4, f5, z0, z1, z2, z3, z4, z5⟩ := hFB.out _ hS
                              go_simp
                              try with_reducible rfl
                            simp only [List.getElem_toArray, List.getElem_cons_succ, List.getElem_cons_zero, Act.put, List.setIfInBounds_toArray, List.set_cons_zero, List.set_cons_succ]
                            refine wpAnyH_take (i := 32) (v := ?_) rfl (by kernel_rfl) (by kernel_rfl) (by kernel_rfl) (fun _ _ _ h => h) (.inl ⟨by kernel_rfl, fun w' hS => ?_⟩) hS ?_
                            rotate_left
                            ·
                              obtain ⟨y1, v1, y4, f0, f1, f2, f3, f4, f5, z0, z1, z2, z3, z4, z5⟩ := hFB.out _ hS
                              go_simp
                              try with_reducible rfl
                            simp only [List.getElem_toArray, List.getElem_cons_succ, List.getElem_cons_zero, Act.put, List.setIfInBounds_toArray, List.set_cons_zero, List.set_cons_succ]
                            refine wpAnyH_take (i := 33) (v := ?_) rfl (by kernel_rfl) (by kernel_rfl) (by kernel_rfl) (fun _ _ _ h => h) (.inl ⟨by kernel_rfl, fun w' hS => ?_⟩) hS ?_
                            rotate_left
                            ·
                              obtain ⟨y1, v1, y4, f0, f1, f2, f3, f4, f5, z0, z1, z2, z3, z4, z5⟩ := hFB.out _ hS
                              go_simp
                              try with_reducible rfl
                            simp only [List.getElem_toArray, List.getElem_cons_succ, List.getElem_cons_zero, Act.put, List.setIfInBounds_toArray, List.set_cons_zero, List.set_cons_succ]
                            refine wpAnyH_take (i := 34) (v := ?_) rfl (by kernel_rfl) (by kernel_rfl) (by kernel_rfl) (fun _ _ _ h => h) (.inl ⟨by kernel_rfl, fun w' hS => ?_⟩) hS ?_
                            rotate_left
                            ·
                              obtain ⟨y1, v1, y4, f0, f1, f2, f3, f4, f5, z0, z1, z2, z3, z4, z5⟩ := hFB.out _ hS
                              go_simp
                              try with_reducible rfl
                            simp only [List.getElem_toArray, List.getElem_cons_succ, List.getElem_cons_zero, Act.put, List.setIfInBounds_toArray, List.set_cons_zero, List.set_cons_succ]
                            refine wpAnyH_take (i := 35) (v := ?_) rfl (by kernel_rfl) (by kernel_rfl) (by kernel_rfl) (fun _ _ _ h => h) (.inl ⟨by kernel_rfl, fun w' hS => ?_⟩) hS ?_
                            rotate_left
                            ·
                              obtain ⟨y1, v1, y4, f0, f1, f2, f3, f4, f5, z0, z1, z2, z3, z4, z5⟩ := hFB.out _ hS
                              go_simp
                              try with_reducible rfl
                            simp only [List.getElem_toArray, List.getElem_cons_succ, List.getElem_cons_zero, Act.put, List.setIfInBounds_toArray, List.set_cons_zero, List.set_cons_succ]
                            refine wpAnyH_take (i := 36) (v := ?_) rfl (by kernel_rfl) (by kernel_rfl) (by kernel_rfl) (fun _ _ _ h => h) (.inl ⟨by kernel_rfl, fun w' hS => ?_⟩) hS ?_
                            rotate_left
                            ·
                              obtain ⟨y1, v1, y4, f0, f1, f2, f3, f4, f5, z0, z1, z2, z3, z4, z5⟩ := hFB.out _ hS
                              go_simp
                              try with_reducible rfl
                            simp only [List.getElem_toArray, List.getElem_cons_succ, List.getElem_cons_zero, Act.put, List.setIfInBounds_toArray, List.set_cons_zero, List.set_cons_succ]
                            refine wpAnyH_take (i := 37) (v := ?_) rfl (by kernel_rfl) (by kernel_rfl) (by kernel_rfl) (fun _ _ _ h => h) (.inl ⟨by kernel_rfl, fun w' hS => ?_⟩) hS ?_
                            rotate_left
                            ·
                              obtain ⟨y1, v1, y4, f0, f1, f2, f3, f4, f5, z0, z1, z2, z3, z4, z5⟩ := hFB.out _ hS
                              go_simp
                              try with_reducible rfl
                            simp only [List.getElem_toArray, List.getElem_cons_succ, List.getElem_cons_zero, Act.put, List.setIfInBounds_toArray, List.set_cons_zero, List.set_cons_succ]
                            refine wpAnyH_take (i := 38) (v := ?_) rfl (by kernel_rfl) (by kernel_rfl) (by kernel_rfl) (fun _ _ _ h => h) (.inl ⟨by kernel_rfl, fun w' hS => ?_⟩) hS ?_
                            rotate_left
                            ·
                              obtain ⟨y1, v1, y4, f0, f1, f2, f3, f4, f5, z0, z1, z2, z3, z4, z5⟩ := hFB.out _ hS
                              go_simp
                              try with_reducible rfl
                            simp only [List.getElem_toArray, List.getElem_cons_succ, List.getElem_cons_zero, Act.put, List.setIfInBounds_toArray, List.set_cons_zero, List.set_cons_succ]
                            refine wpAnyH_take (i := 39) (v := ?_) rfl (by kernel_rfl) (by kernel_rfl) (by kernel_rfl) (fun _ _ _ h => h) (.inl ⟨by kernel_rfl, fun w' hS => ?_⟩) hS ?_
                            rotate_left
                            ·
                              obtain ⟨y1, v1, y4, f0, f1, f2, f3, f4, f5, z0, z1, z2, z3, z4, z5⟩ := hFB.out _ hS
                              go_simp
                              try with_reducible rfl
                            simp only [List.getElem_toArray, List.getElem_cons_succ, List.getElem_cons_zero, Act.put, List.setIfInBounds_toArray, List.set_cons_zero, List.set_cons_succ]
                            refine wpAnyH_take (i := 40) (v := ?_) rfl (by kernel_rfl) (by kernel_rfl) (by kernel_rfl) (fun _ _ _ h => h) (.inl ⟨by kernel_rfl, fun w' hS => ?_⟩) hS ?_
                            rotate_left
                            ·
                              obtain ⟨y1, v1, y4, f0, f1, f2, f3, f4, f5, z0, z1, z2, z3, z4, z5⟩ := hFB.out _ hS
                              go_simp
                              try with_reducible rfl
                            simp only [List.getElem_toArray, List.getElem_cons_succ, List.getElem_cons_zero, Act.put, List.setIfInBounds_toArray, List.set_cons_zero, List.set_cons_succ]
                            refine wpAnyH_take (i := 41) (v := ?_) rfl (by kernel_rfl) (by kernel_rfl) (by kernel_rfl) (fun _ _ _ h => h) (.inl ⟨by kernel_rfl, fun w' hS => ?_⟩) hS ?_
                            rotate_left
                            ·
                              obtain ⟨y1, v1, y4, f0, f1, f2, f3, f4, f5, z0, z1, z2, z3, z4, z5⟩ := hFB.out _ hS
                              go_simp
                              try with_reducible rfl
                            simp only [List.getElem_toArray, List.getElem_cons_succ, List.getElem_cons_zero, Act.put, List.setIfInBounds_toArray, List.set_cons_zero, List.set_cons_succ]
                            refine wpAnyH_take (i := 42) (v := ?_) rfl (by kernel_rfl) (by kernel_rfl) (by kernel_rfl) (fun _ _ _ h => h) (.inl ⟨by kernel_rfl, fun w' hS => ?_⟩) hS ?_
                            rotate_left
                            ·
                              obtain ⟨y1, v1, y4, f0, f1, f2, f3, f4, f5, z0, z1, z2, z3, z4, z5⟩ := hFB.out _ hS
                              go_simp
                              try with_reducible rfl
                            simp only [List.getElem_toArray, List.getElem_cons_succ, List.getElem_cons_zero, Act.put, List.setIfInBounds_toArray, List.set_cons_zero, List.set_cons_succ]
                            refine wpAnyH_take (i := 43) (v := ?_) rfl (by kernel_rfl) (by kernel_rfl) (by kernel_rfl) (fun _ _ _ h => h) (.inl ⟨by kernel_rfl, fun w' hS => ?_⟩) hS ?_
                            rotate_left
                            ·
                              obtain ⟨y1, v1, y4, f0, f1, f2, f3, f4, f5, z0, z1, z2, z3, z4, z5⟩ := hFB.out _ hS
                              go_simp
                              try with_reducible rfl
                            simp only [List.getElem_toArray, List.getElem_cons_succ, List.getElem_cons_zero, Act.put, List.setIfInBounds_toArray, List.set_cons_zero, List.set_cons_succ]
                            refine wpAnyH_take (i := 44) (v := ?_) rfl (by kernel_rfl) (by kernel_rfl) (by kernel_rfl) (fun _ _ _ h => h) (.inl ⟨by kernel_rfl, fun w' hS => ?_⟩) hS ?_
                            rotate_left
                            ·
                              obtain ⟨y1, v1, y4, f0, f1, f2, f3, f4, f5, z0, z1, z2, z3, z4, z5⟩ := hFB.out _ hS
                              go_simp
                              try with_reducible rfl
                            simp only [List.getElem_toArray, List.getElem_cons_succ, List.getElem_cons_zero, Act.put, List.setIfInBounds_toArray, List.set_cons_zero, List.set_cons_succ]
                            refine wpAnyH_take (i := 45) (v := ?_) rfl (by kernel_rfl) (by kernel_rfl) (by kernel_rfl) (fun _ _ _ h => h) (.inl ⟨by kernel_rfl, fun w' hS => ?_⟩) hS ?_
                            rotate_left
                            ·
                              obtain ⟨y1, v1, y4, f0, f1, f2, f3, f4, f5, z0, z1, z2, z3, z4, z5⟩ := hFB.out _ hS
                              go_simp
                              try with_reducible rfl
                            simp only [List.getElem_toArray, List.getElem_cons_succ, List.getElem_cons_zero, Act.put, List.setIfInBounds_toArray, List.set_cons_zero, List.set_cons_succ]
                            refine wpAnyH_take (i := 46) (v := ?_) rfl (by kernel_rfl) (by kernel_rfl) (by kernel_rfl) (fun _ _ _ h => h) (.inl ⟨by kernel_rfl, fun w' hS => ?_⟩) hS ?_
                            rotate_left
                            ·
                              obtain ⟨y1, v1, y4, f0, f1, f2, f3, f4, f5, z0, z1, z2, z3, z4, z5⟩ := hFB.out _ hS
                              go_simp
                              try with_reducible rfl
                            simp only [List.getElem_toArray, List.getElem_cons_succ, List.getElem_cons_zero, Act.put, List.setIfInBounds_toArray, List.set_cons_zero, List.set_cons_succ]
                            refine wpAnyH_take (i := 47) (v := ?_) rfl (by kernel_rfl) (by kernel_rfl) (by kernel_rfl) (fun _ _ _ h => h) (.inl ⟨by kernel_rfl, fun w' hS => ?_⟩) hS ?_
                            rotate_left
                            ·
                              obtain ⟨y1, v1, y4, f0, f1, f2, f3, f4, f5, z0, z1, z2, z3, z4, z5⟩ := hFB.out _ hS
                              go_simp
                              try with_reducible rfl
                            simp only [List.getElem_toArray, List.getElem_cons_succ, List.getElem_cons_zero, Act.put, List.setIfInBounds_toArray, List.set_cons_zero, List.set_cons_succ]
                            refine wpAnyH_take (i := 48) (v := ?_) rfl (by kernel_rfl) (by kernel_rfl) (by kernel_rfl) (fun _ _ _ h => h) (.inl ⟨by kernel_rfl, fun w' hS => ?_⟩) hS ?_
                            rotate_left
                            ·
                              obtain ⟨y1, v1, y4, f0, f1, f2, f3, f4, f5, z0, z1, z2, z3, z4, z5⟩ := hFB.out _ hS
                              go_simp
                              try with_reducible rfl
                            simp only [List.getElem_toArray, List.getElem_cons_succ, List.getElem_cons_zero, Act.put, List.setIfInBounds_toArray, List.set_cons_zero, List.set_cons_succ]
                            refine wpAnyH_take (i := 49) (v := ?_) rfl (by kernel_rfl) (by kernel_rfl) (by kernel_rfl) (fun _ _ _ h => h) (.inl ⟨by kernel_rfl, fun w' hS => ?_⟩) hS ?_
                            rotate_left
                            ·
                              obtain ⟨y1, v1, y4, f0, f1, f2, f3, f4, f5, z0, z1, z2, z3, z4, z5⟩ := hFB.out _ hS
                              go_simp
                              try with_reducible rfl
                            simp only [List.getElem_toArray, List.getElem_cons_succ, List.getElem_cons_zero, Act.put, List.setIfInBounds_toArray, List.set_cons_zero, List.set_cons_succ]
                            refine wpAnyH_take (i := 50) (v := ?_) rfl (by kernel_rfl) (by kernel_rfl) (by kernel_rfl) (fun _ _ _ h => h) (.inl ⟨by kernel_rfl, fun w' hS => ?_⟩) hS ?_
                            rotate_left
                            ·
                              obtain ⟨y1, v1, y4, f0, f1, f2, f3, f4, f5, z0, z1, z2, z3, z4, z5⟩ := hFB.out _ hS
                              go_simp
                              try with_reducible rfl
                            simp only [List.getElem_toArray, List.getElem_cons_succ, List.getElem_cons_zero, Act.put, List.setIfInBounds_toArray, List.set_cons_zero, List.set_cons_succ]
                            refine wpAnyH_take (i := 51) (v := ?_) rfl (by kernel_rfl) (by kernel_rfl) (by kernel_rfl) (fun _ _ _ h => h) (.inl ⟨by kernel_rfl, fun w' hS => ?_⟩) hS ?_
                            rotate_left
                            ·
                              obtain ⟨y1, v1, y4, f0, f1, f2, f3, f4, f5, z0, z1, z2, z3, z4, z5⟩ := hFB.out _ hS
                              go_simp
                              try with_reducible rfl
                            simp only [List.getElem_toArray, List.getElem_cons_succ, List.getElem_cons_zero, Act.put, List.setIfInBounds_toArray, List.set_cons_zero, List.set_cons_succ]
                            refine wpAnyH_take (i := 52) (v := ?_) rfl (by kernel_rfl) (by kernel_rfl) (by kernel_rfl) (fun _ _ _ h => h) (.inl ⟨by kernel_rfl, fun w' hS => ?_⟩) hS ?_
                            rotate_left
                            ·
                              obtain ⟨y1, v1, y4, f0, f1, f2, f3, f4, f5, z0, z1, z2, z3, z4, z5⟩ := hFB.out _ hS
                              go_simp
                              try with_reducible rfl
                            simp only [List.getElem_toArray, List.getElem_cons_succ, List.getElem_cons_zero, Act.put, List.setIfInBounds_toArray, List.set_cons_zero, List.set_cons_succ]
                            refine wpAnyH_take (i := 53) (v := ?_) rfl (by kernel_rfl) (by kernel_rfl) (by kernel_rfl) (fun _ _ _ h => h) (.inl ⟨by kernel_rfl, fun w' hS => ?_⟩) hS ?_
                            rotate_left
                            ·
                              obtain ⟨y1, v1, y4, f0, f1, f2, f3, f4, f5, z0, z1, z2, z3, z4, z5⟩ := hFB.out _ hS
                              go_simp
                              try with_reducible rfl
                            simp only [List.getElem_toArray, List.getElem_cons_succ, List.getElem_cons_zero, Act.put, List.setIfInBounds_toArray, List.set_cons_zero, List.set_cons_succ]
                            refine wpAnyH_take (i := 54) (v := ?_) rfl (by kernel_rfl) (by kernel_rfl) (by kernel_rfl) (fun _ _ _ h => h) (.inl ⟨by kernel_rfl, fun w' hS => ?_⟩) hS ?_
                            rotate_left
                            ·
                              obtain ⟨y1, v1, y4, f0, f1, f2, f3, f4, f5, z0, z1, z2, z3, z4, z5⟩ := hFB.out _ hS
                              go_simp
                              try with_reducible rfl
                            simp only [List.getElem_toArray, List.getElem_cons_succ, List.getElem_cons_zero, Act.put, List.setIfInBounds_toArray, List.set_cons_zero, List.set_cons_succ]
                            refine wpAnyH_take (i := 55) (v := ?_) rfl (by kernel_rfl) (by kernel_rfl) (by kernel_rfl) (fun _ _ _ h => h) (.inl ⟨by kernel_rfl, fun w' hS => ?_⟩) hS ?_
                            rotate_left
                            ·
                              obtain ⟨y1, v1, y4, f0, f1, f2, f3, f4, f5, z0, z1, z2, z3, z4, z5⟩ := hFB.out _ hS
                              go_simp
                              try with_reducible rfl
                            simp only [List.getElem_toArray, List.getElem_cons_succ, List.getElem_cons_zero, Act.put, List.setIfInBounds_toArray, List.set_cons_zero, List.set_cons_succ]
                            refine wpAnyH_ready (rs := [56]) (by kernel_rfl) (by simp) ?_
                            refine AllReadyH.cons rfl (fun K hK => ?_) AllReadyH.nil
                            clear hS
                            go_simp
                            refine (hcalB.out _ hcur).mono ?_
                            rintro e w22 ⟨rfl, hb22⟩
                            go_wp2_with fail
                            refine hK.out _ _ (hcur.trans (hb22.mono hcur.size)) (fun hS => ?_)
                            clear hK K
                            try simp only [List.getElem_toArray, List.getElem_cons_succ, List.getElem_cons_zero, Act.put, List.setIfInBounds_toArray, List.set_cons_zero, List.set_cons_succ]
                            have hcur2 := hcur.trans (hb22.mono hcur.size)
                            refine wpAnyH_take (i := 57) (v := ?_) rfl (by kernel_rfl) (by kernel_rfl) (by kernel_rfl) (fun _ _ _ h => h) (.inl ⟨by kernel_rfl, fun w' hS => ?_⟩) hS ?_
                            rotate_left
                            ·
                              skip
                              go_simp
                              try with_reducible rfl
                            simp only [List.getElem_toArray, List.getElem_cons_succ, List.getElem_cons_zero, Act.put, List.setIfInBounds_toArray, List.set_cons_zero, List.set_cons_succ]
                            refine wpAnyH_take (i := 58) (v := ?_) rfl (by kernel_rfl) (by kernel_rfl) (by kernel_rfl) (fun _ _ _ h => h) (.inl ⟨by kernel_rfl, fun w' hS => ?_⟩) hS ?_
                            rotate_left
                            ·
                              skip
                              go_simp
                              try with_reducible rfl
                            simp only [List.getElem_toArray, List.getElem_cons_succ, List.getElem_cons_zero, Act.put, List.setIfInBounds_toArray, List.set_cons_zero, List.set_cons_succ]
                            refine wpAnyH_take (i := 59) (v := ?_) rfl (by kernel_rfl) (by kernel_rfl) (by kernel_rfl) (fun _ _ _ h => h) (.inl ⟨by kernel_rfl, fun w' hS => ?_⟩) hS ?_
                            rotate_left
                            ·
                              skip
                              go_simp
                              try with_reducible rfl
                            simp only [List.getElem_toArray, List.getElem_cons_succ, List.getElem_cons_zero, Act.put, List.setIfInBounds_toArray, List.set_cons_zero, List.set_cons_succ]
                            refine wpAnyH_done (by kernel_rfl) ?_ _
                            clear hS
                            have hbe := Lib.hid (hbd3.trans (hcur2.mono hbd3.size))
                            clear zz0 zz1 zz2 zz3 zz4 zz5
                            go_wp2
                            go_roundw
                            case rel => exact ⟨m + 1, hm1.out, by go_num, hbe⟩
                            case measure => have := hm1.out; simp [intOf]; omega
                  · have hmi : ¬ (m : Int) < (J.vars.length : Int) := by omega
                    clear x1 x2 x3 u1
                    go_wp2
                    go_roundw
                    case rel => exact ⟨k + 1, hk1.out, by go_num, by rw [hel.out]; go_num, hb⟩
                    case measure => have := hk1.out; simp [intOf]; omega
          · have hkk : ¬ (k : Int) < (B.rows.length : Int) := by omega
            obtain rfl : k = B.rows.length := by omega
            clear x0 x1 x2 u0 u1
            go_wp2
            go_roundw
            case rel => exact ⟨i + 1, hi1.out, by go_num, by rw [hnext.out], hb⟩
            case measure => have := hi1.out; simp [intOf]; omega
      · have hki : ¬ (i : Int) < (A.rows.length : Int) := by omega
        obtain rfl : i = A.rows.length := by omega
        rw [rowsIJ_end, ← hJr2.out]
        have hfin := Lib.hid (hBz.out.trans (hb.out.mono hBz.out.size))
        clear x0 x2 x3 u0
        go_wp2_with fail
        refine (wakes9_any _ (hEz.out _ hb.out)).mono ?_
        rintro e wz ⟨rfl, hbz⟩
        have hbzz := Lib.hid (hfin.out.trans (hbz.mono hfin.out.size))
        clear hbz
        go_wp2
        go_ret
        exact ⟨rfl, hbzz.out⟩
end Go.Proofs.YtjpondgobogkeaaGreatDoor.tab
