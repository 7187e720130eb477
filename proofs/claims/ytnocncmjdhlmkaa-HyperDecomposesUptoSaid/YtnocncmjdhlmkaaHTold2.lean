/- The contract of told. -/
import Derived.Test.YtnocncmjdhlmkaaHTold
namespace Go.Proofs.Ytnocncmjdhlmkaa.hyp
open Go.ChangeShapes Go.WideShapes Go.ChangeAt Go.RowKit kit
set_option linter.unusedVariables false
set_option linter.unusedSimpArgs false
def namesOf (ns : List ByteArray) (L : List Nat) : List ByteArray := L.map fun i => ns.getD i ByteArray.empty
/-- A bag that has been told. -/
def ToldOut (w : World) (mb : Nat) (ns : List ByteArray) (ms : List Nat) (s : Nat) (p : Int) (e : Ending) (w' : World) : Prop :=
  ∃ vv ve, e = .returned (.agg #[vv, ve, .int .i64 p]) ∧ Keep [mb] w w' ∧ KN w' mb ms ∧ w'.ownsRow (w.heap.size + 2) 9 1 vv (bits s).length (textsV (namesOf ns (bits s))) ∧ w'.ownsRow (w.heap.size + 2) 3 1 ve (bits (coverN ms s)).length (natsV (bits (coverN ms s)))
theorem infoInt : (Try.prog.info? 3).map (fun i => (i.zero, i.size, i.bytes)) = some (some (.int .i64 0), 1, 8) := by kernel_rfl
theorem infoB3 : (Try.prog.info? 45).map (·.size) = some 3 := by kernel_rfl
theorem own_low {w : World} {B : Nat} {e : TypeId} {v : Value} {n : Nat} {xs : List Value} (h : w.ownsRow B e 1 v n xs) {b : Nat} (hb : b < B) (i : Nat) (u : Value) : (w.setCell ⟨b, i, none⟩ u).ownsRow B e 1 v n xs :=
  h.kept (row := some b) ⟨rfl, rfl, rfl, by simp, fun j _ hj => Below.heap_setCell _ _ _ _ (fun e => hj (by simp [e]))⟩ (.inr fun e => by have := (h.lt b e).1; omega)
theorem KN.setAt {w : World} {mb : Nat} {ms : List Nat} (h : KN w mb ms) {b : Nat} (hb : mb ≠ b) (i : Nat) (u : Value) : KN (w.setCell ⟨b, i, none⟩ u) mb ms := h.same (Below.heap_setCell _ _ _ _ hb)
set_option maxRecDepth 100000 in
set_option maxHeartbeats 8000000 in
theorem told_any (w : World) (gb mb : Nat) (ns : List ByteArray) (ms : List Nat) (hG : GM w gb mb ns ms) (s : Nat) (hs : s < 65536) (hsn : ∀ i ∈ bits s, i < ns.length) (p : Int) :
    Calls Try.prog 47 #[.pointer (some ⟨gb, 0, none⟩), .int .u16 s, .int .i64 p] w fun e w' => ToldOut w mb ns ms s p e w' := by
  obtain ⟨i0, hi, hz0, hz1, hz2⟩ := info_parts infoStr
  obtain ⟨i1, hi1, hy0, hy1, hy2⟩ := info_parts infoInt
  replace hi := Lib.hid hi
  replace hz0 := Lib.hid hz0
  replace hz1 := Lib.hid hz1
  replace hz2 := Lib.hid hz2
  replace hi1 := Lib.hid hi1
  replace hy0 := Lib.hid hy0
  replace hy1 := Lib.hid hy1
  replace hy2 := Lib.hid hy2
  have hT0 : TS w ((w.alloc (.cells #[.slice none 0 0, .slice none 0 0, .int .i64 0] 45)).alloc (.cells #[.slice none 0 0, .slice none 0 0, .int .i64 p] 45)) gb mb ns ms (.slice none 0 0) (.slice none 0 0) p [] [] := by
    refine ⟨((Keep.refl [mb] w).alloc _).alloc _, hG, (hG.known.same (Below.heap_alloc _ _ _ hG.known.lt)).same (Below.heap_alloc _ _ _ (by rw [World.size_alloc]; have := hG.known.lt; omega)), (Blk.new w _ _).alloc _, ?_, World.ownsRow_nil _ _ _ _, World.ownsRow_nil _ _ _ _⟩
    have := Blk.new (w.alloc (.cells #[.slice none 0 0, .slice none 0 0, .int .i64 0] 45)) #[.slice none 0 0, .slice none 0 0, .int .i64 p] 45
    rw [World.size_alloc] at this
    exact this
  have hL16 := bits_le s
  have hC16 := bits_le (coverN ms s)
  have hli := Lib.hid (fun V => list_v s V hs)
  have hcv := Lib.hid (fun V (h : GM V gb mb ns ms) => cover_any V gb mb ns ms h s hs)
  have hle := Lib.hid (fun V => list_e (coverN ms s) V (by have := coverN_lt ms s; have := pow_le8 hG.hlen; omega))
  have hn12 := hG.hns
  replace hT0 := Lib.hid hT0
  clear hG
  have hpost : Hid (∀ vv ve e w', e = .returned (.agg #[vv, ve, .int .i64 p]) → Keep [mb] w w' → KN w' mb ms → w'.ownsRow (w.heap.size + 2) 9 1 vv (bits s).length (textsV (namesOf ns (bits s))) → w'.ownsRow (w.heap.size + 2) 3 1 ve (bits (coverN ms s)).length (natsV (bits (coverN ms s))) → ToldOut w mb ns ms s p e w') :=
    Lib.hid fun vv ve e w' h1 h2 h3 h4 h5 => ⟨vv, ve, h1, h2, h3, h4, h5⟩
  have hnm : ∀ k, k < (bits s).length → namesOf ns ((bits s).take (k + 1)) = namesOf ns ((bits s).take k) ++ [ns.getD ((bits s).getD k 0) ByteArray.empty] := fun k hk => by
    unfold namesOf
    rw [List.take_succ_eq_append_getElem hk, List.map_append, List.getD_eq_getElem?_getD (l := bits s), List.getElem?_eq_getElem hk]
    rfl
  go_enter Try.func47, Try.ntmps47
  go_wp2_with fail
  generalize ((w.alloc (.cells #[.slice none 0 0, .slice none 0 0, .int .i64 0] 45)).alloc (.cells #[.slice none 0 0, .slice none 0 0, .int .i64 p] 45)) = w1 at *
  refine (hli.out w1).mono ?_
  rintro e w2 ⟨lv, rfl, hlv⟩
  have hT1 := Lib.hid (hT0.out.below hlv.below)
  obtain ⟨al, cl, rfl⟩ := hlv.form
  rw [natsV_length] at hlv ⊢
  have hol : Hid (w2.ownsRow w1.heap.size 64 1 (.slice al (bits s).length cl) (natsV (bits s)).length (natsV (bits s))) := Lib.hid hlv.own
  clear hlv hT0
  generalize hbs : bits s = L at *
  replace hbs := Lib.hid hbs
  go_wp2
  go_loopw [17] (fun i wr => ∃ k : Nat, k ≤ L.length ∧ i = .int .i64 (k : Int) ∧ Hid (wr.ownsRow w1.heap.size 64 1 (.slice al L.length cl) (natsV L).length (natsV L)) ∧ Hid (∃ vv, TS w wr gb mb ns ms vv (.slice none 0 0) p (textsV (namesOf ns (L.take k))) [])) (fun i _ => L.length - (intOf i).toNat)
  case atStart => exact ⟨0, by omega, rfl, hol, Lib.hid ⟨_, hT1.out⟩⟩
  case round =>
    clear hol hT1
    obtain ⟨k, hk, rfl, hol, hex⟩ := hrel
    obtain ⟨vv, hT⟩ := hex.out
    clear hex
    by_cases hlt : k < L.length
    · have hki : (k : Int) < (L.length : Int) := by omega
      have hk1 := Lib.hid (show k + 1 ≤ L.length from hlt)
      obtain ⟨bl, rfl, hck⟩ := own_at hol.out (j := k) (by simpa using hlt)
      replace hck : wr.cell? ⟨bl, k, none⟩ = some (.int .i64 ((L.getD k 0 : Nat) : Int)) := by
        rw [hck, List.getD_eq_getElem?_getD, List.getElem?_eq_getElem hlt]
        simp [natsV]
      have hjn : L.getD k 0 < ns.length := hsn _ (by rw [List.getD_eq_getElem?_getD, List.getElem?_eq_getElem hlt]; exact List.getElem_mem hlt)
      have hnk := hnm k hlt
      generalize L.getD k 0 = j at *
      obtain ⟨an, cn, ae, ce, hgb0, hnc, -⟩ := hT.g0.cells
      obtain ⟨bn, offn, rfl, hbn, hcn0⟩ := hnc j hjn
      have hst := stay_of_keep hT.keep (fun x hx => by simp at hx; rw [hx]; exact hT.g0.known.isMap)
      have hgb := hst.blk hgb0
      have hcn := hst.cell hcn0
      have hgx : ns.getD j ByteArray.empty = ns[j] := by rw [List.getD_eq_getElem?_getD, List.getElem?_eq_getElem hjn]; rfl
      rw [hgx] at hnk
      have hji : (j : Int) < (ns.length : Int) := by omega
      generalize ns[j] = x at *
      have hgn : gb < w.heap.size := hgb0.lt
      obtain ⟨av, cvv, rfl, -, -⟩ := (own_row hT.ov : RowA wr _ vv _).form
      have hXl : (textsV (namesOf ns (L.take k))).length ≤ 16 := by
        rw [textsV_length]
        unfold namesOf
        rw [List.length_map, List.length_take]
        omega
      have hXs : textsV (namesOf ns (L.take (k + 1))) = textsV (namesOf ns (L.take k)) ++ [.string x] := by rw [hnk]; simp [textsV]
      generalize textsV (namesOf ns (L.take k)) = X at *
      generalize hX2 : textsV (namesOf ns (L.take (k + 1))) = X2 at *
      replace hX2 := Lib.hid hX2
      replace hXs := Lib.hid hXs
      have hXn := Lib.hid hXl
      have hS0 : Blk wr.drew (w.heap.size + 1) #[.slice av X.length cvv, (.slice none 0 0), .int .i64 p] 45 ∧ Blk wr.drew gb #[.slice (some ⟨bn, offn, none⟩) ns.length cn, .slice ae ms.length ce, .map (some mb)] 63 ∧ wr.drew.cell? ⟨bn, offn + j, none⟩ = some (.string x) := ⟨hT.q1, hgb, hcn⟩
      have hT2 := Lib.hid (hT.below (w' := wr.drew) ⟨rfl, rfl, rfl, Nat.le_refl _, fun _ _ => rfl⟩)
      have hol2 : Hid (wr.drew.ownsRow w1.heap.size 64 1 (.slice (some ⟨bl, 0, none⟩) L.length cl) (natsV L).length (natsV L)) := hol
      replace hgn := Lib.hid hgn
      replace hbn := Lib.hid hbn
      clear hnc hgb0 hcn0 hst hgb hcn hT hol hnk hgx
      go_upto_region 5 with (fail)
      refine wp_region_late [12] (S := fun V => Blk V (w.heap.size + 1) #[.slice av X.length cvv, (.slice none 0 0), .int .i64 p] 45 ∧ Blk V gb #[.slice (some ⟨bn, offn, none⟩) ns.length cn, .slice ae ms.length ce, .map (some mb)] 63 ∧ V.cell? ⟨bn, offn + j, none⟩ = some (.string x)) (by kernel_rfl) hS0 (fun hS => ?_)
      have hV := hS0
      clear hS0
      generalize wr.drew = V0 at *
      clear hck
      refine wpAnyL_take (i := 0) (v := ?_) rfl (by kernel_rfl) (by kernel_rfl) (by kernel_rfl) (by kernel_rfl) (by kernel_rfl) (fun _ _ _ h => h) (.inl ⟨by kernel_rfl, fun w' hS => ?_⟩) hS ?_
      rotate_left
      ·
        skip
        go_simp
        try with_reducible rfl
      simp only [List.getElem_toArray, List.getElem_cons_succ, List.getElem_cons_zero, Act.put, List.setIfInBounds_toArray, List.set_cons_zero, List.set_cons_succ]
      refine wpAnyL_take (i := 1) (v := ?_) rfl (by kernel_rfl) (by kernel_rfl) (by kernel_rfl) (by kernel_rfl) (by kernel_rfl) (fun _ _ _ h => h) (.inl ⟨by kernel_rfl, fun w' hS => ?_⟩) hS ?_
      rotate_left
      ·
        have z0 := hS.1.cell 0 rfl
        go_simp
        try with_reducible rfl
      simp only [List.getElem_toArray, List.getElem_cons_succ, List.getElem_cons_zero, Act.put, List.setIfInBounds_toArray, List.set_cons_zero, List.set_cons_succ]
      refine wpAnyL_take (i := 2) (v := ?_) rfl (by kernel_rfl) (by kernel_rfl) (by kernel_rfl) (by kernel_rfl) (by kernel_rfl) (fun _ _ _ h => h) (.inl ⟨by kernel_rfl, fun w' hS => ?_⟩) hS ?_
      rotate_left
      ·
        skip
        go_simp
        try with_reducible rfl
      simp only [List.getElem_toArray, List.getElem_cons_succ, List.getElem_cons_zero, Act.put, List.setIfInBounds_toArray, List.set_cons_zero, List.set_cons_succ]
      refine wpAnyL_take (i := 3) (v := ?_) rfl (by kernel_rfl) (by kernel_rfl) (by kernel_rfl) (by kernel_rfl) (by kernel_rfl) (fun _ _ _ h => h) (.inl ⟨by kernel_rfl, fun w' hS => ?_⟩) hS ?_
      rotate_left
      ·
        skip
        go_simp
        try with_reducible rfl
      simp only [List.getElem_toArray, List.getElem_cons_succ, List.getElem_cons_zero, Act.put, List.setIfInBounds_toArray, List.set_cons_zero, List.set_cons_succ]
      refine wpAnyL_take (i := 4) (v := ?_) rfl (by kernel_rfl) (by kernel_rfl) (by kernel_rfl) (by kernel_rfl) (by kernel_rfl) (fun _ _ _ h => h) (.inl ⟨by kernel_rfl, fun w' hS => ?_⟩) hS ?_
      rotate_left
      ·
        skip
        go_simp
        try with_reducible rfl
      simp only [List.getElem_toArray, List.getElem_cons_succ, List.getElem_cons_zero, Act.put, List.setIfInBounds_toArray, List.set_cons_zero, List.set_cons_succ]
      refine wpAnyL_take (i := 5) (v := ?_) rfl (by kernel_rfl) (by kernel_rfl) (by kernel_rfl) (by kernel_rfl) (by kernel_rfl) (fun _ _ _ h => h) (.inl ⟨by kernel_rfl, fun w' hS => ?_⟩) hS ?_
      rotate_left
      ·
        have z0 := hS.2.1.cell 0 rfl
        go_simp
        try with_reducible rfl
      simp only [List.getElem_toArray, List.getElem_cons_succ, List.getElem_cons_zero, Act.put, List.setIfInBounds_toArray, List.set_cons_zero, List.set_cons_succ]
      refine wpAnyL_take (i := 6) (v := ?_) rfl (by kernel_rfl) (by kernel_rfl) (by kernel_rfl) (by kernel_rfl) (by kernel_rfl) (fun _ _ _ h => h) (.inl ⟨by kernel_rfl, fun w' hS => ?_⟩) hS ?_
      rotate_left
      ·
        skip
        go_simp
        try with_reducible rfl
      simp only [List.getElem_toArray, List.getElem_cons_succ, List.getElem_cons_zero, Act.put, List.setIfInBounds_toArray, List.set_cons_zero, List.set_cons_succ]
      refine wpAnyL_take (i := 7) (v := ?_) rfl (by kernel_rfl) (by kernel_rfl) (by kernel_rfl) (by kernel_rfl) (by kernel_rfl) (fun _ _ _ h => h) (.inl ⟨by kernel_rfl, fun w' hS => ?_⟩) hS ?_
      rotate_left
      ·
        skip
        go_simp
        try with_reducible rfl
      simp only [List.getElem_toArray, List.getElem_cons_succ, List.getElem_cons_zero, Act.put, List.setIfInBounds_toArray, List.set_cons_zero, List.set_cons_succ]
      refine wpAnyL_take (i := 8) (v := ?_) rfl (by kernel_rfl) (by kernel_rfl) (by kernel_rfl) (by kernel_rfl) (by kernel_rfl) (fun _ _ _ h => h) (.inl ⟨by kernel_rfl, fun w' hS => ?_⟩) hS ?_
      rotate_left
      ·
        have z0 := hS.2.2
        go_simp
        try with_reducible rfl
      simp only [List.getElem_toArray, List.getElem_cons_succ, List.getElem_cons_zero, Act.put, List.setIfInBounds_toArray, List.set_cons_zero, List.set_cons_succ]
      refine wpAnyL_ready (i := 9) (by kernel_rfl) rfl (fun K hK => ?_)
      clear hS
      go_simp
      go_wp2_with fail
      have hal : Below V0.heap.size V0 (V0.alloc (.cells #[.string x] 9)) := (Below.refl _ _).alloc (Nat.le_refl _) _
      have hcx := (stay_of_below hal).cell hV.2.2
      have hV6 : Blk (V0.alloc (.cells #[.string x] 9)) (w.heap.size + 1) _ _ ∧ Blk (V0.alloc (.cells #[.string x] 9)) gb _ _ ∧ (V0.alloc (.cells #[.string x] 9)).cell? ⟨bn, offn + j, none⟩ = some (.string x) := ⟨hV.1.alloc _, hV.2.1.alloc _, hcx⟩
      have hn6 := (Blk.new V0 #[.string x] 9).cell 0 rfl
      have hov6 := (hT2.out.below hal).ov
      have hsz6 := (hT2.out.below hal).size
      refine hK.out _ _ hV6 (fun hS => ?_)
      clear hK K hV hcx hal
      try simp only [List.getElem_toArray, List.getElem_cons_succ, List.getElem_cons_zero, Act.put, List.setIfInBounds_toArray, List.set_cons_zero, List.set_cons_succ]
      refine wpAnyL_ready (i := 10) (by kernel_rfl) rfl (fun K hK => ?_)
      clear hS
      refine wp_own1 (.tmp 22) (.tmp 30) 35 rfl (w.heap.size + 2) 9 i0 (.string ByteArray.empty) 16 Try.underlying35 hi.out hz0.out hz1.out hz2.out rfl (by decide) _ X rfl hov6 V0.heap.size (.string x) rfl hn6 rfl (by omega) (by omega) ?_
      intro v' w5 h1 h2
      have hT3 := hT2.out.name (.cells #[.string x] 9) (.string x) h1 h2
      have hol3 := hT2.out.other (v' := v') (.cells #[.string x] 9) h2 hol2.out (by decide) (by decide) 0
      obtain ⟨a5, c5, rfl, -, -⟩ := (own_row (L := X ++ [.string x]) (by rw [List.length_append]; exact h1) : RowA w5 _ v' _).form
      have hq5 : Blk w5 (w.heap.size + 1) #[.slice av X.length cvv, (.slice none 0 0), .int .i64 p] 45 := (h2.block _ hV6.1.lt (fun e => by have := (hov6.lt _ e.symm).1; omega)).trans hV6.1
      have hg5 : Blk w5 gb _ _ := (h2.block _ hV6.2.1.lt (fun e => by have := (hov6.lt _ e.symm).1; have := hgn.out; omega)).trans hV6.2.1
      have hc5 : w5.cell? ⟨bn, offn + j, none⟩ = some (.string x) := (cell_heap (h2.block _ (by have := hbn.out; omega) (fun e => by have := (hov6.lt _ e.symm).1; have := hbn.out; omega))).trans hV6.2.2
      refine hK.out _ _ ⟨hq5, hg5, hc5⟩ (fun hS => ?_)
      clear hK K hV6 hov6 h1 h2 hn6 hg5 hc5
      try simp only [List.getElem_toArray, List.getElem_cons_succ, List.getElem_cons_zero, Act.put, List.setIfInBounds_toArray, List.set_cons_zero, List.set_cons_succ]
      refine wpAnyL_take (i := 11) (v := ?_) rfl (by kernel_rfl) (by kernel_rfl) (by kernel_rfl) (by kernel_rfl) (by kernel_rfl) (fun _ _ _ h => h) (.inl ⟨by kernel_rfl, fun w' hS => ?_⟩) hS ?_
      rotate_left
      ·
        skip
        go_simp
        try with_reducible rfl
      simp only [List.getElem_toArray, List.getElem_cons_succ, List.getElem_cons_zero, Act.put, List.setIfInBounds_toArray, List.set_cons_zero, List.set_cons_succ]
      refine wpAnyL_late (i := 12) (by kernel_rfl) rfl (by kernel_rfl) (fun K hK => ?_)
      clear hS
      have f0 := hq5.free 0
      have z0 := hq5.cell 0 rfl
      rw [List.length_append] at hT3 hol3 ⊢
      go_simp
      go_wp2_with fail
      refine hK.out _ _ ?_
      clear hK K f0 z0 hq5
      try simp only [List.getElem_toArray, List.getElem_cons_succ, List.getElem_cons_zero, Act.put, List.setIfInBounds_toArray, List.set_cons_zero, List.set_cons_succ]
      refine wpAnyL_done (by kernel_rfl) ?_ _
      replace hT3 := Lib.hid hT3
      replace hol3 := Lib.hid hol3
      go_wp2
      go_roundw
      case rel => exact ⟨k + 1, hk1.out, by go_num, hol3, Lib.hid ⟨_, by rw [hX2.out, hXs.out]; exact hT3.out⟩⟩
      case measure => have := hk1.out; simp [intOf]; omega
    · have hki : ¬ (k : Int) < (L.length : Int) := by omega
      obtain rfl : k = L.length := by omega
      rw [List.take_length] at hT
      clear hol
      have hcvT := Lib.hid (hcv.out wr hT.g)
      replace hT := Lib.hid hT
      go_wp2_with fail
      refine hcvT.out.mono ?_
      rintro e w3 ⟨rfl, hg3, hk3⟩
      have hT3 := Lib.hid (hT.out.cover hg3 hk3)
      clear hT hg3 hk3 hcvT
      go_wp2_with fail
      refine (hle.out w3).mono ?_
      rintro e w4 ⟨lw, rfl, hlw⟩
      have hT4 := Lib.hid (hT3.out.below hlw.below)
      obtain ⟨am, cm, rfl⟩ := hlw.form
      rw [natsV_length] at hlw ⊢
      have hol : Hid (w4.ownsRow w3.heap.size 94 1 (.slice am (bits (coverN ms s)).length cm) (natsV (bits (coverN ms s))).length (natsV (bits (coverN ms s)))) := Lib.hid hlw.own
      clear hlw hT3
      generalize bits (coverN ms s) = M at *
      generalize hX : textsV (namesOf ns L) = X at *
      replace hX := Lib.hid hX
      go_wp2
      go_loopw [39] (fun i wr => ∃ k : Nat, k ≤ M.length ∧ i = .int .i64 (k : Int) ∧ Hid (wr.ownsRow w3.heap.size 94 1 (.slice am M.length cm) (natsV M).length (natsV M)) ∧ Hid (∃ ve, TS w wr gb mb ns ms vv ve p X (natsV (M.take k)))) (fun i _ => M.length - (intOf i).toNat)
      case atStart => exact ⟨0, by omega, rfl, hol, Lib.hid ⟨_, hT4.out⟩⟩
      case round =>
        clear hol hT4
        obtain ⟨k, hk, rfl, hol, hex⟩ := hrel
        obtain ⟨ve, hT⟩ := hex.out
        clear hex
        by_cases hlt : k < M.length
        · have hki : (k : Int) < (M.length : Int) := by omega
          have hk1 := Lib.hid (show k + 1 ≤ M.length from hlt)
          obtain ⟨bl, rfl, hck⟩ := own_at hol.out (j := k) (by simpa using hlt)
          have hYs : natsV (M.take (k + 1)) = natsV (M.take k) ++ [.int .i64 ((M.getD k 0 : Nat) : Int)] := by
            rw [List.take_succ_eq_append_getElem hlt, natsV_append, List.getD_eq_getElem?_getD, List.getElem?_eq_getElem hlt]
            rfl
          replace hck : wr.cell? ⟨bl, k, none⟩ = some (.int .i64 ((M.getD k 0 : Nat) : Int)) := by
            rw [hck, List.getD_eq_getElem?_getD, List.getElem?_eq_getElem hlt]
            simp [natsV]
          have hYl : (natsV (M.take k)).length ≤ 16 := by rw [natsV_length, List.length_take]; omega
          generalize M.getD k 0 = j at *
          obtain ⟨av, cvv, rfl, -, -⟩ := (own_row hT.oe : RowA wr _ ve _).form
          generalize natsV (M.take k) = Y at *
          generalize hY2 : natsV (M.take (k + 1)) = Y2 at *
          replace hY2 := Lib.hid hY2
          replace hYs := Lib.hid hYs
          have z1 := hT.q1.cell 1 rfl
          have hown := hT.oe
          have hsz := hT.size
          replace hT := Lib.hid hT
          go_wp2_with (at_builtin; refine wpList_append_own _ rfl _ _ 43 rfl (w.heap.size + 2) 3 i1 (.int .i64 0) 1 8 Try.underlying43 hi1.out hy0.out hy1.out hy2.out rfl (by decide) _ (Y).length (Y) rfl (hown.alloc _) _ 1 _ [.int .i64 (j : Int)] rfl rfl ?c1 ?c2 ?c3 ?c4 ?c5 ?c6)
          case c1 => exact news_one _ _ _
          case c2 => simp [Value.oneCell']
          case c3 => simp only [maxLen]; omega
          case c4 => omega
          case c5 => simp; omega
          case c6 =>
            intro v' w5 h1 h2 _
            have hT5 := hT.out.edge (.cells #[.int .i64 (j : Int)] 3) (.int .i64 (j : Int)) h1 h2
            have hol5 := hT.out.other2 (v' := v') (.cells #[.int .i64 (j : Int)] 3) h2 hol.out (by decide) (by decide) 1
            obtain ⟨a5, c5, rfl, -, -⟩ := (own_row (L := Y ++ [.int .i64 (j : Int)]) (by rw [List.length_append]; exact h1) : RowA w5 _ v' _).form
            have hq5 : Blk w5 (w.heap.size + 1) #[vv, .slice av Y.length cvv, .int .i64 p] 45 := (h2.block _ (hT.out.q1.alloc (.cells #[.int .i64 (j : Int)] 3)).lt (fun e => by have := (hown.lt _ e.symm).1; omega)).trans (hT.out.q1.alloc _)
            have z1 := hq5.cell 1 rfl
            have f1 := hq5.free 1
            rw [List.length_append] at hT5 hol5 ⊢
            replace hT5 := Lib.hid hT5
            replace hol5 := Lib.hid hol5
            clear hown h1 h2 hT hol hq5
            go_wp2
            go_roundw
            case rel => exact ⟨k + 1, hk1.out, by go_num, hol5, Lib.hid ⟨_, by rw [hY2.out, hYs.out]; exact hT5.out⟩⟩
            case measure => have := hk1.out; simp [intOf]; omega
        · have hki : ¬ (k : Int) < (M.length : Int) := by omega
          obtain rfl : k = M.length := by omega
          rw [List.take_length] at hT
          clear hol
          obtain ⟨av, cvv, rfl, -, -⟩ := (own_row hT.ov : RowA wr _ vv _).form
          obtain ⟨ae2, ce2, rfl, -, -⟩ := (own_row hT.oe : RowA wr _ ve _).form
          have z0 := hT.q1.cell 0 rfl
          have z1 := hT.q1.cell 1 rfl
          have z2 := hT.q1.cell 2 rfl
          have y0 := hT.q0.cell 0 rfl
          have y1 := hT.q0.cell 1 rfl
          have y2 := hT.q0.cell 2 rfl
          have f0 := hT.q0.free 0
          have f1 := hT.q0.free 1
          have f2 := hT.q0.free 2
          replace hT := Lib.hid hT
          go_wp2
          have hfin := ((hT.out.q0.set 0 (.slice av X.length cvv)).set 1 (.slice ae2 (natsV M).length ce2)).set 2 (.int .i64 p)
          have hkf : Keep [mb] w (((wr.setCell ⟨w.heap.size, 0, none⟩ (.slice av X.length cvv)).setCell ⟨w.heap.size, 1, none⟩ (.slice ae2 (natsV M).length ce2)).setCell ⟨w.heap.size, 2, none⟩ (.int .i64 p)) :=
            ((hT.out.keep.setCell (fun h => by simp at h) _).setCell (fun h => by simp at h) _).setCell (fun h => by simp at h) _
          have hm := hT.out.mlt
          have hkn := ((hT.out.kn.setAt (b := w.heap.size) (by omega) 0 (.slice av X.length cvv)).setAt (b := w.heap.size) (by omega) 1 (.slice ae2 (natsV M).length ce2)).setAt (b := w.heap.size) (by omega) 2 (.int .i64 p)
          have hov := own_low (own_low (own_low hT.out.ov (b := w.heap.size) (by omega) 0 (.slice av X.length cvv)) (b := w.heap.size) (by omega) 1 (.slice ae2 (natsV M).length ce2)) (b := w.heap.size) (by omega) 2 (.int .i64 p)
          have hoe := own_low (own_low (own_low hT.out.oe (b := w.heap.size) (by omega) 0 (.slice av X.length cvv)) (b := w.heap.size) (by omega) 1 (.slice ae2 (natsV M).length ce2)) (b := w.heap.size) (by omega) 2 (.int .i64 p)
          have hXl : X.length = L.length := by rw [← hX.out, textsV_length]; unfold namesOf; rw [List.length_map]
          have hres := hpost.out (.slice av X.length cvv) (.slice ae2 (natsV M).length ce2) _ _ rfl hkf hkn (by rw [← hXl]; exact hov) (by rw [natsV_length] at hoe ⊢; exact hoe)
          rw [natsV_length] at hfin hres
          exact bodyPost_ret (v := .agg #[.slice av X.length cvv, .slice ae2 M.length ce2, .int .i64 p]) (results_cell_row rfl _ _ w.heap.size 45 _ (0, 0) _ rfl hfin.eq Try.underlying45 rfl infoB3) rfl hres
end Go.Proofs.Ytnocncmjdhlmkaa.hyp
