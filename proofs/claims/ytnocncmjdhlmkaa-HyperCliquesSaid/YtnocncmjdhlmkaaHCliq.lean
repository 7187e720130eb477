/- HyperCliques: the walk. -/
import Derived.Test.YtnocncmjdhlmkaaHEdge
import Derived.StillTailTactics
namespace Go.Proofs.Ytnocncmjdhlmkaa.hyp
open Go.ChangeShapes Go.WideShapes Go.ChangeAt Go.RowKit kit
set_option linter.unusedVariables false
set_option linter.unusedSimpArgs false
theorem infoTexts : (Try.prog.info? 35).map (fun i => (i.zero, i.size, i.bytes)) = some (some (.slice none 0 0), 1, 24) := by kernel_rfl
def nmW (w : World) : World := w.alloc (.cells #[.string (nm 0), .string (nm 1), .string (nm 2), .string (nm 3), .string (nm 4), .string (nm 5), .string (nm 6), .string (nm 7)] 9)
theorem nmW_cell (w : World) : ∀ j, j < 8 → (nmW w).cell? ⟨w.heap.size, j, none⟩ = some (.string (nm j)) := by
  intro j hj
  have h := Blk.new w #[.string (nm 0), .string (nm 1), .string (nm 2), .string (nm 3), .string (nm 4), .string (nm 5), .string (nm 6), .string (nm 7)] 9
  match j, hj with
  | 0, _ => exact h.cell 0 rfl
  | 1, _ => exact h.cell 1 rfl
  | 2, _ => exact h.cell 2 rfl
  | 3, _ => exact h.cell 3 rfl
  | 4, _ => exact h.cell 4 rfl
  | 5, _ => exact h.cell 5 rfl
  | 6, _ => exact h.cell 6 rfl
  | 7, _ => exact h.cell 7 rfl
  | n + 8, h => omega
/-- One more behind a row of edges. -/
theorem wp_app1 {w : World} {o : Oper} {a : Act} {K : Act → World → Prop} {Q : Exit → Act → World → Prop} (s x : Operand)
    (ho : o.op = .call { callee := .builtin .append, args := #[s, x], argTypes := #[22, 22] })
    (base : Nat) (v : Value) (n : Nat) (xs : List Value) (hs : a.eval s = v) (hown : w.ownsRow base 35 1 v n xs) (b : Nat) (u : Value) (hx : a.eval x = .slice (some ⟨b, 0, none⟩) 1 1)
    (hb : Blk w b #[u] 35) (h1 : u.oneCell' = true) (hn : n ≤ 1000) (hbase : base ≤ w.heap.size)
    (h : ∀ v' w', w'.ownsRow base 35 1 v' (n + 1) (xs ++ [u]) → w.grownBy w' v.ownBlock → (v'.ownBlock = v.ownBlock ∨ v'.ownBlock = some w.heap.size) → K (a.put o.dst v') w') : o.wp Try.prog a w K Q := by
  obtain ⟨i1, hi1, hy0, hy1, hy2⟩ := info_parts infoTexts
  obtain ⟨v', w', hr, h2, h3, h4, h5⟩ := run_append_own_at (P := Try.prog) w base 22 o.type 35 i1 (.slice none 0 0) 1 24 Try.underlying22 hi1 hy0 hy1 hy2 rfl (by decide) v n xs hown ⟨b, 0, none⟩ 1 1 [u] rfl
    (fun j u' hj => by
      rw [Go.WideShapes.add_plain, Nat.zero_add]
      exact hb.cell j (by simpa using hj)) (fun u' hu => by rw [List.mem_singleton.1 hu]; exact h1) (by unfold maxLen; omega) (by omega) hbase
  unfold Oper.wp execOp
  simp only [ho, resolve, invoke, builtin, Sem.run_bind, Sem.run_pure, Result.andThen_ok, List.map_toArray, List.map_cons, List.map_nil, hs, hx, hr]
  exact h v' w' h2 h3 h5
/-- Two rows of edges, apart. -/
structure TwoE (w0 w : World) (vc vr : Value) (C R : List (List ByteArray)) : Prop where
  below : Below w0.heap.size w0 w
  c : EdgesO w w0.heap.size vc C
  r : EdgesO w w0.heap.size vr R
  apart : vc.ownBlock = none ∨ vc.ownBlock ≠ vr.ownBlock
theorem TwoE.apart' {w0 w : World} {vc vr : Value} {C R : List (List ByteArray)} (h : TwoE w0 w vc vr C R) : vr.ownBlock = none ∨ vr.ownBlock ≠ vc.ownBlock := by
  rcases h.apart with h1 | h1
  · cases hr : vr.ownBlock with
    | none => exact .inl rfl
    | some g => exact .inr (by rw [h1]; simp)
  · exact .inr (Ne.symm h1)
theorem TwoE.on {w0 w w1 : World} {vc vr : Value} {C R : List (List ByteArray)} (h : TwoE w0 w vc vr C R) (hb : Below w.heap.size w w1) : TwoE w0 w1 vc vr C R := ⟨h.below.trans (hb.mono h.below.size), h.c.below hb, h.r.below hb, h.apart⟩
def NmS (w : World) : World → Prop := fun V => ∀ j, j < 8 → V.cell? ⟨w.heap.size, j, none⟩ = some (.string (nm j))
theorem TwoE.swap {w0 w : World} {vc vr : Value} {C R : List (List ByteArray)} (h : TwoE w0 w vc vr C R) : TwoE w0 w vr vc R C := ⟨h.below, h.r, h.c, h.apart'⟩
theorem TwoE.push {w0 w w1 w5 : World} {vc vr v' x : Value} {C R : List (List ByteArray)} {e : List ByteArray} {xs : List Value} (h : TwoE w0 w vc vr C R) (hb : Below w.heap.size w w1) (o : Obj) (hrow : w1.ownsRow w0.heap.size 35 1 vc C.length xs)
    (hx : w1.ownsRow w0.heap.size 9 1 x e.length (textsV e)) (h1 : w5.ownsRow w0.heap.size 35 1 v' (C.length + 1) (xs ++ [x])) (h2 : (w1.alloc o).grownBy w5 vc.ownBlock) (hat : v'.ownBlock = vc.ownBlock ∨ v'.ownBlock = some (w1.alloc o).heap.size) :
    TwoE w0 w5 v' vr (C ++ [e]) R := by
  have hc1 := h.c.below hb
  have hr1 := h.r.below hb
  have hb1 : Below w0.heap.size w0 w1 := h.below.trans (hb.mono h.below.size)
  refine ⟨(hb1.alloc hb1.size _).grown h2 (by rw [World.size_alloc]; have := hb1.size; omega) (fun k hk => (hrow.lt k hk).1), hc1.push hrow o e hx h1 h2, ?_, ?_⟩
  · exact (hr1.below ((Below.refl _ _).alloc (Nat.le_refl _) o)).other (hrow.alloc o) h2 h.apart'
  · rcases hat with h3 | h3
    · rw [h3]; exact h.apart
    · refine .inr ?_
      rw [h3]
      intro e0
      obtain ⟨vs, -, hr, -⟩ := hr1
      have := (hr.lt _ e0.symm).2
      rw [World.size_alloc] at this
      omega
theorem pairsU_le : ∀ (i k : Nat), i ≤ 4 → (pairsU i k).length ≤ 4 * i + k
  | 0, k, h => by rw [pairsU]; simp
  | i + 1, k, h => by
    rw [pairsU, List.length_append]
    have := pairsU_le i i (by omega)
    simp
    omega
theorem chain_small : ∀ e ∈ chainE 7, ∀ s ∈ e, s.size ≤ maxLen := by decide +kernel
theorem ring_small : ∀ e ∈ ringE 7, ∀ s ∈ e, s.size ≤ maxLen := by decide +kernel
theorem pairs_small : ∀ e ∈ pairsU 3 3, ∀ s ∈ e, s.size ≤ maxLen := by decide +kernel
theorem chain_few : (chainE 7).length ≤ 1048576 ∧ ∀ e ∈ chainE 7, e.length ≤ 1048576 := by decide +kernel
theorem ring_few : (ringE 7).length ≤ 1048576 ∧ ∀ e ∈ ringE 7, e.length ≤ 1048576 := by decide +kernel
theorem pairs_few : (pairsU 3 3).length ≤ 1048576 ∧ ∀ e ∈ pairsU 3 3, e.length ≤ 1048576 := by decide +kernel
theorem edges_nil (w : World) (B : Nat) : EdgesA w B (.slice none 0 0) [] := ⟨[], rfl, .inl ⟨_, _, rfl, rfl⟩, fun j h => by simp at h⟩
theorem edges_append {w w1 : World} {B B' : Nat} {v u v' : Value} {E F : List (List ByteArray)} {xs ys : List Value} (h : EdgesO w B v E) (hx : w.ownsRow B 35 1 v E.length xs) (k : EdgesO w B' u F) (hy : w.ownsRow B' 35 1 u F.length ys)
    (h1 : w1.ownsRow B 35 1 v' (E.length + F.length) (xs ++ ys)) (h2 : w.grownBy w1 v.ownBlock) (hs : ∀ e ∈ E ++ F, ∀ s ∈ e, s.size ≤ maxLen) : EdgesA w1 w1.heap.size v' (E ++ F) := by
  obtain ⟨vs, hl, hr, hel⟩ := h
  obtain rfl := own_unique hr hx
  obtain ⟨us, hl2, hr2, hel2⟩ := k
  obtain rfl := own_unique hr2 hy
  refine ⟨vs ++ us, by rw [List.length_append, List.length_append, hl, hl2], own_row (by rw [List.length_append, hl, hl2]; exact h1), fun j hj hj' => ⟨own_row (B := 0) (e := 9) ?_, hs _ (List.getElem_mem hj)⟩⟩
  rw [textsV_length]
  by_cases hjb : j < E.length
  · simp only [List.getElem_append_left hjb, List.getElem_append_left (show j < vs.length by omega)]
    exact own_base ((hel j hjb (by omega)).kept h2 (own_apart3 (hel j hjb (by omega)) hr (by decide))) (Nat.zero_le _)
  · rw [List.length_append] at hj hj'
    simp only [List.getElem_append_right (show E.length ≤ j by omega), List.getElem_append_right (show vs.length ≤ j by omega)]
    have h3 := hel2 (j - E.length) (by omega) (by omega)
    have h4 := own_base (h3.kept h2 (own_apart3 h3 hr (by decide))) (Nat.zero_le _)
    simpa only [hl] using h4
theorem both_wid : widR (ringE 7 ++ pairsU 3 3) = none := by decide +kernel
theorem both_small : ∀ e ∈ ringE 7 ++ pairsU 3 3, ∀ s ∈ e, s.size ≤ maxLen := by decide +kernel
theorem both_few : (ringE 7 ++ pairsU 3 3).length ≤ 1048576 ∧ ∀ e ∈ ringE 7 ++ pairsU 3 3, e.length ≤ 1048576 := by decide +kernel
theorem dec_nil {w w' : World} {e : Ending} (h : DecOut w [] 1 5 e w') : Below w.heap.size w w' ∧ ∃ al cl av cv ve b off, e = .returned (.tuple #[.slice al 1 cl, .int .i64 0]) ∧ al = some ⟨b, off, none⟩ ∧ w'.cell? ⟨b, off, none⟩ = some (.slice av 0 cv) ∧ w'.cell? ⟨b, off + 1, none⟩ = some ve ∧ w'.cell? ⟨b, off + 2, none⟩ = some (.int .i64 (-1)) ∧ ∃ zs, w'.ownsRow w.heap.size 45 3 (.slice (some ⟨b, off, none⟩) 1 cl) 1 zs := by
  obtain ⟨hb, h | h | h⟩ := h
  · exact absurd ⟨by decide +kernel, by decide⟩ h.1
  · have h2 := h.2.1
    rw [show widN (setsR []) (turnOf 5) (allR []) = 0 by decide +kernel] at h2
    omega
  · obtain ⟨-, -, v, bs, h1, h2, h3⟩ := h
    rcases h3 with ⟨h4, rfl⟩ | ⟨h4, -⟩
    · obtain ⟨rs, -, hzo, -⟩ := id h2
      obtain ⟨al, cl, rfl, hj⟩ := h2.read (fun b hb s hs => by rw [List.mem_singleton.1 hb] at hs; simp at hs)
      obtain ⟨b, off, vv, ve, rfl, -, k0, k1, k2, kv, -⟩ := hj 0 (by simp)
      obtain ⟨av, cv, rfl, -⟩ := kv.form
      exact ⟨hb, _, cl, av, cv, ve, b, off, h1, rfl, k0, k1, k2, _, hzo⟩
    · exact absurd (by decide +kernel) h4
theorem chainE_len (k : Nat) : (chainE k).length = k := by unfold chainE; simp
theorem ringE_len (k : Nat) : (ringE k).length = k := by unfold ringE; simp
set_option maxRecDepth 100000 in
set_option maxHeartbeats 8000000 in
theorem cliques_any (w : World) : Calls Try.prog 8 #[] w fun e w' => e = .returned (.bool true) ∧ Below w.heap.size w w' := by
  obtain ⟨i1, hi1, hy0, hy1, hy2⟩ := info_parts infoTexts
  replace hi1 := Lib.hid hi1
  replace hy0 := Lib.hid hy0
  replace hy1 := Lib.hid hy1
  replace hy2 := Lib.hid hy2
  have hbl : Hid (Below w.heap.size w (nmW w)) := Lib.hid ((Below.refl _ _).alloc (Nat.le_refl _) _)
  have hnm := Lib.hid (nmW_cell w)
  have hnb : w.heap.size < (nmW w).heap.size := by unfold nmW; simp
  go_enter Try.func8, Try.ntmps8
  go_wp2
  go_loopw [2, 3, 5] (fun c r i wr => ∃ k : Nat, k ≤ 7 ∧ i = .int .i64 (k : Int) ∧ Hid (TwoE (nmW w) wr c r (chainE k) (ringE k))) (fun _ _ i _ => 7 - (intOf i).toNat)
  case atStart => exact ⟨0, by omega, rfl, Lib.hid ⟨Below.refl _ _, EdgesO.nil _ _, EdgesO.nil _ _, .inl rfl⟩⟩
  case round =>
    obtain ⟨k, hk, rfl, hT⟩ := hrel
    by_cases hlt : k < 7
    · have hki : (k : Int) < 7 := by omega
      have hk1 := Lib.hid (show k + 1 ≤ 7 from hlt)
      have hst := stay_of_below hT.out.below
      have c1 := hst.cell (hnm.out k (by omega))
      have c2 := hst.cell (hnm.out (k + 1) (by omega))
      have hcl := chainE_len k
      have hrl := ringE_len k
      have hS0 : NmS w wr := fun j hj => hst.cell (hnm.out j hj)
      have hTd := hT.out.on (w1 := wr.drew) ⟨rfl, rfl, rfl, Nat.le_refl _, fun _ _ => rfl⟩
      have e1 : (k : Int) < 8 := by omega
      have e2 : IntKind.i64.wrap ((k : Int) + 1) = (k : Int) + 1 := IntWalk.i64_in _ (by omega)
      have e3 : (k : Int) + 1 < 8 := by omega
      have e4 : (0 : Int) ≤ (k : Int) + 1 := by omega
      clear hst c1 c2 hT
      go_wp2_with fail
      refine wp_region_held_drew (S := NmS w) (by kernel_rfl) (fun j hj => hS0 j hj) (fun hS => ?_)
      clear hS0
      generalize wr.drew = V at *
      refine wpAnyH_take (i := 0) (v := ?_) rfl (by kernel_rfl) (by kernel_rfl) (by kernel_rfl) (fun _ _ _ h => h) (.inl ⟨by kernel_rfl, fun w' hS => ?_⟩) hS ?_
      rotate_left
      ·
        have q1 := hS k (by omega); have q2 := hS (k + 1) (by omega)
        go_simp
        try with_reducible rfl
      simp only [List.getElem_toArray, List.getElem_cons_succ, List.getElem_cons_zero, Act.put, List.setIfInBounds_toArray, List.set_cons_zero, List.set_cons_succ]
      refine wpAnyH_take (i := 1) (v := ?_) rfl (by kernel_rfl) (by kernel_rfl) (by kernel_rfl) (fun _ _ _ h => h) (.inl ⟨by kernel_rfl, fun w' hS => ?_⟩) hS ?_
      rotate_left
      ·
        have q1 := hS k (by omega); have q2 := hS (k + 1) (by omega)
        go_simp
        try with_reducible rfl
      simp only [List.getElem_toArray, List.getElem_cons_succ, List.getElem_cons_zero, Act.put, List.setIfInBounds_toArray, List.set_cons_zero, List.set_cons_succ]
      refine wpAnyH_take (i := 2) (v := ?_) rfl (by kernel_rfl) (by kernel_rfl) (by kernel_rfl) (fun _ _ _ h => h) (.inl ⟨by kernel_rfl, fun w' hS => ?_⟩) hS ?_
      rotate_left
      ·
        have q1 := hS k (by omega); have q2 := hS (k + 1) (by omega)
        go_simp
        try with_reducible rfl
      simp only [List.getElem_toArray, List.getElem_cons_succ, List.getElem_cons_zero, Act.put, List.setIfInBounds_toArray, List.set_cons_zero, List.set_cons_succ]
      refine wpAnyH_take (i := 3) (v := ?_) rfl (by kernel_rfl) (by kernel_rfl) (by kernel_rfl) (fun _ _ _ h => h) (.inl ⟨by kernel_rfl, fun w' hS => ?_⟩) hS ?_
      rotate_left
      ·
        have q1 := hS k (by omega); have q2 := hS (k + 1) (by omega)
        go_simp
        try with_reducible rfl
      simp only [List.getElem_toArray, List.getElem_cons_succ, List.getElem_cons_zero, Act.put, List.setIfInBounds_toArray, List.set_cons_zero, List.set_cons_succ]
      refine wpAnyH_take (i := 4) (v := ?_) rfl (by kernel_rfl) (by kernel_rfl) (by kernel_rfl) (fun _ _ _ h => h) (.inl ⟨by kernel_rfl, fun w' hS => ?_⟩) hS ?_
      rotate_left
      ·
        have q1 := hS k (by omega); have q2 := hS (k + 1) (by omega)
        go_simp
        try with_reducible rfl
      simp only [List.getElem_toArray, List.getElem_cons_succ, List.getElem_cons_zero, Act.put, List.setIfInBounds_toArray, List.set_cons_zero, List.set_cons_succ]
      refine wpAnyH_take (i := 5) (v := ?_) rfl (by kernel_rfl) (by kernel_rfl) (by kernel_rfl) (fun _ _ _ h => h) (.inl ⟨by kernel_rfl, fun w' hS => ?_⟩) hS ?_
      rotate_left
      ·
        have q1 := hS k (by omega); have q2 := hS (k + 1) (by omega)
        go_simp
        try with_reducible rfl
      simp only [List.getElem_toArray, List.getElem_cons_succ, List.getElem_cons_zero, Act.put, List.setIfInBounds_toArray, List.set_cons_zero, List.set_cons_succ]
      refine wpAnyH_take (i := 6) (v := ?_) rfl (by kernel_rfl) (by kernel_rfl) (by kernel_rfl) (fun _ _ _ h => h) (.inl ⟨by kernel_rfl, fun w' hS => ?_⟩) hS ?_
      rotate_left
      ·
        have q1 := hS k (by omega); have q2 := hS (k + 1) (by omega)
        go_simp
        try with_reducible rfl
      simp only [List.getElem_toArray, List.getElem_cons_succ, List.getElem_cons_zero, Act.put, List.setIfInBounds_toArray, List.set_cons_zero, List.set_cons_succ]
      refine wpAnyH_take (i := 7) (v := ?_) rfl (by kernel_rfl) (by kernel_rfl) (by kernel_rfl) (fun _ _ _ h => h) (.inl ⟨by kernel_rfl, fun w' hS => ?_⟩) hS ?_
      rotate_left
      ·
        have q1 := hS k (by omega); have q2 := hS (k + 1) (by omega)
        go_simp
        try with_reducible rfl
      simp only [List.getElem_toArray, List.getElem_cons_succ, List.getElem_cons_zero, Act.put, List.setIfInBounds_toArray, List.set_cons_zero, List.set_cons_succ]
      refine wpAnyH_take (i := 8) (v := ?_) rfl (by kernel_rfl) (by kernel_rfl) (by kernel_rfl) (fun _ _ _ h => h) (.inl ⟨by kernel_rfl, fun w' hS => ?_⟩) hS ?_
      rotate_left
      ·
        have q1 := hS k (by omega); have q2 := hS (k + 1) (by omega)
        go_simp
        try with_reducible rfl
      simp only [List.getElem_toArray, List.getElem_cons_succ, List.getElem_cons_zero, Act.put, List.setIfInBounds_toArray, List.set_cons_zero, List.set_cons_succ]
      refine wpAnyH_take (i := 9) (v := ?_) rfl (by kernel_rfl) (by kernel_rfl) (by kernel_rfl) (fun _ _ _ h => h) (.inl ⟨by kernel_rfl, fun w' hS => ?_⟩) hS ?_
      rotate_left
      ·
        have q1 := hS k (by omega); have q2 := hS (k + 1) (by omega)
        go_simp
        try with_reducible rfl
      simp only [List.getElem_toArray, List.getElem_cons_succ, List.getElem_cons_zero, Act.put, List.setIfInBounds_toArray, List.set_cons_zero, List.set_cons_succ]
      have hb1 : Below V.heap.size V (V.alloc (.cells #[.string (nm k), .string (nm (k + 1))] 9)) := (Below.refl _ _).alloc (Nat.le_refl _) _
      have hx := own_new (B := (nmW w).heap.size) (Blk.new V #[.string (nm k), .string (nm (k + 1))] 9) hTd.below.size (by show 2 ≤ maxLen; decide)
      obtain ⟨xs, hxl, hown, -⟩ := hTd.c.below hb1
      rw [hcl] at hown
      refine wpAnyH_ready (rs := [10]) (by kernel_rfl) (by simp) ?_
      refine AllReadyH.cons rfl (fun K hK => ?_) AllReadyH.nil
      have hS1 : NmS w (V.alloc (.cells #[.string (nm k), .string (nm (k + 1))] 9)) := fun j hj => (stay_of_below hb1).cell (hS j hj)
      clear hS
      go_simp
      go_wp2_with fail
      refine hK.out _ _ hS1 (fun hS => ?_)
      clear hK K
      try simp only [List.getElem_toArray, List.getElem_cons_succ, List.getElem_cons_zero, Act.put, List.setIfInBounds_toArray, List.set_cons_zero, List.set_cons_succ]
      refine wpAnyH_ready (rs := [11]) (by kernel_rfl) (by simp) ?_
      refine AllReadyH.cons rfl (fun K hK => ?_) AllReadyH.nil
      have hb2 : Below (V.alloc (.cells #[.string (nm k), .string (nm (k + 1))] 9)).heap.size (V.alloc (.cells #[.string (nm k), .string (nm (k + 1))] 9)) ((V.alloc (.cells #[.string (nm k), .string (nm (k + 1))] 9)).alloc (.cells #[.slice (some ⟨V.heap.size, 0, none⟩) 2 2] 35)) := (Below.refl _ _).alloc (Nat.le_refl _) _
      have hS2 : NmS w ((V.alloc (.cells #[.string (nm k), .string (nm (k + 1))] 9)).alloc (.cells #[.slice (some ⟨V.heap.size, 0, none⟩) 2 2] 35)) := fun j hj => (stay_of_below hb2).cell (hS1 j hj)
      clear hS
      go_simp
      go_wp2_with fail
      refine hK.out _ _ hS2 (fun hS => ?_)
      clear hK K
      try simp only [List.getElem_toArray, List.getElem_cons_succ, List.getElem_cons_zero, Act.put, List.setIfInBounds_toArray, List.set_cons_zero, List.set_cons_succ]
      refine wpAnyH_ready (rs := [12]) (by kernel_rfl) (by simp) ?_
      refine AllReadyH.cons rfl (fun K hK => ?_) AllReadyH.nil
      clear hS
      have hn2 := Blk.new (V.alloc (.cells #[.string (nm k), .string (nm (k + 1))] 9)) #[.slice (some ⟨V.heap.size, 0, none⟩) 2 2] 35
      rw [World.size_alloc] at hn2
      refine wp_app1 _ _ rfl (nmW w).heap.size _ _ xs rfl (hown.alloc _) _ _ rfl hn2 rfl (by omega) (by rw [World.size_alloc, World.size_alloc]; have := hTd.below.size; omega) (fun v5 w5 h1 h2 hat => ?_)
      have hT5 := hTd.push (e := [nm k, nm (k + 1)]) hb1 (.cells #[.slice (some ⟨V.heap.size, 0, none⟩) 2 2] 35) (by rw [hcl]; exact hown) hx (by rw [hcl]; exact h1) h2 hat
      have hS5 : NmS w w5 := fun j hj => (stay_of_below hT5.below).cell (hnm.out j hj)
      refine hK.out _ _ hS5 (fun hS => ?_)
      clear hK K
      try simp only [List.getElem_toArray, List.getElem_cons_succ, List.getElem_cons_zero, Act.put, List.setIfInBounds_toArray, List.set_cons_zero, List.set_cons_succ]
      refine wpAnyH_take (i := 13) (v := ?_) rfl (by kernel_rfl) (by kernel_rfl) (by kernel_rfl) (fun _ _ _ h => h) (.inl ⟨by kernel_rfl, fun w' hS => ?_⟩) hS ?_
      rotate_left
      ·
        skip
        go_simp
        try with_reducible rfl
      simp only [List.getElem_toArray, List.getElem_cons_succ, List.getElem_cons_zero, Act.put, List.setIfInBounds_toArray, List.set_cons_zero, List.set_cons_succ]
      refine wpAnyH_done (by kernel_rfl) ?_ _
      clear hS hS1 hS2 hS5 hb1 hb2 hx hown h1 h2 hat hTd hxl hn2
      rw [← chainE_succ] at hT5
      have hTd := hT5.swap.on (w1 := w5.drew) ⟨rfl, rfl, rfl, Nat.le_refl _, fun _ _ => rfl⟩
      have hS0 : NmS w w5.drew := fun j hj => (stay_of_below hTd.below).cell (hnm.out j hj)
      obtain ⟨j, hjd⟩ : ∃ j, j = (k + 1) % 7 := ⟨_, rfl⟩
      have e5 : ((k : Int) + 1) % 7 = (j : Int) := by omega
      have e6 : ((k : Int) + 1).tmod 7 = (j : Int) := by rw [Int.tmod_eq_emod_of_nonneg (by omega)]; exact e5
      have hj8 : j < 8 := by omega
      have e7 : (j : Int) < 8 := by omega
      have hrs := ringE_succ k
      rw [← hjd] at hrs
      replace hjd := Lib.hid hjd
      clear hT5
      go_wp2_with fail
      refine wp_region_held_drew (S := NmS w) (by kernel_rfl) hS0 (fun hS => ?_)
      clear hS0
      generalize w5.drew = V at *
      refine wpAnyH_take (i := 0) (v := ?_) rfl (by kernel_rfl) (by kernel_rfl) (by kernel_rfl) (fun _ _ _ h => h) (.inl ⟨by kernel_rfl, fun w' hS => ?_⟩) hS ?_
      rotate_left
      ·
        have q1 := hS k (by omega); have q2 := hS j (by omega)
        go_simp
        try with_reducible rfl
      simp only [List.getElem_toArray, List.getElem_cons_succ, List.getElem_cons_zero, Act.put, List.setIfInBounds_toArray, List.set_cons_zero, List.set_cons_succ]
      refine wpAnyH_take (i := 1) (v := ?_) rfl (by kernel_rfl) (by kernel_rfl) (by kernel_rfl) (fun _ _ _ h => h) (.inl ⟨by kernel_rfl, fun w' hS => ?_⟩) hS ?_
      rotate_left
      ·
        have q1 := hS k (by omega); have q2 := hS j (by omega)
        go_simp
        try with_reducible rfl
      simp only [List.getElem_toArray, List.getElem_cons_succ, List.getElem_cons_zero, Act.put, List.setIfInBounds_toArray, List.set_cons_zero, List.set_cons_succ]
      refine wpAnyH_take (i := 2) (v := ?_) rfl (by kernel_rfl) (by kernel_rfl) (by kernel_rfl) (fun _ _ _ h => h) (.inl ⟨by kernel_rfl, fun w' hS => ?_⟩) hS ?_
      rotate_left
      ·
        have q1 := hS k (by omega); have q2 := hS j (by omega)
        go_simp
        try with_reducible rfl
      simp only [List.getElem_toArray, List.getElem_cons_succ, List.getElem_cons_zero, Act.put, List.setIfInBounds_toArray, List.set_cons_zero, List.set_cons_succ]
      refine wpAnyH_take (i := 3) (v := ?_) rfl (by kernel_rfl) (by kernel_rfl) (by kernel_rfl) (fun _ _ _ h => h) (.inl ⟨by kernel_rfl, fun w' hS => ?_⟩) hS ?_
      rotate_left
      ·
        have q1 := hS k (by omega); have q2 := hS j (by omega)
        go_simp
        try with_reducible rfl
      simp only [List.getElem_toArray, List.getElem_cons_succ, List.getElem_cons_zero, Act.put, List.setIfInBounds_toArray, List.set_cons_zero, List.set_cons_succ]
      refine wpAnyH_take (i := 4) (v := ?_) rfl (by kernel_rfl) (by kernel_rfl) (by kernel_rfl) (fun _ _ _ h => h) (.inl ⟨by kernel_rfl, fun w' hS => ?_⟩) hS ?_
      rotate_left
      ·
        have q1 := hS k (by omega); have q2 := hS j (by omega)
        go_simp
        try with_reducible rfl
      simp only [List.getElem_toArray, List.getElem_cons_succ, List.getElem_cons_zero, Act.put, List.setIfInBounds_toArray, List.set_cons_zero, List.set_cons_succ]
      refine wpAnyH_take (i := 5) (v := ?_) rfl (by kernel_rfl) (by kernel_rfl) (by kernel_rfl) (fun _ _ _ h => h) (.inl ⟨by kernel_rfl, fun w' hS => ?_⟩) hS ?_
      rotate_left
      ·
        have q1 := hS k (by omega); have q2 := hS j (by omega)
        go_simp
        try with_reducible rfl
      simp only [List.getElem_toArray, List.getElem_cons_succ, List.getElem_cons_zero, Act.put, List.setIfInBounds_toArray, List.set_cons_zero, List.set_cons_succ]
      refine wpAnyH_take (i := 6) (v := ?_) rfl (by kernel_rfl) (by kernel_rfl) (by kernel_rfl) (fun _ _ _ h => h) (.inl ⟨by kernel_rfl, fun w' hS => ?_⟩) hS ?_
      rotate_left
      ·
        have q1 := hS k (by omega); have q2 := hS j (by omega)
        go_simp
        try with_reducible rfl
      simp only [List.getElem_toArray, List.getElem_cons_succ, List.getElem_cons_zero, Act.put, List.setIfInBounds_toArray, List.set_cons_zero, List.set_cons_succ]
      refine wpAnyH_take (i := 7) (v := ?_) rfl (by kernel_rfl) (by kernel_rfl) (by kernel_rfl) (fun _ _ _ h => h) (.inl ⟨by kernel_rfl, fun w' hS => ?_⟩) hS ?_
      rotate_left
      ·
        have q1 := hS k (by omega); have q2 := hS j (by omega)
        go_simp
        try with_reducible rfl
      simp only [List.getElem_toArray, List.getElem_cons_succ, List.getElem_cons_zero, Act.put, List.setIfInBounds_toArray, List.set_cons_zero, List.set_cons_succ]
      refine wpAnyH_take (i := 8) (v := ?_) rfl (by kernel_rfl) (by kernel_rfl) (by kernel_rfl) (fun _ _ _ h => h) (.inl ⟨by kernel_rfl, fun w' hS => ?_⟩) hS ?_
      rotate_left
      ·
        have q1 := hS k (by omega); have q2 := hS j (by omega)
        go_simp
        try with_reducible rfl
      simp only [List.getElem_toArray, List.getElem_cons_succ, List.getElem_cons_zero, Act.put, List.setIfInBounds_toArray, List.set_cons_zero, List.set_cons_succ]
      refine wpAnyH_take (i := 9) (v := ?_) rfl (by kernel_rfl) (by kernel_rfl) (by kernel_rfl) (fun _ _ _ h => h) (.inl ⟨by kernel_rfl, fun w' hS => ?_⟩) hS ?_
      rotate_left
      ·
        have q1 := hS k (by omega); have q2 := hS j (by omega)
        go_simp
        try with_reducible rfl
      simp only [List.getElem_toArray, List.getElem_cons_succ, List.getElem_cons_zero, Act.put, List.setIfInBounds_toArray, List.set_cons_zero, List.set_cons_succ]
      refine wpAnyH_take (i := 10) (v := ?_) rfl (by kernel_rfl) (by kernel_rfl) (by kernel_rfl) (fun _ _ _ h => h) (.inl ⟨by kernel_rfl, fun w' hS => ?_⟩) hS ?_
      rotate_left
      ·
        have q1 := hS k (by omega); have q2 := hS j (by omega)
        go_simp
        try with_reducible rfl
      simp only [List.getElem_toArray, List.getElem_cons_succ, List.getElem_cons_zero, Act.put, List.setIfInBounds_toArray, List.set_cons_zero, List.set_cons_succ]
      have hb1 : Below V.heap.size V (V.alloc (.cells #[.string (nm k), .string (nm j)] 9)) := (Below.refl _ _).alloc (Nat.le_refl _) _
      have hx := own_new (B := (nmW w).heap.size) (Blk.new V #[.string (nm k), .string (nm j)] 9) hTd.below.size (by show 2 ≤ maxLen; decide)
      obtain ⟨xs, hxl, hown, -⟩ := hTd.c.below hb1
      rw [hrl] at hown
      refine wpAnyH_ready (rs := [11]) (by kernel_rfl) (by simp) ?_
      refine AllReadyH.cons rfl (fun K hK => ?_) AllReadyH.nil
      have hS1 : NmS w (V.alloc (.cells #[.string (nm k), .string (nm j)] 9)) := fun j hj => (stay_of_below hb1).cell (hS j hj)
      clear hS
      go_simp
      go_wp2_with fail
      refine hK.out _ _ hS1 (fun hS => ?_)
      clear hK K
      try simp only [List.getElem_toArray, List.getElem_cons_succ, List.getElem_cons_zero, Act.put, List.setIfInBounds_toArray, List.set_cons_zero, List.set_cons_succ]
      refine wpAnyH_ready (rs := [12]) (by kernel_rfl) (by simp) ?_
      refine AllReadyH.cons rfl (fun K hK => ?_) AllReadyH.nil
      have hb2 : Below (V.alloc (.cells #[.string (nm k), .string (nm j)] 9)).heap.size (V.alloc (.cells #[.string (nm k), .string (nm j)] 9)) ((V.alloc (.cells #[.string (nm k), .string (nm j)] 9)).alloc (.cells #[.slice (some ⟨V.heap.size, 0, none⟩) 2 2] 35)) := (Below.refl _ _).alloc (Nat.le_refl _) _
      have hS2 : NmS w ((V.alloc (.cells #[.string (nm k), .string (nm j)] 9)).alloc (.cells #[.slice (some ⟨V.heap.size, 0, none⟩) 2 2] 35)) := fun j hj => (stay_of_below hb2).cell (hS1 j hj)
      clear hS
      go_simp
      go_wp2_with fail
      refine hK.out _ _ hS2 (fun hS => ?_)
      clear hK K
      try simp only [List.getElem_toArray, List.getElem_cons_succ, List.getElem_cons_zero, Act.put, List.setIfInBounds_toArray, List.set_cons_zero, List.set_cons_succ]
      refine wpAnyH_ready (rs := [13]) (by kernel_rfl) (by simp) ?_
      refine AllReadyH.cons rfl (fun K hK => ?_) AllReadyH.nil
      clear hS
      have hn2 := Blk.new (V.alloc (.cells #[.string (nm k), .string (nm j)] 9)) #[.slice (some ⟨V.heap.size, 0, none⟩) 2 2] 35
      rw [World.size_alloc] at hn2
      refine wp_app1 _ _ rfl (nmW w).heap.size _ _ xs rfl (hown.alloc _) _ _ rfl hn2 rfl (by omega) (by rw [World.size_alloc, World.size_alloc]; have := hTd.below.size; omega) (fun v5 w5 h1 h2 hat => ?_)
      have hT5 := hTd.push (e := [nm k, nm j]) hb1 (.cells #[.slice (some ⟨V.heap.size, 0, none⟩) 2 2] 35) (by rw [hrl]; exact hown) hx (by rw [hrl]; exact h1) h2 hat
      have hS5 : NmS w w5 := fun j hj => (stay_of_below hT5.below).cell (hnm.out j hj)
      refine hK.out _ _ hS5 (fun hS => ?_)
      clear hK K
      try simp only [List.getElem_toArray, List.getElem_cons_succ, List.getElem_cons_zero, Act.put, List.setIfInBounds_toArray, List.set_cons_zero, List.set_cons_succ]
      refine wpAnyH_take (i := 14) (v := ?_) rfl (by kernel_rfl) (by kernel_rfl) (by kernel_rfl) (fun _ _ _ h => h) (.inl ⟨by kernel_rfl, fun w' hS => ?_⟩) hS ?_
      rotate_left
      ·
        skip
        go_simp
        try with_reducible rfl
      simp only [List.getElem_toArray, List.getElem_cons_succ, List.getElem_cons_zero, Act.put, List.setIfInBounds_toArray, List.set_cons_zero, List.set_cons_succ]
      refine wpAnyH_done (by kernel_rfl) ?_ _
      clear hS hS1 hS2 hS5 hb1 hb2 hx hown h1 h2 hat hTd hxl hn2
      rw [← hrs] at hT5
      have hT6 := Lib.hid hT5.swap
      clear hT5
      go_wp2
      go_roundw
      case rel => exact ⟨k + 1, hk1.out, by go_num, hT6⟩
      case measure => have := hk1.out; simp [intOf]; omega
    · have hki : ¬ (k : Int) < 7 := by omega
      obtain rfl : k = 7 := by omega
      obtain ⟨hbT, hC, hR, -⟩ := hT.out
      replace hbT := Lib.hid hbT
      replace hC := Lib.hid hC
      replace hR := Lib.hid hR
      clear hT hlt hk
      generalize wr = w2 at *
      go_wp2
      have hnm2 : Hid (NmS w w2) := Lib.hid fun j hj => (stay_of_below hbT.out).cell (hnm.out j hj)
      go_loopw [4, 6] (fun p i wr => ∃ i' : Nat, i' ≤ 4 ∧ i = .int .i64 (i' : Int) ∧ Hid (TwoE w2 wr p (.slice none 0 0) (pairsU i' 0) [])) (fun _ i _ => 4 - (intOf i).toNat)
      case atStart => exact ⟨0, by omega, rfl, Lib.hid ⟨Below.refl _ _, EdgesO.nil _ _, EdgesO.nil _ _, .inl rfl⟩⟩
      case round =>
        obtain ⟨i, hi, rfl, hP⟩ := hrel
        by_cases hlt : i < 4
        · have hki : (i : Int) < 4 := by omega
          have hi1n := Lib.hid (show i + 1 ≤ 4 from hlt)
          go_wp2
          go_loopw [4, 7] (fun p k wr => ∃ k' : Nat, k' ≤ i ∧ k = .int .i64 (k' : Int) ∧ Hid (TwoE w2 wr p (.slice none 0 0) (pairsU i k') [])) (fun _ k _ => i - (intOf k).toNat)
          case atStart => exact ⟨0, by omega, rfl, hP⟩
          case round =>
            clear hP
            obtain ⟨k, hk, rfl, hP⟩ := hrel
            by_cases hlk : k < i
            · have hki2 : (k : Int) < (i : Int) := by omega
              have hk1 := Lib.hid (show k + 1 ≤ i from hlk)
              have hTd := hP.out.on (w1 := wr.drew) ⟨rfl, rfl, rfl, Nat.le_refl _, fun _ _ => rfl⟩
              have hS0 : NmS w wr.drew := fun j hj => (stay_of_below hTd.below).cell (hnm2.out j hj)
              obtain ⟨n, hcl⟩ : ∃ n, (pairsU i k).length = n := ⟨_, rfl⟩
              have hn1 := pairsU_le i k (by omega)
              rw [hcl] at hn1
              have e1 : (k : Int) < 8 := by omega
              have e2 : (i : Int) < 8 := by omega
              clear hP
              go_wp2_with fail
              refine wp_region_held_drew (S := NmS w) (by kernel_rfl) hS0 (fun hS => ?_)
              clear hS0
              generalize wr.drew = V at *
              refine wpAnyH_take (i := 0) (v := ?_) rfl (by kernel_rfl) (by kernel_rfl) (by kernel_rfl) (fun _ _ _ h => h) (.inl ⟨by kernel_rfl, fun w' hS => ?_⟩) hS ?_
              rotate_left
              ·
                have q1 := hS k (by omega); have q2 := hS i (by omega)
                go_simp
                try with_reducible rfl
              simp only [List.getElem_toArray, List.getElem_cons_succ, List.getElem_cons_zero, Act.put, List.setIfInBounds_toArray, List.set_cons_zero, List.set_cons_succ]
              refine wpAnyH_take (i := 1) (v := ?_) rfl (by kernel_rfl) (by kernel_rfl) (by kernel_rfl) (fun _ _ _ h => h) (.inl ⟨by kernel_rfl, fun w' hS => ?_⟩) hS ?_
              rotate_left
              ·
                have q1 := hS k (by omega); have q2 := hS i (by omega)
                go_simp
                try with_reducible rfl
              simp only [List.getElem_toArray, List.getElem_cons_succ, List.getElem_cons_zero, Act.put, List.setIfInBounds_toArray, List.set_cons_zero, List.set_cons_succ]
              refine wpAnyH_take (i := 2) (v := ?_) rfl (by kernel_rfl) (by kernel_rfl) (by kernel_rfl) (fun _ _ _ h => h) (.inl ⟨by kernel_rfl, fun w' hS => ?_⟩) hS ?_
              rotate_left
              ·
                have q1 := hS k (by omega); have q2 := hS i (by omega)
                go_simp
                try with_reducible rfl
              simp only [List.getElem_toArray, List.getElem_cons_succ, List.getElem_cons_zero, Act.put, List.setIfInBounds_toArray, List.set_cons_zero, List.set_cons_succ]
              refine wpAnyH_take (i := 3) (v := ?_) rfl (by kernel_rfl) (by kernel_rfl) (by kernel_rfl) (fun _ _ _ h => h) (.inl ⟨by kernel_rfl, fun w' hS => ?_⟩) hS ?_
              rotate_left
              ·
                have q1 := hS k (by omega); have q2 := hS i (by omega)
                go_simp
                try with_reducible rfl
              simp only [List.getElem_toArray, List.getElem_cons_succ, List.getElem_cons_zero, Act.put, List.setIfInBounds_toArray, List.set_cons_zero, List.set_cons_succ]
              refine wpAnyH_take (i := 4) (v := ?_) rfl (by kernel_rfl) (by kernel_rfl) (by kernel_rfl) (fun _ _ _ h => h) (.inl ⟨by kernel_rfl, fun w' hS => ?_⟩) hS ?_
              rotate_left
              ·
                have q1 := hS k (by omega); have q2 := hS i (by omega)
                go_simp
                try with_reducible rfl
              simp only [List.getElem_toArray, List.getElem_cons_succ, List.getElem_cons_zero, Act.put, List.setIfInBounds_toArray, List.set_cons_zero, List.set_cons_succ]
              refine wpAnyH_take (i := 5) (v := ?_) rfl (by kernel_rfl) (by kernel_rfl) (by kernel_rfl) (fun _ _ _ h => h) (.inl ⟨by kernel_rfl, fun w' hS => ?_⟩) hS ?_
              rotate_left
              ·
                have q1 := hS k (by omega); have q2 := hS i (by omega)
                go_simp
                try with_reducible rfl
              simp only [List.getElem_toArray, List.getElem_cons_succ, List.getElem_cons_zero, Act.put, List.setIfInBounds_toArray, List.set_cons_zero, List.set_cons_succ]
              refine wpAnyH_take (i := 6) (v := ?_) rfl (by kernel_rfl) (by kernel_rfl) (by kernel_rfl) (fun _ _ _ h => h) (.inl ⟨by kernel_rfl, fun w' hS => ?_⟩) hS ?_
              rotate_left
              ·
                have q1 := hS k (by omega); have q2 := hS i (by omega)
                go_simp
                try with_reducible rfl
              simp only [List.getElem_toArray, List.getElem_cons_succ, List.getElem_cons_zero, Act.put, List.setIfInBounds_toArray, List.set_cons_zero, List.set_cons_succ]
              refine wpAnyH_take (i := 7) (v := ?_) rfl (by kernel_rfl) (by kernel_rfl) (by kernel_rfl) (fun _ _ _ h => h) (.inl ⟨by kernel_rfl, fun w' hS => ?_⟩) hS ?_
              rotate_left
              ·
                have q1 := hS k (by omega); have q2 := hS i (by omega)
                go_simp
                try with_reducible rfl
              simp only [List.getElem_toArray, List.getElem_cons_succ, List.getElem_cons_zero, Act.put, List.setIfInBounds_toArray, List.set_cons_zero, List.set_cons_succ]
              refine wpAnyH_take (i := 8) (v := ?_) rfl (by kernel_rfl) (by kernel_rfl) (by kernel_rfl) (fun _ _ _ h => h) (.inl ⟨by kernel_rfl, fun w' hS => ?_⟩) hS ?_
              rotate_left
              ·
                have q1 := hS k (by omega); have q2 := hS i (by omega)
                go_simp
                try with_reducible rfl
              simp only [List.getElem_toArray, List.getElem_cons_succ, List.getElem_cons_zero, Act.put, List.setIfInBounds_toArray, List.set_cons_zero, List.set_cons_succ]
              have hb1 : Below V.heap.size V (V.alloc (.cells #[.string (nm k), .string (nm i)] 9)) := (Below.refl _ _).alloc (Nat.le_refl _) _
              have hx := own_new (B := w2.heap.size) (Blk.new V #[.string (nm k), .string (nm i)] 9) hTd.below.size (by show 2 ≤ maxLen; decide)
              obtain ⟨xs, hxl, hown, -⟩ := hTd.c.below hb1
              rw [hcl] at hown
              refine wpAnyH_ready (rs := [9]) (by kernel_rfl) (by simp) ?_
              refine AllReadyH.cons rfl (fun K hK => ?_) AllReadyH.nil
              have hS1 : NmS w (V.alloc (.cells #[.string (nm k), .string (nm i)] 9)) := fun j hj => (stay_of_below hb1).cell (hS j hj)
              clear hS
              go_simp
              go_wp2_with fail
              refine hK.out _ _ hS1 (fun hS => ?_)
              clear hK K
              try simp only [List.getElem_toArray, List.getElem_cons_succ, List.getElem_cons_zero, Act.put, List.setIfInBounds_toArray, List.set_cons_zero, List.set_cons_succ]
              refine wpAnyH_ready (rs := [10]) (by kernel_rfl) (by simp) ?_
              refine AllReadyH.cons rfl (fun K hK => ?_) AllReadyH.nil
              have hb2 : Below (V.alloc (.cells #[.string (nm k), .string (nm i)] 9)).heap.size (V.alloc (.cells #[.string (nm k), .string (nm i)] 9)) ((V.alloc (.cells #[.string (nm k), .string (nm i)] 9)).alloc (.cells #[.slice (some ⟨V.heap.size, 0, none⟩) 2 2] 35)) := (Below.refl _ _).alloc (Nat.le_refl _) _
              have hS2 : NmS w ((V.alloc (.cells #[.string (nm k), .string (nm i)] 9)).alloc (.cells #[.slice (some ⟨V.heap.size, 0, none⟩) 2 2] 35)) := fun j hj => (stay_of_below hb2).cell (hS1 j hj)
              clear hS
              go_simp
              go_wp2_with fail
              refine hK.out _ _ hS2 (fun hS => ?_)
              clear hK K
              try simp only [List.getElem_toArray, List.getElem_cons_succ, List.getElem_cons_zero, Act.put, List.setIfInBounds_toArray, List.set_cons_zero, List.set_cons_succ]
              refine wpAnyH_ready (rs := [11]) (by kernel_rfl) (by simp) ?_
              refine AllReadyH.cons rfl (fun K hK => ?_) AllReadyH.nil
              clear hS
              have hn2 := Blk.new (V.alloc (.cells #[.string (nm k), .string (nm i)] 9)) #[.slice (some ⟨V.heap.size, 0, none⟩) 2 2] 35
              rw [World.size_alloc] at hn2
              refine wp_app1 _ _ rfl w2.heap.size _ _ xs rfl (hown.alloc _) _ _ rfl hn2 rfl (by omega) (by rw [World.size_alloc, World.size_alloc]; have := hTd.below.size; omega) (fun v5 w5 h1 h2 hat => ?_)
              have hT5 := hTd.push (e := [nm k, nm i]) hb1 (.cells #[.slice (some ⟨V.heap.size, 0, none⟩) 2 2] 35) (by rw [hcl]; exact hown) hx (by rw [hcl]; exact h1) h2 hat
              have hS5 : NmS w w5 := fun j hj => (stay_of_below hT5.below).cell (hnm2.out j hj)
              refine hK.out _ _ hS5 (fun hS => ?_)
              clear hK K
              try simp only [List.getElem_toArray, List.getElem_cons_succ, List.getElem_cons_zero, Act.put, List.setIfInBounds_toArray, List.set_cons_zero, List.set_cons_succ]
              refine wpAnyH_take (i := 12) (v := ?_) rfl (by kernel_rfl) (by kernel_rfl) (by kernel_rfl) (fun _ _ _ h => h) (.inl ⟨by kernel_rfl, fun w' hS => ?_⟩) hS ?_
              rotate_left
              ·
                skip
                go_simp
                try with_reducible rfl
              simp only [List.getElem_toArray, List.getElem_cons_succ, List.getElem_cons_zero, Act.put, List.setIfInBounds_toArray, List.set_cons_zero, List.set_cons_succ]
              refine wpAnyH_done (by kernel_rfl) ?_ _
              clear hS hS1 hS2 hS5 hb1 hb2 hx hown h1 h2 hat hTd hxl hn2
              rw [← pairsU_succ] at hT5
              replace hT5 := Lib.hid hT5
              go_wp2
              go_roundw
              case rel => exact ⟨k + 1, hk1.out, by go_num, hT5⟩
              case measure => have := hk1.out; simp [intOf]; omega
            · have hki2 : ¬ (k : Int) < (i : Int) := by omega
              obtain rfl : k = i := by omega
              have hP2 : Hid (TwoE w2 wr u4 (.slice none 0 0) (pairsU (k + 1) 0) []) := by rw [pairsU_next]; exact hP
              clear hP
              go_wp2
              go_roundw
              case rel => exact ⟨k + 1, hi1n.out, by go_num, hP2⟩
              case measure => have := hi1n.out; simp [intOf]; omega
        · have hki : ¬ (i : Int) < 4 := by omega
          obtain rfl : i = 4 := by omega
          obtain ⟨hbP, hP3, -, -⟩ := hP.out
          rw [pairsU_next 3] at hP3
          have hC3 := hC.out.below hbP
          have hR3 := hR.out.below hbP
          have hb03 := Lib.hid (hbl.out.trans ((hbT.out.trans (hbP.mono hbT.out.size)).mono hbl.out.size))
          obtain ⟨a2, cc2, rfl⟩ := hC3.form
          obtain ⟨a3, cc3, rfl⟩ := hR3.form
          obtain ⟨a4, cc4, rfl⟩ := hP3.form
          have hwc := Lib.hid (fun V (h : Below wr.heap.size wr V) => width_any V a2 cc2 (chainE 7) chain_few.1 chain_few.2 ((hC3.below h).read chain_small))
          have hwr := Lib.hid (fun V (h : Below wr.heap.size wr V) => width_any V a3 cc3 (ringE 7) ring_few.1 ring_few.2 ((hR3.below h).read ring_small))
          have hwp := Lib.hid (fun V (h : Below wr.heap.size wr V) => width_any V a4 cc4 (pairsU 3 3) pairs_few.1 pairs_few.2 ((hP3.below h).read pairs_small))
          have hwn := Lib.hid (fun V => width_any V none 0 [] (by decide) (by decide) (edges_nil V _))
          have hdn := Lib.hid (fun V => decompose_any V none 0 [] 1 5 (by decide) (by decide) (edges_nil V _))
          rw [chainE_len] at hwc
          rw [ringE_len] at hwr
          rw [show (pairsU 3 3).length = 6 from rfl] at hwp
          replace hC3 := Lib.hid hC3
          replace hR3 := Lib.hid hR3
          replace hP3 := Lib.hid hP3
          rw [chainE_len, ringE_len, show (pairsU 3 3).length = 6 from rfl]
          clear hbP hP hC hR hbT hbl hlt hi hnm2 hnm
          generalize wr = w3 at *
          go_wp2_with fail
          refine (hwc.out w3 (Below.refl _ _)).mono ?_
          rintro e w4 ⟨hb4, rfl⟩
          rw [chain_wid]
          simp only []
          replace hb4 := Lib.hid hb4
          clear hwc
          go_wp2_with fail
          refine (hwr.out w4 hb4.out).mono ?_
          rintro e w5 ⟨hb5, rfl⟩
          have hb5 := Lib.hid (hb4.out.trans (hb5.mono hb4.out.size))
          rw [ring_wid]
          simp only []
          clear hwr hb4
          go_wp2_with fail
          refine (hwp.out w5 hb5.out).mono ?_
          rintro e w6 ⟨hb6, rfl⟩
          have hb6 := Lib.hid (hb5.out.trans (hb6.mono hb5.out.size))
          rw [pairs_wid]
          simp only []
          clear hwp hb5
          go_wp2_with fail
          refine (hwn.out w6).mono ?_
          rintro e w7 ⟨hb7, rfl⟩
          have hb7 := Lib.hid (hb6.out.trans (hb7.mono hb6.out.size))
          rw [nil_wid]
          simp only []
          clear hwn hb6
          go_wp2_with fail
          refine (hdn.out w7).mono ?_
          intro e w8 hdo
          obtain ⟨hb8, al, cl, av, cv, ve, lb, lo, rfl, rfl, k0, k1, k2, zs, hzo⟩ := dec_nil hdo
          have hb8 := hb7.out.trans (hb8.mono hb7.out.size)
          have hbw8 := Lib.hid (hb03.out.trans (hb8.mono hb03.out.size))
          have hR8 := hR3.out.below hb8
          have hP8 := hP3.out.below hb8
          obtain ⟨xs, -, hown, -⟩ := id hR8
          obtain ⟨ys, hyl, hyo, hye⟩ := id hP8
          have hyq : ∀ u ∈ ys, u.oneCell' = true := fun u hu => by
            obtain ⟨j, hj, rfl⟩ := List.getElem_of_mem hu
            obtain ⟨a, c, h⟩ := own_form3 (hye j (by omega) hj)
            rw [h]; rfl
          have hw8 : (nmW w).heap.size ≤ w8.heap.size := by
            rcases hown.2 with ⟨-, h⟩ | ⟨g, _, _, -, hg, hh, _⟩
            · exact absurd h (by decide)
            · have := (Array.getElem?_eq_some_iff.1 hh).1; omega
          obtain ⟨pg, rfl⟩ : ∃ g, a4 = some ⟨g, 0, none⟩ := by
            rcases hyo.2 with ⟨-, h⟩ | ⟨g, _, _, h, -⟩
            · exact absurd h (by decide)
            · injection h with h1; exact ⟨g, h1⟩
          have hyc := hyo.cells (g := pg) rfl
          have hlt8 := (hzo.lt lb (by rfl)).2
          rw [ringE_len] at hown
          have hyl6 : ys.length = 6 := hyl
          replace hR8 := Lib.hid hR8
          replace hP8 := Lib.hid hP8
          replace hzo := Lib.hid hzo
          replace hyo := Lib.hid hyo
          clear hdo hdn hb7 hye hyl hb8 hb03 hR3 hP3 hC3
          go_wp2_with (at_builtin; refine wpList_append_own_at _ rfl _ _ 22 rfl (nmW w).heap.size 35 i1 (.slice none 0 0) 1 24 Try.underlying22 hi1.out hy0.out hy1.out hy2.out rfl (by decide) _ 7 xs rfl hown ⟨pg, 0, none⟩ 6 cc4 ys rfl ?z1 ?z2 ?z3 ?z4 ?z5 ?z6 ?z7)
          case z1 => exact hyl6
          case z2 => exact hyc
          case z3 => exact hyq
          case z4 => unfold maxLen; omega
          case z5 => omega
          case z6 => exact hw8
          case z7 =>
            intro v9 w9 h1 h2 _ _
            have hEA := edges_append hR8.out (by rw [ringE_len]; exact hown) hP8.out hyo.out h1 h2 both_small
            obtain ⟨a9, c9, rfl, -⟩ := hEA.form
            have hwb := width_any w9 a9 c9 _ both_few.1 both_few.2 hEA
            have hap : lb < w8.heap.size ∧ some lb ≠ (Value.slice a3 7 cc3).ownBlock := by
              refine ⟨hlt8, fun e => ?_⟩
              rcases own_apart3 hzo.out hown (by decide) with h | h
              · cases h
              · exact h e
            have hch : ∀ i, w9.cell? ⟨lb, i, none⟩ = w8.cell? ⟨lb, i, none⟩ := fun i => cell_heap (h2.block lb hap.1 hap.2)
            replace k0 := (hch _).trans k0
            replace k1 := (hch _).trans k1
            replace k2 := (hch _).trans k2
            have hb9 := Lib.hid (hbw8.out.grown h2 hbw8.out.size (fun k hk => by have := (hown.lt k hk).1; omega))
            replace hwb := Lib.hid hwb
            clear hch hap hEA h1 h2 hown hyc hyq hR8 hP8 hzo hyo hbw8
            go_wp2_with fail
            refine hwb.out.mono ?_
            rintro e w10 ⟨hb10, rfl⟩
            rw [both_wid]
            simp only []
            have hst := stay_of_below hb10
            replace k0 := hst.cell k0
            replace k1 := hst.cell k1
            replace k2 := hst.cell k2
            have hb11 := Lib.hid (hb9.out.trans (hb10.mono hb9.out.size))
            clear hb10 hb9 hst hwb
            go_wp2_with fail
            refine (wakes_any w10).mono ?_
            rintro e w11 ⟨rfl, hb12⟩
            have hb13 := Lib.hid (hb11.out.trans (hb12.mono hb11.out.size))
            clear hb12 hb11
            go_wp2
            go_ret
            exact ⟨rfl, hb13.out⟩
end Go.Proofs.Ytnocncmjdhlmkaa.hyp
